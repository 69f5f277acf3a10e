/-
  The drum's methods: Read, Append, Write, Sync.
-/
import Derived.Test.YtejlmcdmoghmaaaDs
namespace Go.Proofs.Ytejlmcdmoghmaaa
open Go
set_option linter.unusedSimpArgs false
set_option linter.unusedVariables false

theorem lookN_ok {n : Nat} {off : Bool} {i : Int} (h : lookN n off i = 0) : 0 ≤ i ∧ i < (n : Int) ∧ off = false := by
  unfold lookN at h
  split at h
  · cases h
  · split at h
    · cases h
    · rename_i h1 h2
      exact ⟨by omega, by omega, by simpa using h2⟩
theorem DrumAt.at {w : World} {F : Nat → Prop} {p g : Nat} {l : List TrkV} {D : DS} {i : Int} (h : DrumAt w F p g l D) (hi : D.look i = 0) : ∃ t, l[i.toNat]? = some t ∧ TrkOK w t (D.track i.toNat) ∧ i.toNat < D.l.length := by
  have h1 := lookN_ok hi
  have h2 : i.toNat < D.l.length := by omega
  have h3 : i.toNat < l.length := by rw [h.len]; exact h2
  exact ⟨_, List.getElem?_eq_getElem h3, h.ok _ _ _ (List.getElem?_eq_getElem h3) (DS.track_get h2), h2⟩

theorem trkC_fp {l : List TrkV} {i : Nat} {a b : Value} {c : Bool} {F1 F2 G1 G2 : Nat → Prop} : trkC (l.set i ⟨a, b, c, F1, F2⟩) = trkC (l.set i ⟨a, b, c, G1, G2⟩) := by
  induction l generalizing i with
  | nil => rfl
  | cons x l ih =>
    cases i with
    | zero => rfl
    | succ i => rw [List.set_cons_succ, List.set_cons_succ, trkC_cons, trkC_cons, ih]
theorem Own.one {w : World} {F : Nat → Prop} {T : TypeId} {sz n : Nat} {v : Value} {xs : List Value} (h : Own w F T sz v n xs) : v.oneCell' = true := by
  obtain ⟨A, c, rfl, _⟩ := h.form
  rfl

theorem Read_bad {w : World} {F : Nat → Prop} {p : Nat} {D : DS} {i : Int} (h : IsD w F p D) (hi : D.look i ≠ 0) : Ret Try.prog 20 #[.pointer (some ⟨p, 0, none⟩), .int .i64 i] w fun v' w' => v' = .tuple #[.slice none 0 0, .int .i64 (D.look i : Int)] ∧ w = w' := by
  obtain ⟨g, l, h⟩ := h
  have hb := h.hd
  refine enterRet (vs := [_, _]) (N := 22) Try.func20 rfl rfl rfl ?_
  refine WC.keep [(0, _), (1, _)] ⟨rfl, rfl, trivial⟩ ?_
  refine WC.seq ?_
  refine WC.region ?_
  refine WL.val rfl rfl rfl rfl (r_assign rfl ev_c) ?_
  refine WL.val rfl rfl rfl rfl (r_assign rfl ev_c) ?_
  refine WL.nil ?_
  refine WX.keep [(0, _), (1, _)] ⟨rfl, rfl, trivial⟩ ?_
  refine WX.next ?_
  refine WC.seq ?_
  refine WC.seq ?_
  refine WC.region ?_
  refine WL.val rfl rfl rfl rfl (r_move rfl (ev_t rfl)) ?_
  refine WL.val rfl rfl rfl rfl (r_move rfl (ev_t rfl)) ?_
  refine WL.cons (SO.call (look_ok hb) rfl body_40 ⟨(ev_t rfl), (ev_t rfl), trivial⟩ rfl rfl rfl rfl ?_)
  rintro v w' ⟨rfl, rfl⟩
  refine WL.val rfl rfl rfl rfl (r_assign rfl (ev_t rfl)) ?_
  refine WL.nil ?_
  refine WX.keep [(0, _), (1, _), (6, _)] ⟨rfl, rfl, rfl, trivial⟩ ?_
  refine WX.next ?_
  refine WC.seq ?_
  refine WC.region ?_
  refine WL.val rfl rfl rfl rfl (r_move rfl (ev_t rfl)) ?_
  refine WL.val rfl rfl rfl rfl (r_neq rfl (ev_t rfl) ev_c) ?_
  refine WL.nil ?_
  refine WX.keep [(0, _), (1, _), (6, _), (11, _)] ⟨rfl, rfl, rfl, rfl, trivial⟩ ?_
  refine WX.next ?_
  refine WC.cond rfl (ev_t rfl) (fun hc2 => ?_) (fun hc2 => ?_)
  · try (exfalso; first | (simp at hc2; done) | (simp only [decide_eq_true_eq, decide_eq_false_iff_not, Bool.not_eq_true', Bool.not_eq_false', Bool.not_eq_true, Bool.not_eq_false] at hc2; omega) | omega)
    all_goals
     try simp only [decide_eq_true_eq, decide_eq_false_iff_not, Bool.not_eq_true', Bool.not_eq_false', Bool.not_eq_true, Bool.not_eq_false, Option.isNone_none, Option.isNone_some, Option.isSome_none, Option.isSome_some, ne_eq, Decidable.not_not] at hc2
     refine WC.seq ?_
     refine WC.region ?_
     refine WL.val rfl rfl rfl rfl (r_move rfl (ev_t rfl)) ?_
     refine WL.val rfl rfl rfl rfl (r_assign rfl ev_c) ?_
     refine WL.val rfl rfl rfl rfl (r_assign rfl (ev_t rfl)) ?_
     refine WL.nil ?_
     refine WX.keep [(4, _), (5, _)] ⟨rfl, rfl, trivial⟩ ?_
     refine WX.next ?_
     refine WC.ret ?_
     refine WX.thenRet ?_
     refine WX.retE2 rfl rfl rfl ?_
     exact ⟨rfl, rfl⟩
  · try simp only [decide_eq_true_eq, decide_eq_false_iff_not, Bool.not_eq_true', Bool.not_eq_false', Bool.not_eq_true, Bool.not_eq_false, Option.isNone_none, Option.isNone_some, Option.isSome_none, Option.isSome_some, ne_eq, Decidable.not_not] at hc2
    exfalso
    exact hi (by simp only [DS.look]; omega)
theorem Read_nil {w : World} {i : Int} : Ret Try.prog 20 #[.pointer none, .int .i64 i] w fun v' w' => v' = .tuple #[.slice none 0 0, .int .i64 6] ∧ w = w' := by
  refine enterRet (vs := [_, _]) (N := 22) Try.func20 rfl rfl rfl ?_
  refine WC.keep [(0, _), (1, _)] ⟨rfl, rfl, trivial⟩ ?_
  refine WC.seq ?_
  refine WC.region ?_
  refine WL.val rfl rfl rfl rfl (r_assign rfl ev_c) ?_
  refine WL.val rfl rfl rfl rfl (r_assign rfl ev_c) ?_
  refine WL.nil ?_
  refine WX.keep [(0, _), (1, _)] ⟨rfl, rfl, trivial⟩ ?_
  refine WX.next ?_
  refine WC.seq ?_
  refine WC.seq ?_
  refine WC.region ?_
  refine WL.val rfl rfl rfl rfl (r_move rfl (ev_t rfl)) ?_
  refine WL.val rfl rfl rfl rfl (r_move rfl (ev_t rfl)) ?_
  refine WL.cons (SO.call (look_nil) rfl body_40 ⟨(ev_t rfl), (ev_t rfl), trivial⟩ rfl rfl rfl rfl ?_)
  rintro v w' ⟨rfl, rfl⟩
  refine WL.val rfl rfl rfl rfl (r_assign rfl (ev_t rfl)) ?_
  refine WL.nil ?_
  refine WX.keep [(0, _), (1, _), (6, _)] ⟨rfl, rfl, rfl, trivial⟩ ?_
  refine WX.next ?_
  refine WC.seq ?_
  refine WC.region ?_
  refine WL.val rfl rfl rfl rfl (r_move rfl (ev_t rfl)) ?_
  refine WL.val rfl rfl rfl rfl (r_neq rfl (ev_t rfl) ev_c) ?_
  refine WL.nil ?_
  refine WX.keep [(0, _), (1, _), (6, _), (11, _)] ⟨rfl, rfl, rfl, rfl, trivial⟩ ?_
  refine WX.next ?_
  refine WC.cond rfl (ev_t rfl) (fun hc2 => ?_) (fun hc2 => ?_)
  · try (exfalso; first | (simp at hc2; done) | (simp only [decide_eq_true_eq, decide_eq_false_iff_not, Bool.not_eq_true', Bool.not_eq_false', Bool.not_eq_true, Bool.not_eq_false] at hc2; omega) | omega)
    all_goals
     try simp only [decide_eq_true_eq, decide_eq_false_iff_not, Bool.not_eq_true', Bool.not_eq_false', Bool.not_eq_true, Bool.not_eq_false, Option.isNone_none, Option.isNone_some, Option.isSome_none, Option.isSome_some, ne_eq, Decidable.not_not] at hc2
     refine WC.seq ?_
     refine WC.region ?_
     refine WL.val rfl rfl rfl rfl (r_move rfl (ev_t rfl)) ?_
     refine WL.val rfl rfl rfl rfl (r_assign rfl ev_c) ?_
     refine WL.val rfl rfl rfl rfl (r_assign rfl (ev_t rfl)) ?_
     refine WL.nil ?_
     refine WX.keep [(4, _), (5, _)] ⟨rfl, rfl, trivial⟩ ?_
     refine WX.next ?_
     refine WC.ret ?_
     refine WX.thenRet ?_
     refine WX.retE2 rfl rfl rfl ?_
     exact ⟨rfl, rfl⟩
  · try simp only [decide_eq_true_eq, decide_eq_false_iff_not, Bool.not_eq_true', Bool.not_eq_false', Bool.not_eq_true, Bool.not_eq_false, Option.isNone_none, Option.isNone_some, Option.isSome_none, Option.isSome_some, ne_eq, Decidable.not_not] at hc2
    exfalso
    omega
theorem Read_good {w : World} {F : Nat → Prop} {p : Nat} {D : DS} {i : Int} (h : IsD w F p D) (hi : D.look i = 0) : Ret Try.prog 20 #[.pointer (some ⟨p, 0, none⟩), .int .i64 i] w fun v' w' =>
    ∃ v, v' = .tuple #[v, .int .i64 0] ∧ Own w' (New w w') 5 1 v (D.track i.toNat).now.length ((D.track i.toNat).now.map U8) ∧ Upd No w w' := by
  obtain ⟨g, l, h⟩ := h
  obtain ⟨t, ht, hok, hil⟩ := h.at hi
  have hb := h.hd
  have hrow := h.row
  have hi' := lookN_ok hi
  have hl := h.len
  have hwf := (h.wf.trk _ (DS.track_mem hil)).2
  have hm := h.wf.most
  refine enterRet (vs := [_, _]) (N := 22) Try.func20 rfl rfl rfl ?_
  have hU := Upd.refl No w
  refine WC.keep [(0, _), (1, _)] ⟨rfl, rfl, trivial⟩ ?_
  refine WC.seq ?_
  refine WC.region ?_
  refine WL.val rfl rfl rfl rfl (r_assign rfl ev_c) ?_
  refine WL.val rfl rfl rfl rfl (r_assign rfl ev_c) ?_
  refine WL.nil ?_
  refine WX.keep [(0, _), (1, _)] ⟨rfl, rfl, trivial⟩ ?_
  refine WX.next ?_
  refine WC.seq ?_
  refine WC.seq ?_
  refine WC.region ?_
  refine WL.val rfl rfl rfl rfl (r_move rfl (ev_t rfl)) ?_
  refine WL.val rfl rfl rfl rfl (r_move rfl (ev_t rfl)) ?_
  refine WL.cons (SO.call (look_ok hb) rfl body_40 ⟨(ev_t rfl), (ev_t rfl), trivial⟩ rfl rfl rfl rfl ?_)
  rintro v w' ⟨rfl, rfl⟩
  refine WL.val rfl rfl rfl rfl (r_assign rfl (ev_t rfl)) ?_
  refine WL.nil ?_
  refine WX.keep [(0, _), (1, _), (6, _)] ⟨rfl, rfl, rfl, trivial⟩ ?_
  refine WX.next ?_
  refine WC.seq ?_
  refine WC.region ?_
  refine WL.val rfl rfl rfl rfl (r_move rfl (ev_t rfl)) ?_
  refine WL.val rfl rfl rfl rfl (r_neq rfl (ev_t rfl) ev_c) ?_
  refine WL.nil ?_
  refine WX.keep [(0, _), (1, _), (6, _), (11, _)] ⟨rfl, rfl, rfl, rfl, trivial⟩ ?_
  refine WX.next ?_
  refine WC.cond rfl (ev_t rfl) (fun hc2 => ?_) (fun hc2 => ?_)
  · try simp only [decide_eq_true_eq, decide_eq_false_iff_not, Bool.not_eq_true', Bool.not_eq_false', Bool.not_eq_true, Bool.not_eq_false, Option.isNone_none, Option.isNone_some, Option.isSome_none, Option.isSome_some, ne_eq, Decidable.not_not] at hc2
    exfalso
    exact hc2 (by simp only [DS.look] at hi; omega)
  · try (exfalso; first | (simp at hc2; done) | (simp only [decide_eq_true_eq, decide_eq_false_iff_not, Bool.not_eq_true', Bool.not_eq_false', Bool.not_eq_true, Bool.not_eq_false] at hc2; omega) | omega)
    all_goals
     try simp only [decide_eq_true_eq, decide_eq_false_iff_not, Bool.not_eq_true', Bool.not_eq_false', Bool.not_eq_true, Bool.not_eq_false, Option.isNone_none, Option.isNone_some, Option.isSome_none, Option.isSome_some, ne_eq, Decidable.not_not] at hc2
     refine WC.skip ?_
     refine WX.next ?_
     refine WC.seq ?_
     refine WC.region ?_
     refine WL.val rfl rfl rfl rfl (r_move rfl (ev_t rfl)) ?_
     refine WL.val rfl rfl rfl rfl (r_nilCheck rfl (ev_t rfl)) ?_
     first | refine WL.val rfl rfl rfl rfl (r_field0 rfl (ev_t rfl) fld_83_0) ?_ | refine WL.val rfl rfl rfl rfl (r_fieldAt rfl (ev_t rfl) fld_83_0) ?_
     refine WL.val rfl rfl rfl rfl (r_load rfl (ev_t rfl) flat_81 (Blk.cell hb rfl)) ?_
     refine WL.val rfl rfl rfl rfl (r_move rfl (ev_t rfl)) ?_
     refine WL.val rfl rfl rfl rfl (r_indexAddr rfl (ev_t rfl) (ev_t rfl) elem_81 size_86 (by omega) (by omega)) ?_
     first | refine WL.val rfl rfl rfl rfl (r_field0 rfl (ev_t rfl) fld_86_1) ?_ | refine WL.val rfl rfl rfl rfl (r_fieldAt rfl (ev_t rfl) fld_86_1) ?_
     refine WL.val rfl rfl rfl rfl (r_load rfl (ev_t rfl) flat_22 ((row_get hrow ht).2.1 (by omega))) ?_
     refine WL.cons (SO.call (clone_ok (hok.now.rd (by omega))) rfl body_42 ⟨(ev_t rfl), trivial⟩ rfl rfl rfl rfl ?_)
     rintro v w2 ⟨ho, hu2⟩
     have hs2 := hu2.size
     replace hU := hU.transA hu2
     refine WL.val rfl rfl rfl rfl (r_assign rfl (ev_t rfl)) ?_
     refine WL.val rfl rfl rfl rfl (r_assign rfl ev_c) ?_
     refine WL.nil ?_
     refine WX.keep [(4, _), (5, _)] ⟨rfl, rfl, trivial⟩ ?_
     refine WX.next ?_
     refine WC.ret ?_
     refine WX.retE2 rfl rfl rfl ?_
     exact ⟨_, rfl, ho, hU⟩

theorem Append_bad {w : World} {F : Nat → Prop} {p : Nat} {D : DS} {i : Int} {qv : Value} (h : IsD w F p D) (hi : D.look i ≠ 0) : Ret Try.prog 16 #[.pointer (some ⟨p, 0, none⟩), .int .i64 i, qv] w fun v' w' => v' = .int .i64 (D.look i : Int) ∧ w = w' := by
  obtain ⟨g, l, h⟩ := h
  have hb := h.hd
  refine enterRet (vs := [_, _, _]) (N := 48) Try.func16 rfl rfl rfl ?_
  refine WC.keep [(0, _), (1, _), (2, _)] ⟨rfl, rfl, rfl, trivial⟩ ?_
  refine WC.seq ?_
  refine WC.region ?_
  refine WL.val rfl rfl rfl rfl (r_assign rfl ev_c) ?_
  refine WL.nil ?_
  refine WX.keep [(0, _), (1, _), (2, _)] ⟨rfl, rfl, rfl, trivial⟩ ?_
  refine WX.next ?_
  refine WC.seq ?_
  refine WC.seq ?_
  refine WC.region ?_
  refine WL.val rfl rfl rfl rfl (r_move rfl (ev_t rfl)) ?_
  refine WL.val rfl rfl rfl rfl (r_move rfl (ev_t rfl)) ?_
  refine WL.cons (SO.call (look_ok hb) rfl body_40 ⟨(ev_t rfl), (ev_t rfl), trivial⟩ rfl rfl rfl rfl ?_)
  rintro v w' ⟨rfl, rfl⟩
  refine WL.val rfl rfl rfl rfl (r_assign rfl (ev_t rfl)) ?_
  refine WL.nil ?_
  refine WX.keep [(0, _), (1, _), (2, _), (7, _)] ⟨rfl, rfl, rfl, rfl, trivial⟩ ?_
  refine WX.next ?_
  refine WC.seq ?_
  refine WC.region ?_
  refine WL.val rfl rfl rfl rfl (r_move rfl (ev_t rfl)) ?_
  refine WL.val rfl rfl rfl rfl (r_neq rfl (ev_t rfl) ev_c) ?_
  refine WL.nil ?_
  refine WX.keep [(0, _), (1, _), (2, _), (7, _), (14, _)] ⟨rfl, rfl, rfl, rfl, rfl, trivial⟩ ?_
  refine WX.next ?_
  refine WC.cond rfl (ev_t rfl) (fun hc2 => ?_) (fun hc2 => ?_)
  · try (exfalso; first | (simp at hc2; done) | (simp only [decide_eq_true_eq, decide_eq_false_iff_not, Bool.not_eq_true', Bool.not_eq_false', Bool.not_eq_true, Bool.not_eq_false] at hc2; omega) | omega)
    all_goals
     try simp only [decide_eq_true_eq, decide_eq_false_iff_not, Bool.not_eq_true', Bool.not_eq_false', Bool.not_eq_true, Bool.not_eq_false, Option.isNone_none, Option.isNone_some, Option.isSome_none, Option.isSome_some, ne_eq, Decidable.not_not] at hc2
     refine WC.seq ?_
     refine WC.region ?_
     refine WL.val rfl rfl rfl rfl (r_move rfl (ev_t rfl)) ?_
     refine WL.val rfl rfl rfl rfl (r_assign rfl (ev_t rfl)) ?_
     refine WL.nil ?_
     refine WX.keep [(6, _)] ⟨rfl, trivial⟩ ?_
     refine WX.next ?_
     refine WC.ret ?_
     refine WX.thenRet ?_
     refine WX.retE1 rfl rfl ?_
     exact ⟨rfl, rfl⟩
  · try simp only [decide_eq_true_eq, decide_eq_false_iff_not, Bool.not_eq_true', Bool.not_eq_false', Bool.not_eq_true, Bool.not_eq_false, Option.isNone_none, Option.isNone_some, Option.isSome_none, Option.isSome_some, ne_eq, Decidable.not_not] at hc2
    exfalso
    exact hi (by simp only [DS.look]; omega)
theorem Append_nil {w : World} {i : Int} {qv : Value} : Ret Try.prog 16 #[.pointer none, .int .i64 i, qv] w fun v' w' => v' = .int .i64 6 ∧ w = w' := by
  refine enterRet (vs := [_, _, _]) (N := 48) Try.func16 rfl rfl rfl ?_
  refine WC.keep [(0, _), (1, _), (2, _)] ⟨rfl, rfl, rfl, trivial⟩ ?_
  refine WC.seq ?_
  refine WC.region ?_
  refine WL.val rfl rfl rfl rfl (r_assign rfl ev_c) ?_
  refine WL.nil ?_
  refine WX.keep [(0, _), (1, _), (2, _)] ⟨rfl, rfl, rfl, trivial⟩ ?_
  refine WX.next ?_
  refine WC.seq ?_
  refine WC.seq ?_
  refine WC.region ?_
  refine WL.val rfl rfl rfl rfl (r_move rfl (ev_t rfl)) ?_
  refine WL.val rfl rfl rfl rfl (r_move rfl (ev_t rfl)) ?_
  refine WL.cons (SO.call (look_nil) rfl body_40 ⟨(ev_t rfl), (ev_t rfl), trivial⟩ rfl rfl rfl rfl ?_)
  rintro v w' ⟨rfl, rfl⟩
  refine WL.val rfl rfl rfl rfl (r_assign rfl (ev_t rfl)) ?_
  refine WL.nil ?_
  refine WX.keep [(0, _), (1, _), (2, _), (7, _)] ⟨rfl, rfl, rfl, rfl, trivial⟩ ?_
  refine WX.next ?_
  refine WC.seq ?_
  refine WC.region ?_
  refine WL.val rfl rfl rfl rfl (r_move rfl (ev_t rfl)) ?_
  refine WL.val rfl rfl rfl rfl (r_neq rfl (ev_t rfl) ev_c) ?_
  refine WL.nil ?_
  refine WX.keep [(0, _), (1, _), (2, _), (7, _), (14, _)] ⟨rfl, rfl, rfl, rfl, rfl, trivial⟩ ?_
  refine WX.next ?_
  refine WC.cond rfl (ev_t rfl) (fun hc2 => ?_) (fun hc2 => ?_)
  · try (exfalso; first | (simp at hc2; done) | (simp only [decide_eq_true_eq, decide_eq_false_iff_not, Bool.not_eq_true', Bool.not_eq_false', Bool.not_eq_true, Bool.not_eq_false] at hc2; omega) | omega)
    all_goals
     try simp only [decide_eq_true_eq, decide_eq_false_iff_not, Bool.not_eq_true', Bool.not_eq_false', Bool.not_eq_true, Bool.not_eq_false, Option.isNone_none, Option.isNone_some, Option.isSome_none, Option.isSome_some, ne_eq, Decidable.not_not] at hc2
     refine WC.seq ?_
     refine WC.region ?_
     refine WL.val rfl rfl rfl rfl (r_move rfl (ev_t rfl)) ?_
     refine WL.val rfl rfl rfl rfl (r_assign rfl (ev_t rfl)) ?_
     refine WL.nil ?_
     refine WX.keep [(6, _)] ⟨rfl, trivial⟩ ?_
     refine WX.next ?_
     refine WC.ret ?_
     refine WX.thenRet ?_
     refine WX.retE1 rfl rfl ?_
     exact ⟨rfl, rfl⟩
  · try simp only [decide_eq_true_eq, decide_eq_false_iff_not, Bool.not_eq_true', Bool.not_eq_false', Bool.not_eq_true, Bool.not_eq_false, Option.isNone_none, Option.isNone_some, Option.isSome_none, Option.isSome_some, ne_eq, Decidable.not_not] at hc2
    exfalso
    omega
theorem Append_good {w : World} {F G : Nat → Prop} {p : Nat} {D : DS} {i : Int} {qv : Value} {m : Nat} {q : List UInt8} (h : IsD w F p D) (hi : D.look i = 0) (hr : Rd w G qv m 1 (q.map U8)) (hG : ∀ k, G k → k < w.heap.size → ¬ F k) :
    Ret Try.prog 16 #[.pointer (some ⟨p, 0, none⟩), .int .i64 i, qv] w fun v' w' => v' = .int .i64 ((D.append i q).2 : Int) ∧ IsD w' (Grow F w w') p (D.append i q).1 ∧ Upd F w w' := by
  obtain ⟨g, l, h⟩ := h
  obtain ⟨t, ht, hok, hil⟩ := h.at hi
  have hb := h.hd
  have hrow := h.row
  have hi' := lookN_ok hi
  have hl := h.len
  have hwf := (h.wf.trk _ (DS.track_mem hil)).2
  have hws := (h.wf.trk _ (DS.track_mem hil)).1
  have hm := h.wf.most
  have hpg := h.ne
  have hfp := h.fp _ _ ht
  have h2 := h.two _ _ ht
  have hq := hr.lenB
  obtain ⟨Aq, cq, rfl, hcq⟩ := hr.slice_form
  have hqm := hr.le
  obtain ⟨sv, nv, fr, FS, FN⟩ := t
  obtain ⟨hsure, hnow, hfr⟩ := hok
  dsimp only at hsure hnow hfr hfp h2
  obtain ⟨An, cn, rfl, hcn⟩ := Own.form hnow
  have hSF : ∀ k, k < w.heap.size → trkS p g ⟨sv, .slice An (D.track i.toNat).now.length cn, fr, FS, FN⟩ k → F k := fun k _ hk => by
    rcases hk with rfl | rfl | hk
    · exact h.own.1
    · exact h.own.2
    · exact (hfp k hk).1
  refine enterRet (vs := [_, _, _]) (N := 48) Try.func16 rfl rfl rfl ?_
  have hU := Upd.refl (trkS p g ⟨sv, .slice An (D.track i.toNat).now.length cn, fr, FS, FN⟩) w
  replace hr := hr.bound
  refine WC.keep [(0, _), (1, _), (2, _)] ⟨rfl, rfl, rfl, trivial⟩ ?_
  refine WC.seq ?_
  refine WC.region ?_
  refine WL.val rfl rfl rfl rfl (r_assign rfl ev_c) ?_
  refine WL.nil ?_
  refine WX.keep [(0, _), (1, _), (2, _)] ⟨rfl, rfl, rfl, trivial⟩ ?_
  refine WX.next ?_
  refine WC.seq ?_
  refine WC.seq ?_
  refine WC.region ?_
  refine WL.val rfl rfl rfl rfl (r_move rfl (ev_t rfl)) ?_
  refine WL.val rfl rfl rfl rfl (r_move rfl (ev_t rfl)) ?_
  refine WL.cons (SO.call (look_ok hb) rfl body_40 ⟨(ev_t rfl), (ev_t rfl), trivial⟩ rfl rfl rfl rfl ?_)
  rintro v w' ⟨rfl, rfl⟩
  refine WL.val rfl rfl rfl rfl (r_assign rfl (ev_t rfl)) ?_
  refine WL.nil ?_
  refine WX.keep [(0, _), (1, _), (2, _), (7, _)] ⟨rfl, rfl, rfl, rfl, trivial⟩ ?_
  refine WX.next ?_
  refine WC.seq ?_
  refine WC.region ?_
  refine WL.val rfl rfl rfl rfl (r_move rfl (ev_t rfl)) ?_
  refine WL.val rfl rfl rfl rfl (r_neq rfl (ev_t rfl) ev_c) ?_
  refine WL.nil ?_
  refine WX.keep [(0, _), (1, _), (2, _), (7, _), (14, _)] ⟨rfl, rfl, rfl, rfl, rfl, trivial⟩ ?_
  refine WX.next ?_
  refine WC.cond rfl (ev_t rfl) (fun hc2 => ?_) (fun hc2 => ?_)
  · try simp only [decide_eq_true_eq, decide_eq_false_iff_not, Bool.not_eq_true', Bool.not_eq_false', Bool.not_eq_true, Bool.not_eq_false, Option.isNone_none, Option.isNone_some, Option.isSome_none, Option.isSome_some, ne_eq, Decidable.not_not] at hc2
    exfalso
    exact hc2 (by simp only [DS.look] at hi; omega)
  · try (exfalso; first | (simp at hc2; done) | (simp only [decide_eq_true_eq, decide_eq_false_iff_not, Bool.not_eq_true', Bool.not_eq_false', Bool.not_eq_true, Bool.not_eq_false] at hc2; omega) | omega)
    all_goals
     try simp only [decide_eq_true_eq, decide_eq_false_iff_not, Bool.not_eq_true', Bool.not_eq_false', Bool.not_eq_true, Bool.not_eq_false, Option.isNone_none, Option.isNone_some, Option.isSome_none, Option.isSome_some, ne_eq, Decidable.not_not] at hc2
     refine WC.skip ?_
     refine WX.next ?_
     refine WC.seq ?_
     refine WC.region ?_
     refine WL.val rfl rfl rfl rfl (r_move rfl (ev_t rfl)) ?_
     refine WL.val rfl rfl rfl rfl (r_nilCheck rfl (ev_t rfl)) ?_
     first | refine WL.val rfl rfl rfl rfl (r_field0 rfl (ev_t rfl) fld_83_0) ?_ | refine WL.val rfl rfl rfl rfl (r_fieldAt rfl (ev_t rfl) fld_83_0) ?_
     refine WL.val rfl rfl rfl rfl (r_load rfl (ev_t rfl) flat_81 (Blk.cell hb rfl)) ?_
     refine WL.val rfl rfl rfl rfl (r_move rfl (ev_t rfl)) ?_
     refine WL.val rfl rfl rfl rfl (r_indexAddr rfl (ev_t rfl) (ev_t rfl) elem_81 size_86 (by omega) (by omega)) ?_
     refine WL.val rfl rfl rfl rfl (r_assign rfl (ev_t rfl)) ?_
     refine WL.nil ?_
     refine WX.keep [(0, _), (2, _), (8, _)] ⟨rfl, rfl, rfl, trivial⟩ ?_
     refine WX.next ?_
     refine WC.seq ?_
     refine WC.seq ?_
     refine WC.draws' (fun u0_ u1_ => Upd No u0_ u1_) (fun j => [0, 0, 0, 0, 0, 0, 0, 0, 0, 1, 0, 0, 0].getD j 0) (.calm 0 (.calm 1 (.calm 2 (.calm 3 (.calm 4 (.calm 6 (.calm 7 (.calm 8 (.held 5 (.one 9 (.calm 10 (.calm 11 (.calm 12 (.done)))))))))))))) mixed (by kernel_rfl) (by repeat (first | with_reducible exact Deaf.body | with_reducible apply Deaf.then | with_reducible apply Deaf.block)) ?_
     intro w2 hu2
     have hz2 := congrArg Array.size hu2.2.2.2
     replace hu2 := Upd.of_draw hu2
     have hs2 := hu2.size
     replace hU := hU.trans hu2 (by first | exact (fun _ _ h => h) | exact (fun _ _ h => h.elim) | (intro k hl hk; (try simp only [At, New, Grow, From, No] at hk ⊢); omega) | (intro k hl hk; first | exact .inl hk | exact .inr (.inl hk) | exact .inr (.inr (.inr hk))))
     replace hb := hb.upd hu2 (by first | exact (fun h => h) | exact (fun h => (hfp _ (.inr h)).2.1 rfl) | exact hpg)
     replace hrow := hrow.upd hu2 (by first | exact (fun h => h) | exact (fun e => hpg e.symm) | exact (fun h => (hfp _ (.inr h)).2.2.1 rfl))
     replace hsure := hsure.upd hu2 (by first | exact (fun _ _ _ h => h) | exact (fun k hk _ e => (hfp k (.inl hk)).2.1 e) | exact (fun k hk _ e => (hfp k (.inl hk)).2.2.1 e) | exact (fun k hk _ e => h2 k hk e))
     replace hnow := hnow.upd hu2 (by first | exact (fun _ _ _ h => h) | exact (fun k hk _ e => (hfp k (.inr hk)).2.1 e) | (intro k hk hl e; simp only [At] at e; subst e; exact hk.elim (fun hk => (hfp _ (.inr hk)).2.2.1 rfl) (fun hk => by have := h.row.lt; omega)))
     replace hr := hr.upd hu2 (by first | exact (fun _ _ _ h => h) | (intro k hk hl e; exact hG k hk.1 hk.2 (by first | exact (e ▸ h.own.1) | exact (e ▸ h.own.2) | exact (hfp k (.inr e)).1)))
     have hS5 := Upd.refl No w2
     refine WN.calm _ rfl rfl rfl rfl rfl (fun _ => r_move rfl (ev_t rfl)) ?_
     refine WN.calm _ rfl rfl rfl rfl rfl (fun _ => r_lenSlice (ts := #[]) rfl (ev_t rfl) elem_22) ?_
     refine WN.calm _ rfl rfl rfl rfl rfl (fun _ => r_move rfl (ev_t rfl)) ?_
     refine WN.calm _ rfl rfl rfl rfl rfl (fun _ => r_nilCheck rfl (ev_t rfl)) ?_
     first | refine WN.calm _ rfl rfl rfl rfl rfl (fun _ => r_field0 rfl (ev_t rfl) fld_83_1) ?_ | refine WN.calm _ rfl rfl rfl rfl rfl (fun _ => r_fieldAt rfl (ev_t rfl) fld_83_1) ?_
     refine WN.calm _ rfl rfl rfl rfl rfl (fun _ => r_move rfl (ev_t rfl)) ?_
     refine WN.calm _ rfl rfl rfl rfl rfl (fun _ => r_nilCheck rfl (ev_t rfl)) ?_
     first | refine WN.calm _ rfl rfl rfl rfl rfl (fun _ => r_field0 rfl (ev_t rfl) fld_86_1) ?_ | refine WN.calm _ rfl rfl rfl rfl rfl (fun _ => r_fieldAt rfl (ev_t rfl) fld_86_1) ?_
     refine WN.held _ rfl rfl rfl rfl rfl hS5 (fun w' hS => r_load rfl (ev_t rfl) flat_3 (Blk.cell (hb.upd hS (fun h => h)) rfl)) ?_
     refine WN.step _ rfl (SO.val rfl rfl rfl rfl (r_load rfl (ev_t rfl) flat_22 ((row_get hrow ht).2.1 (by omega))) ?_)
     refine ⟨hS5, ?_⟩
     refine WN.calm _ rfl rfl rfl rfl rfl (fun _ => r_lenSlice (ts := #[]) rfl (ev_t rfl) elem_22) ?_
     first | refine WN.calm _ rfl rfl rfl rfl rfl (fun _ => r_subN rfl (ev_t rfl) (ev_t rfl) (by simp only [inK]; omega)) ?_ | refine WN.calm _ rfl rfl rfl rfl rfl (fun _ => r_sub rfl (ev_t rfl) (ev_t rfl)) ?_
     refine WN.calm _ rfl rfl rfl rfl rfl (fun _ => r_gtr rfl (ev_t rfl) (ev_t rfl)) ?_
     refine WN.done ?_
     refine WX.keep [(0, _), (2, _), (8, _), (34, _)] ⟨rfl, rfl, rfl, rfl, trivial⟩ ?_
     refine WX.next ?_
     refine WC.cond rfl (ev_t rfl) (fun hc5 => ?_) (fun hc5 => ?_)
     · try (exfalso; first | (simp at hc5; done) | (simp only [decide_eq_true_eq, decide_eq_false_iff_not, Bool.not_eq_true', Bool.not_eq_false', Bool.not_eq_true, Bool.not_eq_false] at hc5; omega) | omega)
       all_goals
        try simp only [decide_eq_true_eq, decide_eq_false_iff_not, Bool.not_eq_true', Bool.not_eq_false', Bool.not_eq_true, Bool.not_eq_false, Option.isNone_none, Option.isNone_some, Option.isSome_none, Option.isSome_some, ne_eq, Decidable.not_not] at hc5
        refine WC.seq ?_
        refine WC.region ?_
        refine WL.val rfl rfl rfl rfl (r_assign rfl ev_c) ?_
        refine WL.nil ?_
        refine WX.keep [(6, _)] ⟨rfl, trivial⟩ ?_
        refine WX.next ?_
        refine WC.ret ?_
        refine WX.thenRet ?_
        refine WX.retE1 rfl rfl ?_
        have e1 : D.append i q = (D, 13) := by unfold DS.append; rw [if_neg (by omega), if_pos (by omega)]
        rw [e1]
        exact ⟨rfl, ⟨g, l, (h.upd hu2 (fun _ _ _ h => h)).mono (fun k hk _ => .inl hk)⟩, hU.mono hSF⟩
     · try (exfalso; first | (simp at hc5; done) | (simp only [decide_eq_true_eq, decide_eq_false_iff_not, Bool.not_eq_true', Bool.not_eq_false', Bool.not_eq_true, Bool.not_eq_false] at hc5; omega) | omega)
       all_goals
        try simp only [decide_eq_true_eq, decide_eq_false_iff_not, Bool.not_eq_true', Bool.not_eq_false', Bool.not_eq_true, Bool.not_eq_false, Option.isNone_none, Option.isNone_some, Option.isSome_none, Option.isSome_some, ne_eq, Decidable.not_not] at hc5
        refine WC.skip ?_
        refine WX.next ?_
        refine WC.seq ?_
        refine WC.region ?_
        refine WL.val rfl rfl rfl rfl (r_move rfl (ev_t rfl)) ?_
        refine WL.cons (SO.call (begin_ok hb h.wf.armed) rfl body_41 ⟨(ev_t rfl), trivial⟩ rfl rfl rfl rfl ?_)
        rintro v w3 ⟨rfl, hb, hu3⟩
        have hs3 := hu3.size
        replace hU := hU.trans hu3 (by first | exact (fun _ _ h => h) | exact (fun _ _ h => h.elim) | (intro k hl hk; (try simp only [At, New, Grow, From, No] at hk ⊢); omega) | (intro k hl hk; first | exact .inl hk | exact .inr (.inl hk) | exact .inr (.inr (.inr hk))))
        replace hrow := hrow.upd hu3 (by first | exact (fun h => h) | exact (fun e => hpg e.symm) | exact (fun h => (hfp _ (.inr h)).2.2.1 rfl))
        replace hsure := hsure.upd hu3 (by first | exact (fun _ _ _ h => h) | exact (fun k hk _ e => (hfp k (.inl hk)).2.1 e) | exact (fun k hk _ e => (hfp k (.inl hk)).2.2.1 e) | exact (fun k hk _ e => h2 k hk e))
        replace hnow := hnow.upd hu3 (by first | exact (fun _ _ _ h => h) | exact (fun k hk _ e => (hfp k (.inr hk)).2.1 e) | (intro k hk hl e; simp only [At] at e; subst e; exact hk.elim (fun hk => (hfp _ (.inr hk)).2.2.1 rfl) (fun hk => by have := h.row.lt; omega)))
        replace hr := hr.upd hu3 (by first | exact (fun _ _ _ h => h) | (intro k hk hl e; exact hG k hk.1 hk.2 (by first | exact (e ▸ h.own.1) | exact (e ▸ h.own.2) | exact (hfp k (.inr e)).1)))
        refine WL.val rfl rfl rfl rfl (r_assign rfl (ev_t rfl)) ?_
        refine WL.nil ?_
        refine WX.keep [(2, _), (8, _), (9, _)] ⟨rfl, rfl, rfl, trivial⟩ ?_
        refine WX.next ?_
        refine WC.seq ?_
        refine WC.region ?_
        refine WL.val rfl rfl rfl rfl (r_move rfl (ev_t rfl)) ?_
        refine WL.val rfl rfl rfl rfl (r_move rfl (ev_t rfl)) ?_
        refine WL.val rfl rfl rfl rfl (r_nilCheck rfl (ev_t rfl)) ?_
        first | refine WL.val rfl rfl rfl rfl (r_field0 rfl (ev_t rfl) fld_86_1) ?_ | refine WL.val rfl rfl rfl rfl (r_fieldAt rfl (ev_t rfl) fld_86_1) ?_
        refine WL.val rfl rfl rfl rfl (r_load rfl (ev_t rfl) flat_22 ((row_get hrow ht).2.1 (by omega))) ?_
        refine WL.val rfl rfl rfl rfl (r_move rfl (ev_t rfl)) ?_
        refine WL.cons (SO.append hnow hr row_22 (U8_one _) (le_maxLen (by omega)) (by omega) rfl (ev_t rfl) (ev_t rfl) rfl rfl rfl rfl ?_)
        intro v4 w4 hnow hu4
        have hs4 := hu4.size
        replace hU := hU.trans hu4 (by first | exact (fun _ _ h => h) | exact (fun _ _ h => h.elim) | (intro k hl hk; (try simp only [At, New, Grow, From, No] at hk ⊢); omega) | (intro k hl hk; first | exact .inl hk | exact .inr (.inl hk) | exact .inr (.inr (.inr hk))))
        replace hb := hb.upd hu4 (by first | exact (fun h => h) | exact (fun h => (hfp _ (.inr h)).2.1 rfl) | exact hpg)
        replace hrow := hrow.upd hu4 (by first | exact (fun h => h) | exact (fun e => hpg e.symm) | exact (fun h => (hfp _ (.inr h)).2.2.1 rfl))
        replace hsure := hsure.upd hu4 (by first | exact (fun _ _ _ h => h) | exact (fun k hk _ e => (hfp k (.inl hk)).2.1 e) | exact (fun k hk _ e => (hfp k (.inl hk)).2.2.1 e) | exact (fun k hk _ e => h2 k hk e))
        replace hr := hr.upd hu4 (by first | exact (fun _ _ _ h => h) | (intro k hk hl e; exact hG k hk.1 hk.2 (by first | exact (e ▸ h.own.1) | exact (e ▸ h.own.2) | exact (hfp k (.inr e)).1)))
        obtain ⟨A4, c4, rfl, hc4⟩ := Own.form hnow
        refine WL.val rfl rfl rfl rfl (r_nilCheck rfl (ev_t rfl)) ?_
        first | refine WL.val rfl rfl rfl rfl (r_field0 rfl (ev_t rfl) fld_86_1) ?_ | refine WL.val rfl rfl rfl rfl (r_fieldAt rfl (ev_t rfl) fld_86_1) ?_
        refine WL.cons (SO.store rfl (ev_t rfl) (ev_t rfl) size_22 hrow (blt_of (by rw [trkC_size]; omega)) rfl rfl rfl rfl ?_)
        intro w5 hu5 hrow hzs
        have hs5 := hu5.size
        replace hU := hU.trans hu5 (by first | exact (fun _ _ h => h) | exact (fun _ _ h => h.elim) | (intro k hl hk; (try simp only [At, New, Grow, From, No] at hk ⊢); omega) | (intro k hl hk; first | exact .inl hk | exact .inr (.inl hk) | exact .inr (.inr (.inr hk))))
        replace hb := hb.upd hu5 (by first | exact (fun h => h) | exact (fun h => (hfp _ (.inr h)).2.1 rfl) | exact hpg)
        replace hsure := hsure.upd hu5 (by first | exact (fun _ _ _ h => h) | exact (fun k hk _ e => (hfp k (.inl hk)).2.1 e) | exact (fun k hk _ e => (hfp k (.inl hk)).2.2.1 e) | exact (fun k hk _ e => h2 k hk e))
        replace hnow := hnow.upd hu5 (by first | exact (fun _ _ _ h => h) | exact (fun k hk _ e => (hfp k (.inr hk)).2.1 e) | (intro k hk hl e; simp only [At] at e; subst e; exact hk.elim (fun hk => (hfp _ (.inr hk)).2.2.1 rfl) (fun hk => by have := h.row.lt; omega)))
        replace hr := hr.upd hu5 (by first | exact (fun _ _ _ h => h) | (intro k hk hl e; exact hG k hk.1 hk.2 (by first | exact (e ▸ h.own.1) | exact (e ▸ h.own.2) | exact (hfp k (.inr e)).1)))
        replace hrow := (row_set ht).2.1 _ (by omega) hrow
        refine WL.nil ?_
        refine WX.keep [(9, _)] ⟨rfl, trivial⟩ ?_
        have e1 : D.append i q = (D.begin.setT i.toNat { D.track i.toNat with now := (D.track i.toNat).now ++ q }, D.begin.code) := by unfold DS.append; rw [if_neg (by omega), if_neg (by omega)]
        have hfin : IsD w5 (Grow F w w5) p (D.append i q).1 := by
          rw [e1]
          dsimp only
          refine ⟨g, _, h.put (a' := { D.track i.toNat with now := (D.track i.toNat).now ++ q }) (t' := ⟨sv, .slice A4 ((D.track i.toNat).now.length + m) c4, fr, FS, Grow FN w3 w4⟩) ht hU hb (by rw [trkC_fp]; exact hrow) ⟨hsure, ?_, hfr⟩ rfl (h.wf.begin.setT hws ?_) (fun k hk => ?_) (fun k hk hk' => ?_)⟩
          · simp only
            rw [List.length_append, List.map_append, hq]
            exact hnow
          · simp only [List.length_append]
            show _ ≤ D.most
            omega
          · rcases hk with hk | hk | hk
            · exact ⟨.inl hk, by have := (hfp k (.inl hk)).2.2.2; omega⟩
            · exact ⟨.inr (.inl hk), by have := (hfp k (.inr hk)).2.2.2; omega⟩
            · exact ⟨.inr (.inr (by omega)), by omega⟩
          · rcases hk' with hk' | hk'
            · exact h2 k hk hk'
            · have := (hfp k (.inl hk)).2.2.2; omega
        refine WX.next ?_
        refine WC.seq ?_
        refine WC.seq ?_
        refine WC.region ?_
        refine WL.val rfl rfl rfl rfl (r_move rfl (ev_t rfl)) ?_
        refine WL.val rfl rfl rfl rfl (r_not rfl (ev_t rfl)) ?_
        refine WL.nil ?_
        refine WX.keep [(47, _)] ⟨rfl, trivial⟩ ?_
        refine WX.next ?_
        refine WC.cond rfl (ev_t rfl) (fun hc9 => ?_) (fun hc9 => ?_)
        · try (exfalso; first | (simp at hc9; done) | (simp only [decide_eq_true_eq, decide_eq_false_iff_not, Bool.not_eq_true', Bool.not_eq_false', Bool.not_eq_true, Bool.not_eq_false] at hc9; omega) | omega)
          all_goals
           try simp only [decide_eq_true_eq, decide_eq_false_iff_not, Bool.not_eq_true', Bool.not_eq_false', Bool.not_eq_true, Bool.not_eq_false, Option.isNone_none, Option.isNone_some, Option.isSome_none, Option.isSome_some, ne_eq, Decidable.not_not] at hc9
           refine WC.seq ?_
           refine WC.region ?_
           refine WL.val rfl rfl rfl rfl (r_assign rfl ev_c) ?_
           refine WL.nil ?_
           refine WX.keep [(6, _)] ⟨rfl, trivial⟩ ?_
           refine WX.next ?_
           refine WC.ret ?_
           refine WX.thenRet ?_
           refine WX.retE1 rfl rfl ?_
           exact ⟨by rw [e1]; simp [DS.code, hc9], hfin, hU.mono hSF⟩
        · try (exfalso; first | (simp at hc9; done) | (simp only [decide_eq_true_eq, decide_eq_false_iff_not, Bool.not_eq_true', Bool.not_eq_false', Bool.not_eq_true, Bool.not_eq_false] at hc9; omega) | omega)
          all_goals
           try simp only [decide_eq_true_eq, decide_eq_false_iff_not, Bool.not_eq_true', Bool.not_eq_false', Bool.not_eq_true, Bool.not_eq_false, Option.isNone_none, Option.isNone_some, Option.isSome_none, Option.isSome_some, ne_eq, Decidable.not_not] at hc9
           refine WC.skip ?_
           refine WX.next ?_
           refine WC.seq ?_
           refine WC.region ?_
           refine WL.val rfl rfl rfl rfl (r_assign rfl ev_c) ?_
           refine WL.nil ?_
           refine WX.keep [(6, _)] ⟨rfl, trivial⟩ ?_
           refine WX.next ?_
           refine WC.ret ?_
           refine WX.retE1 rfl rfl ?_
           exact ⟨by rw [e1]; simp [DS.code, hc9], hfin, hU.mono hSF⟩

theorem Write_bad {w : World} {F : Nat → Prop} {p : Nat} {D : DS} {i : Int} {qv : Value} (h : IsD w F p D) (hi : D.look i ≠ 0) : Ret Try.prog 18 #[.pointer (some ⟨p, 0, none⟩), .int .i64 i, qv] w fun v' w' => v' = .int .i64 (D.look i : Int) ∧ w = w' := by
  obtain ⟨g, l, h⟩ := h
  have hb := h.hd
  refine enterRet (vs := [_, _, _]) (N := 42) Try.func18 rfl rfl rfl ?_
  refine WC.keep [(0, _), (1, _), (2, _)] ⟨rfl, rfl, rfl, trivial⟩ ?_
  refine WC.seq ?_
  refine WC.region ?_
  refine WL.val rfl rfl rfl rfl (r_assign rfl ev_c) ?_
  refine WL.nil ?_
  refine WX.keep [(0, _), (1, _), (2, _)] ⟨rfl, rfl, rfl, trivial⟩ ?_
  refine WX.next ?_
  refine WC.seq ?_
  refine WC.seq ?_
  refine WC.region ?_
  refine WL.val rfl rfl rfl rfl (r_move rfl (ev_t rfl)) ?_
  refine WL.val rfl rfl rfl rfl (r_move rfl (ev_t rfl)) ?_
  refine WL.cons (SO.call (look_ok hb) rfl body_40 ⟨(ev_t rfl), (ev_t rfl), trivial⟩ rfl rfl rfl rfl ?_)
  rintro v w' ⟨rfl, rfl⟩
  refine WL.val rfl rfl rfl rfl (r_assign rfl (ev_t rfl)) ?_
  refine WL.nil ?_
  refine WX.keep [(0, _), (1, _), (2, _), (7, _)] ⟨rfl, rfl, rfl, rfl, trivial⟩ ?_
  refine WX.next ?_
  refine WC.seq ?_
  refine WC.region ?_
  refine WL.val rfl rfl rfl rfl (r_move rfl (ev_t rfl)) ?_
  refine WL.val rfl rfl rfl rfl (r_neq rfl (ev_t rfl) ev_c) ?_
  refine WL.nil ?_
  refine WX.keep [(0, _), (1, _), (2, _), (7, _), (13, _)] ⟨rfl, rfl, rfl, rfl, rfl, trivial⟩ ?_
  refine WX.next ?_
  refine WC.cond rfl (ev_t rfl) (fun hc2 => ?_) (fun hc2 => ?_)
  · try (exfalso; first | (simp at hc2; done) | (simp only [decide_eq_true_eq, decide_eq_false_iff_not, Bool.not_eq_true', Bool.not_eq_false', Bool.not_eq_true, Bool.not_eq_false] at hc2; omega) | omega)
    all_goals
     try simp only [decide_eq_true_eq, decide_eq_false_iff_not, Bool.not_eq_true', Bool.not_eq_false', Bool.not_eq_true, Bool.not_eq_false, Option.isNone_none, Option.isNone_some, Option.isSome_none, Option.isSome_some, ne_eq, Decidable.not_not] at hc2
     refine WC.seq ?_
     refine WC.region ?_
     refine WL.val rfl rfl rfl rfl (r_move rfl (ev_t rfl)) ?_
     refine WL.val rfl rfl rfl rfl (r_assign rfl (ev_t rfl)) ?_
     refine WL.nil ?_
     refine WX.keep [(6, _)] ⟨rfl, trivial⟩ ?_
     refine WX.next ?_
     refine WC.ret ?_
     refine WX.thenRet ?_
     refine WX.retE1 rfl rfl ?_
     exact ⟨rfl, rfl⟩
  · try simp only [decide_eq_true_eq, decide_eq_false_iff_not, Bool.not_eq_true', Bool.not_eq_false', Bool.not_eq_true, Bool.not_eq_false, Option.isNone_none, Option.isNone_some, Option.isSome_none, Option.isSome_some, ne_eq, Decidable.not_not] at hc2
    exfalso
    exact hi (by simp only [DS.look]; omega)
theorem Write_nil {w : World} {i : Int} {qv : Value} : Ret Try.prog 18 #[.pointer none, .int .i64 i, qv] w fun v' w' => v' = .int .i64 6 ∧ w = w' := by
  refine enterRet (vs := [_, _, _]) (N := 42) Try.func18 rfl rfl rfl ?_
  refine WC.keep [(0, _), (1, _), (2, _)] ⟨rfl, rfl, rfl, trivial⟩ ?_
  refine WC.seq ?_
  refine WC.region ?_
  refine WL.val rfl rfl rfl rfl (r_assign rfl ev_c) ?_
  refine WL.nil ?_
  refine WX.keep [(0, _), (1, _), (2, _)] ⟨rfl, rfl, rfl, trivial⟩ ?_
  refine WX.next ?_
  refine WC.seq ?_
  refine WC.seq ?_
  refine WC.region ?_
  refine WL.val rfl rfl rfl rfl (r_move rfl (ev_t rfl)) ?_
  refine WL.val rfl rfl rfl rfl (r_move rfl (ev_t rfl)) ?_
  refine WL.cons (SO.call (look_nil) rfl body_40 ⟨(ev_t rfl), (ev_t rfl), trivial⟩ rfl rfl rfl rfl ?_)
  rintro v w' ⟨rfl, rfl⟩
  refine WL.val rfl rfl rfl rfl (r_assign rfl (ev_t rfl)) ?_
  refine WL.nil ?_
  refine WX.keep [(0, _), (1, _), (2, _), (7, _)] ⟨rfl, rfl, rfl, rfl, trivial⟩ ?_
  refine WX.next ?_
  refine WC.seq ?_
  refine WC.region ?_
  refine WL.val rfl rfl rfl rfl (r_move rfl (ev_t rfl)) ?_
  refine WL.val rfl rfl rfl rfl (r_neq rfl (ev_t rfl) ev_c) ?_
  refine WL.nil ?_
  refine WX.keep [(0, _), (1, _), (2, _), (7, _), (13, _)] ⟨rfl, rfl, rfl, rfl, rfl, trivial⟩ ?_
  refine WX.next ?_
  refine WC.cond rfl (ev_t rfl) (fun hc2 => ?_) (fun hc2 => ?_)
  · try (exfalso; first | (simp at hc2; done) | (simp only [decide_eq_true_eq, decide_eq_false_iff_not, Bool.not_eq_true', Bool.not_eq_false', Bool.not_eq_true, Bool.not_eq_false] at hc2; omega) | omega)
    all_goals
     try simp only [decide_eq_true_eq, decide_eq_false_iff_not, Bool.not_eq_true', Bool.not_eq_false', Bool.not_eq_true, Bool.not_eq_false, Option.isNone_none, Option.isNone_some, Option.isSome_none, Option.isSome_some, ne_eq, Decidable.not_not] at hc2
     refine WC.seq ?_
     refine WC.region ?_
     refine WL.val rfl rfl rfl rfl (r_move rfl (ev_t rfl)) ?_
     refine WL.val rfl rfl rfl rfl (r_assign rfl (ev_t rfl)) ?_
     refine WL.nil ?_
     refine WX.keep [(6, _)] ⟨rfl, trivial⟩ ?_
     refine WX.next ?_
     refine WC.ret ?_
     refine WX.thenRet ?_
     refine WX.retE1 rfl rfl ?_
     exact ⟨rfl, rfl⟩
  · try simp only [decide_eq_true_eq, decide_eq_false_iff_not, Bool.not_eq_true', Bool.not_eq_false', Bool.not_eq_true, Bool.not_eq_false, Option.isNone_none, Option.isNone_some, Option.isSome_none, Option.isSome_some, ne_eq, Decidable.not_not] at hc2
    exfalso
    omega
theorem Write_good {w : World} {F G : Nat → Prop} {p : Nat} {D : DS} {i : Int} {qv : Value} {m : Nat} {q : List UInt8} (h : IsD w F p D) (hi : D.look i = 0) (hr : Rd w G qv m 1 (q.map U8)) (hG : ∀ k, G k → k < w.heap.size → ¬ F k) :
    Ret Try.prog 18 #[.pointer (some ⟨p, 0, none⟩), .int .i64 i, qv] w fun v' w' => v' = .int .i64 ((D.write i q).2 : Int) ∧ IsD w' (Grow F w w') p (D.write i q).1 ∧ Upd F w w' := by
  obtain ⟨g, l, h⟩ := h
  obtain ⟨t, ht, hok, hil⟩ := h.at hi
  have hb := h.hd
  have hrow := h.row
  have hi' := lookN_ok hi
  have hl := h.len
  have hws := (h.wf.trk _ (DS.track_mem hil)).1
  have hm := h.wf.most
  have hpg := h.ne
  have hfp := h.fp _ _ ht
  have h2 := h.two _ _ ht
  have hq := hr.lenB
  obtain ⟨Aq, cq, rfl, hcq⟩ := hr.slice_form
  obtain ⟨sv, nv, fr, FS, FN⟩ := t
  obtain ⟨hsure, hnow, hfr⟩ := hok
  dsimp only at hsure hnow hfr hfp h2
  have hSF : ∀ k, k < w.heap.size → trkS p g ⟨sv, nv, fr, FS, FN⟩ k → F k := fun k _ hk => by
    rcases hk with rfl | rfl | hk
    · exact h.own.1
    · exact h.own.2
    · exact (hfp k hk).1
  refine enterRet (vs := [_, _, _]) (N := 42) Try.func18 rfl rfl rfl ?_
  have hU := Upd.refl (trkS p g ⟨sv, nv, fr, FS, FN⟩) w
  replace hr := hr.bound
  refine WC.keep [(0, _), (1, _), (2, _)] ⟨rfl, rfl, rfl, trivial⟩ ?_
  refine WC.seq ?_
  refine WC.region ?_
  refine WL.val rfl rfl rfl rfl (r_assign rfl ev_c) ?_
  refine WL.nil ?_
  refine WX.keep [(0, _), (1, _), (2, _)] ⟨rfl, rfl, rfl, trivial⟩ ?_
  refine WX.next ?_
  refine WC.seq ?_
  refine WC.seq ?_
  refine WC.region ?_
  refine WL.val rfl rfl rfl rfl (r_move rfl (ev_t rfl)) ?_
  refine WL.val rfl rfl rfl rfl (r_move rfl (ev_t rfl)) ?_
  refine WL.cons (SO.call (look_ok hb) rfl body_40 ⟨(ev_t rfl), (ev_t rfl), trivial⟩ rfl rfl rfl rfl ?_)
  rintro v w' ⟨rfl, rfl⟩
  refine WL.val rfl rfl rfl rfl (r_assign rfl (ev_t rfl)) ?_
  refine WL.nil ?_
  refine WX.keep [(0, _), (1, _), (2, _), (7, _)] ⟨rfl, rfl, rfl, rfl, trivial⟩ ?_
  refine WX.next ?_
  refine WC.seq ?_
  refine WC.region ?_
  refine WL.val rfl rfl rfl rfl (r_move rfl (ev_t rfl)) ?_
  refine WL.val rfl rfl rfl rfl (r_neq rfl (ev_t rfl) ev_c) ?_
  refine WL.nil ?_
  refine WX.keep [(0, _), (1, _), (2, _), (7, _), (13, _)] ⟨rfl, rfl, rfl, rfl, rfl, trivial⟩ ?_
  refine WX.next ?_
  refine WC.cond rfl (ev_t rfl) (fun hc2 => ?_) (fun hc2 => ?_)
  · try simp only [decide_eq_true_eq, decide_eq_false_iff_not, Bool.not_eq_true', Bool.not_eq_false', Bool.not_eq_true, Bool.not_eq_false, Option.isNone_none, Option.isNone_some, Option.isSome_none, Option.isSome_some, ne_eq, Decidable.not_not] at hc2
    exfalso
    exact hc2 (by simp only [DS.look] at hi; omega)
  · try (exfalso; first | (simp at hc2; done) | (simp only [decide_eq_true_eq, decide_eq_false_iff_not, Bool.not_eq_true', Bool.not_eq_false', Bool.not_eq_true, Bool.not_eq_false] at hc2; omega) | omega)
    all_goals
     try simp only [decide_eq_true_eq, decide_eq_false_iff_not, Bool.not_eq_true', Bool.not_eq_false', Bool.not_eq_true, Bool.not_eq_false, Option.isNone_none, Option.isNone_some, Option.isSome_none, Option.isSome_some, ne_eq, Decidable.not_not] at hc2
     refine WC.skip ?_
     refine WX.next ?_
     refine WC.seq ?_
     refine WC.seq ?_
     refine WC.region ?_
     refine WL.val rfl rfl rfl rfl (r_move rfl (ev_t rfl)) ?_
     refine WL.val rfl rfl rfl rfl (r_lenSlice (ts := #[]) rfl (ev_t rfl) elem_22) ?_
     refine WL.val rfl rfl rfl rfl (r_move rfl (ev_t rfl)) ?_
     refine WL.val rfl rfl rfl rfl (r_nilCheck rfl (ev_t rfl)) ?_
     first | refine WL.val rfl rfl rfl rfl (r_field0 rfl (ev_t rfl) fld_83_1) ?_ | refine WL.val rfl rfl rfl rfl (r_fieldAt rfl (ev_t rfl) fld_83_1) ?_
     refine WL.val rfl rfl rfl rfl (r_load rfl (ev_t rfl) flat_3 (Blk.cell hb rfl)) ?_
     refine WL.val rfl rfl rfl rfl (r_gtr rfl (ev_t rfl) (ev_t rfl)) ?_
     refine WL.nil ?_
     refine WX.keep [(0, _), (1, _), (2, _), (21, _)] ⟨rfl, rfl, rfl, rfl, trivial⟩ ?_
     refine WX.next ?_
     refine WC.cond rfl (ev_t rfl) (fun hc4 => ?_) (fun hc4 => ?_)
     · try (exfalso; first | (simp at hc4; done) | (simp only [decide_eq_true_eq, decide_eq_false_iff_not, Bool.not_eq_true', Bool.not_eq_false', Bool.not_eq_true, Bool.not_eq_false] at hc4; omega) | omega)
       all_goals
        try simp only [decide_eq_true_eq, decide_eq_false_iff_not, Bool.not_eq_true', Bool.not_eq_false', Bool.not_eq_true, Bool.not_eq_false, Option.isNone_none, Option.isNone_some, Option.isSome_none, Option.isSome_some, ne_eq, Decidable.not_not] at hc4
        refine WC.seq ?_
        refine WC.region ?_
        refine WL.val rfl rfl rfl rfl (r_assign rfl ev_c) ?_
        refine WL.nil ?_
        refine WX.keep [(6, _)] ⟨rfl, trivial⟩ ?_
        refine WX.next ?_
        refine WC.ret ?_
        refine WX.thenRet ?_
        refine WX.retE1 rfl rfl ?_
        have e1 : D.write i q = (D, 13) := by unfold DS.write; rw [if_neg (by omega), if_pos (by omega)]
        rw [e1]
        exact ⟨rfl, ⟨g, l, h.mono (fun k hk _ => .inl hk)⟩, Upd.refl _ _⟩
     · try (exfalso; first | (simp at hc4; done) | (simp only [decide_eq_true_eq, decide_eq_false_iff_not, Bool.not_eq_true', Bool.not_eq_false', Bool.not_eq_true, Bool.not_eq_false] at hc4; omega) | omega)
       all_goals
        try simp only [decide_eq_true_eq, decide_eq_false_iff_not, Bool.not_eq_true', Bool.not_eq_false', Bool.not_eq_true, Bool.not_eq_false, Option.isNone_none, Option.isNone_some, Option.isSome_none, Option.isSome_some, ne_eq, Decidable.not_not] at hc4
        refine WC.skip ?_
        refine WX.next ?_
        refine WC.seq ?_
        refine WC.region ?_
        refine WL.val rfl rfl rfl rfl (r_move rfl (ev_t rfl)) ?_
        refine WL.cons (SO.call (begin_ok hb h.wf.armed) rfl body_41 ⟨(ev_t rfl), trivial⟩ rfl rfl rfl rfl ?_)
        rintro v w2 ⟨rfl, hb, hu2⟩
        have hs2 := hu2.size
        replace hU := hU.trans hu2 (by first | exact (fun _ _ h => h) | exact (fun _ _ h => h.elim) | (intro k hl hk; (try simp only [At, New, Grow, From, No] at hk ⊢); omega) | (intro k hl hk; first | exact .inl hk | exact .inr (.inl hk) | exact .inr (.inr (.inr hk))))
        replace hrow := hrow.upd hu2 (by first | exact (fun h => h) | exact (fun e => hpg e.symm) | exact (fun h => (hfp _ (.inr h)).2.2.1 rfl))
        replace hsure := hsure.upd hu2 (by first | exact (fun _ _ _ h => h) | exact (fun k hk _ e => (hfp k (.inl hk)).2.1 e) | exact (fun k hk _ e => (hfp k (.inl hk)).2.2.1 e) | exact (fun k hk _ e => h2 k hk e))
        replace hr := hr.upd hu2 (by first | exact (fun _ _ _ h => h) | (intro k hk hl e; exact hG k hk.1 hk.2 (by first | exact (e ▸ h.own.1) | exact (e ▸ h.own.2) | exact (hfp k (.inr e)).1)))
        refine WL.val rfl rfl rfl rfl (r_assign rfl (ev_t rfl)) ?_
        refine WL.nil ?_
        refine WX.keep [(0, _), (1, _), (2, _), (8, _)] ⟨rfl, rfl, rfl, rfl, trivial⟩ ?_
        refine WX.next ?_
        refine WC.seq ?_
        refine WC.draws' (fun u0_ u1_ => Upd No u0_ u1_) (fun j => [0, 0, 0, 0, 0, 0, 0, 0, 0, 0, 0, 1, 0, 0, 2, 0, 0, 2].getD j 0) (.calm 0 (.calm 1 (.calm 2 (.calm 4 (.calm 5 (.calm 6 (.calm 7 (.calm 9 (.calm 10 (.held 3 (.held 8 (.one 11 (.calm 12 (.calm 13 (.one 14 (.calm 15 (.calm 16 (.one 17 (.done))))))))))))))))))) mixed (by kernel_rfl) (by repeat (first | with_reducible exact Deaf.body | with_reducible apply Deaf.then | with_reducible apply Deaf.block)) ?_
        intro w3 hu3
        have hz3 := congrArg Array.size hu3.2.2.2
        replace hu3 := Upd.of_draw hu3
        have hs3 := hu3.size
        replace hU := hU.trans hu3 (by first | exact (fun _ _ h => h) | exact (fun _ _ h => h.elim) | (intro k hl hk; (try simp only [At, New, Grow, From, No] at hk ⊢); omega) | (intro k hl hk; first | exact .inl hk | exact .inr (.inl hk) | exact .inr (.inr (.inr hk))))
        replace hb := hb.upd hu3 (by first | exact (fun h => h) | exact (fun h => (hfp _ (.inr h)).2.1 rfl) | exact hpg)
        replace hrow := hrow.upd hu3 (by first | exact (fun h => h) | exact (fun e => hpg e.symm) | exact (fun h => (hfp _ (.inr h)).2.2.1 rfl))
        replace hsure := hsure.upd hu3 (by first | exact (fun _ _ _ h => h) | exact (fun k hk _ e => (hfp k (.inl hk)).2.1 e) | exact (fun k hk _ e => (hfp k (.inl hk)).2.2.1 e) | exact (fun k hk _ e => h2 k hk e))
        replace hr := hr.upd hu3 (by first | exact (fun _ _ _ h => h) | (intro k hk hl e; exact hG k hk.1 hk.2 (by first | exact (e ▸ h.own.1) | exact (e ▸ h.own.2) | exact (hfp k (.inr e)).1)))
        have hS7 := Upd.refl No w3
        refine WN.calm _ rfl rfl rfl rfl rfl (fun _ => r_move rfl (ev_t rfl)) ?_
        refine WN.calm _ rfl rfl rfl rfl rfl (fun _ => r_nilCheck rfl (ev_t rfl)) ?_
        first | refine WN.calm _ rfl rfl rfl rfl rfl (fun _ => r_field0 rfl (ev_t rfl) fld_83_0) ?_ | refine WN.calm _ rfl rfl rfl rfl rfl (fun _ => r_fieldAt rfl (ev_t rfl) fld_83_0) ?_
        refine WN.calm _ rfl rfl rfl rfl rfl (fun _ => r_move rfl (ev_t rfl)) ?_
        refine WN.calm _ rfl rfl rfl rfl rfl (fun _ => r_move rfl (ev_t rfl)) ?_
        refine WN.calm _ rfl rfl rfl rfl rfl (fun _ => r_nilCheck rfl (ev_t rfl)) ?_
        first | refine WN.calm _ rfl rfl rfl rfl rfl (fun _ => r_field0 rfl (ev_t rfl) fld_83_0) ?_ | refine WN.calm _ rfl rfl rfl rfl rfl (fun _ => r_fieldAt rfl (ev_t rfl) fld_83_0) ?_
        refine WN.calm _ rfl rfl rfl rfl rfl (fun _ => r_move rfl (ev_t rfl)) ?_
        refine WN.calm _ rfl rfl rfl rfl rfl (fun _ => r_move rfl (ev_t rfl)) ?_
        refine WN.held _ rfl rfl rfl rfl rfl hS7 (fun w' hS => r_load rfl (ev_t rfl) flat_81 (Blk.cell (hb.upd hS (fun h => h)) rfl)) ?_
        refine WN.held _ rfl rfl rfl rfl rfl hS7 (fun w' hS => r_load rfl (ev_t rfl) flat_81 (Blk.cell (hb.upd hS (fun h => h)) rfl)) ?_
        refine WN.step _ rfl (SO.call (clone_ok hr) rfl body_42 ⟨(ev_t rfl), trivial⟩ rfl rfl rfl rfl ?_)
        rintro v w4 ⟨hnew, hu4⟩
        have hs4 := hu4.size
        replace hS7 := Upd.transA hS7 hu4
        replace hU := hU.trans hu4 (by first | exact (fun _ _ h => h) | exact (fun _ _ h => h.elim) | (intro k hl hk; (try simp only [At, New, Grow, From, No] at hk ⊢); omega) | (intro k hl hk; first | exact .inl hk | exact .inr (.inl hk) | exact .inr (.inr (.inr hk))))
        replace hb := hb.upd hu4 (by first | exact (fun h => h) | exact (fun h => (hfp _ (.inr h)).2.1 rfl) | exact hpg)
        replace hrow := hrow.upd hu4 (by first | exact (fun h => h) | exact (fun e => hpg e.symm) | exact (fun h => (hfp _ (.inr h)).2.2.1 rfl))
        replace hsure := hsure.upd hu4 (by first | exact (fun _ _ _ h => h) | exact (fun k hk _ e => (hfp k (.inl hk)).2.1 e) | exact (fun k hk _ e => (hfp k (.inl hk)).2.2.1 e) | exact (fun k hk _ e => h2 k hk e))
        replace hr := hr.upd hu4 (by first | exact (fun _ _ _ h => h) | (intro k hk hl e; exact hG k hk.1 hk.2 (by first | exact (e ▸ h.own.1) | exact (e ▸ h.own.2) | exact (hfp k (.inr e)).1)))
        refine ⟨hS7, ?_⟩
        refine WN.calm _ rfl rfl rfl rfl rfl (fun _ => r_indexAddr rfl (ev_t rfl) (ev_t rfl) elem_81 size_86 (by omega) (by omega)) ?_
        first | refine WN.calm _ rfl rfl rfl rfl rfl (fun _ => r_field0 rfl (ev_t rfl) fld_86_1) ?_ | refine WN.calm _ rfl rfl rfl rfl rfl (fun _ => r_fieldAt rfl (ev_t rfl) fld_86_1) ?_
        refine WN.step _ rfl (SO.store rfl (ev_t rfl) (ev_t rfl) size_22 hrow (blt_of (by rw [trkC_size]; omega)) hnew.one rfl rfl rfl ?_)
        intro w5 hu5 hrow hzs
        replace hnew := hnew.upd hu5 (fun k hk _ e => by simp only [At, New] at hk e; have := h.row.lt; omega)
        have hs5 := hu5.size
        try replace hS7 := Upd.transA hS7 hu5
        replace hU := hU.trans hu5 (by first | exact (fun _ _ h => h) | exact (fun _ _ h => h.elim) | (intro k hl hk; (try simp only [At, New, Grow, From, No] at hk ⊢); omega) | (intro k hl hk; first | exact .inl hk | exact .inr (.inl hk) | exact .inr (.inr (.inr hk))))
        replace hb := hb.upd hu5 (by first | exact (fun h => h) | exact (fun h => (hfp _ (.inr h)).2.1 rfl) | exact hpg)
        replace hsure := hsure.upd hu5 (by first | exact (fun _ _ _ h => h) | exact (fun k hk _ e => (hfp k (.inl hk)).2.1 e) | exact (fun k hk _ e => (hfp k (.inl hk)).2.2.1 e) | exact (fun k hk _ e => h2 k hk e))
        replace hr := hr.upd hu5 (by first | exact (fun _ _ _ h => h) | (intro k hk hl e; exact hG k hk.1 hk.2 (by first | exact (e ▸ h.own.1) | exact (e ▸ h.own.2) | exact (hfp k (.inr e)).1)))
        replace hrow := (row_set ht).2.1 _ (by omega) hrow
        refine ⟨trivial, ?_⟩
        refine WN.calm _ rfl rfl rfl rfl rfl (fun _ => r_indexAddr rfl (ev_t rfl) (ev_t rfl) elem_81 size_86 (by omega) (by omega)) ?_
        first | refine WN.calm _ rfl rfl rfl rfl rfl (fun _ => r_field0 rfl (ev_t rfl) fld_86_2) ?_ | refine WN.calm _ rfl rfl rfl rfl rfl (fun _ => r_fieldAt rfl (ev_t rfl) fld_86_2) ?_
        refine WN.step _ rfl (SO.store rfl (ev_t rfl) ev_c size_4 hrow (blt_of (by rw [trkC_size, List.length_set]; omega)) rfl rfl rfl rfl ?_)
        intro w6 hu6 hrow hzs2
        replace hnew := hnew.upd hu6 (fun k hk _ e => by simp only [At, New] at hk e; have := h.row.lt; omega)
        have hs6 := hu6.size
        try replace hS7 := Upd.transA hS7 hu6
        replace hU := hU.trans hu6 (by first | exact (fun _ _ h => h) | exact (fun _ _ h => h.elim) | (intro k hl hk; (try simp only [At, New, Grow, From, No] at hk ⊢); omega) | (intro k hl hk; first | exact .inl hk | exact .inr (.inl hk) | exact .inr (.inr (.inr hk))))
        replace hb := hb.upd hu6 (by first | exact (fun h => h) | exact (fun h => (hfp _ (.inr h)).2.1 rfl) | exact hpg)
        replace hsure := hsure.upd hu6 (by first | exact (fun _ _ _ h => h) | exact (fun k hk _ e => (hfp k (.inl hk)).2.1 e) | exact (fun k hk _ e => (hfp k (.inl hk)).2.2.1 e) | exact (fun k hk _ e => h2 k hk e))
        replace hr := hr.upd hu6 (by first | exact (fun _ _ _ h => h) | (intro k hk hl e; exact hG k hk.1 hk.2 (by first | exact (e ▸ h.own.1) | exact (e ▸ h.own.2) | exact (hfp k (.inr e)).1)))
        replace hrow := (row_set (t := ⟨sv, v, fr, FS, FN⟩) (by rw [List.getElem?_set_self (by omega)])).2.2 _ (by omega) hrow
        rw [List.set_set] at hrow
        refine ⟨trivial, ?_⟩
        refine WN.done ?_
        refine WX.keep [(8, _)] ⟨rfl, trivial⟩ ?_
        have e1 : D.write i q = (D.begin.setT i.toNat { D.track i.toNat with now := q, fresh := true }, D.begin.code) := by unfold DS.write; rw [if_neg (by omega), if_neg (by omega)]
        have hfin : IsD w6 (Grow F w w6) p (D.write i q).1 := by
          rw [e1]
          dsimp only
          refine ⟨g, _, h.put (a' := { D.track i.toNat with now := q, fresh := true }) (t' := ⟨sv, v, true, FS, New w3 w4⟩) ht hU hb (by rw [trkC_fp]; exact hrow) ⟨hsure, by simp only; rw [hq]; exact hnew, rfl⟩ rfl (h.wf.begin.setT hws ?_) (fun k hk => ?_) (fun k hk hk' => ?_)⟩
          · show (q.length : Int) ≤ D.most
            omega
          · rcases hk with hk | hk
            · exact ⟨.inl hk, by have := (hfp k (.inl hk)).2.2.2; omega⟩
            · simp only [New] at hk; exact ⟨.inr (.inr (by omega)), by omega⟩
          · have := (hfp k (.inl hk)).2.2.2
            simp only [New] at hk'
            omega
        refine WX.next ?_
        refine WC.seq ?_
        refine WC.seq ?_
        refine WC.region ?_
        refine WL.val rfl rfl rfl rfl (r_move rfl (ev_t rfl)) ?_
        refine WL.val rfl rfl rfl rfl (r_not rfl (ev_t rfl)) ?_
        refine WL.nil ?_
        refine WX.keep [(41, _)] ⟨rfl, trivial⟩ ?_
        refine WX.next ?_
        refine WC.cond rfl (ev_t rfl) (fun hc8 => ?_) (fun hc8 => ?_)
        · try (exfalso; first | (simp at hc8; done) | (simp only [decide_eq_true_eq, decide_eq_false_iff_not, Bool.not_eq_true', Bool.not_eq_false', Bool.not_eq_true, Bool.not_eq_false] at hc8; omega) | omega)
          all_goals
           try simp only [decide_eq_true_eq, decide_eq_false_iff_not, Bool.not_eq_true', Bool.not_eq_false', Bool.not_eq_true, Bool.not_eq_false, Option.isNone_none, Option.isNone_some, Option.isSome_none, Option.isSome_some, ne_eq, Decidable.not_not] at hc8
           refine WC.seq ?_
           refine WC.region ?_
           refine WL.val rfl rfl rfl rfl (r_assign rfl ev_c) ?_
           refine WL.nil ?_
           refine WX.keep [(6, _)] ⟨rfl, trivial⟩ ?_
           refine WX.next ?_
           refine WC.ret ?_
           refine WX.thenRet ?_
           refine WX.retE1 rfl rfl ?_
           exact ⟨by rw [e1]; simp [DS.code, hc8], hfin, hU.mono hSF⟩
        · try (exfalso; first | (simp at hc8; done) | (simp only [decide_eq_true_eq, decide_eq_false_iff_not, Bool.not_eq_true', Bool.not_eq_false', Bool.not_eq_true, Bool.not_eq_false] at hc8; omega) | omega)
          all_goals
           try simp only [decide_eq_true_eq, decide_eq_false_iff_not, Bool.not_eq_true', Bool.not_eq_false', Bool.not_eq_true, Bool.not_eq_false, Option.isNone_none, Option.isNone_some, Option.isSome_none, Option.isSome_some, ne_eq, Decidable.not_not] at hc8
           refine WC.skip ?_
           refine WX.next ?_
           refine WC.seq ?_
           refine WC.region ?_
           refine WL.val rfl rfl rfl rfl (r_assign rfl ev_c) ?_
           refine WL.nil ?_
           refine WX.keep [(6, _)] ⟨rfl, trivial⟩ ?_
           refine WX.next ?_
           refine WC.ret ?_
           refine WX.retE1 rfl rfl ?_
           exact ⟨by rw [e1]; simp [DS.code, hc8], hfin, hU.mono hSF⟩

theorem Sync_bad {w : World} {F : Nat → Prop} {p : Nat} {D : DS} {i : Int} (h : IsD w F p D) (hi : D.look i ≠ 0) : Ret Try.prog 17 #[.pointer (some ⟨p, 0, none⟩), .int .i64 i] w fun v' w' => v' = .int .i64 (D.look i : Int) ∧ w = w' := by
  obtain ⟨g, l, h⟩ := h
  have hb := h.hd
  refine enterRet (vs := [_, _]) (N := 33) Try.func17 rfl rfl rfl ?_
  refine WC.keep [(0, _), (1, _)] ⟨rfl, rfl, trivial⟩ ?_
  refine WC.seq ?_
  refine WC.region ?_
  refine WL.val rfl rfl rfl rfl (r_assign rfl ev_c) ?_
  refine WL.nil ?_
  refine WX.keep [(0, _), (1, _)] ⟨rfl, rfl, trivial⟩ ?_
  refine WX.next ?_
  refine WC.seq ?_
  refine WC.seq ?_
  refine WC.region ?_
  refine WL.val rfl rfl rfl rfl (r_move rfl (ev_t rfl)) ?_
  refine WL.val rfl rfl rfl rfl (r_move rfl (ev_t rfl)) ?_
  refine WL.cons (SO.call (look_ok hb) rfl body_40 ⟨(ev_t rfl), (ev_t rfl), trivial⟩ rfl rfl rfl rfl ?_)
  rintro v w' ⟨rfl, rfl⟩
  refine WL.val rfl rfl rfl rfl (r_assign rfl (ev_t rfl)) ?_
  refine WL.nil ?_
  refine WX.keep [(0, _), (1, _), (5, _)] ⟨rfl, rfl, rfl, trivial⟩ ?_
  refine WX.next ?_
  refine WC.seq ?_
  refine WC.region ?_
  refine WL.val rfl rfl rfl rfl (r_move rfl (ev_t rfl)) ?_
  refine WL.val rfl rfl rfl rfl (r_neq rfl (ev_t rfl) ev_c) ?_
  refine WL.nil ?_
  refine WX.keep [(0, _), (1, _), (5, _), (11, _)] ⟨rfl, rfl, rfl, rfl, trivial⟩ ?_
  refine WX.next ?_
  refine WC.cond rfl (ev_t rfl) (fun hc2 => ?_) (fun hc2 => ?_)
  · try (exfalso; first | (simp at hc2; done) | (simp only [decide_eq_true_eq, decide_eq_false_iff_not, Bool.not_eq_true', Bool.not_eq_false', Bool.not_eq_true, Bool.not_eq_false] at hc2; omega) | omega)
    all_goals
     try simp only [decide_eq_true_eq, decide_eq_false_iff_not, Bool.not_eq_true', Bool.not_eq_false', Bool.not_eq_true, Bool.not_eq_false, Option.isNone_none, Option.isNone_some, Option.isSome_none, Option.isSome_some, ne_eq, Decidable.not_not] at hc2
     refine WC.seq ?_
     refine WC.region ?_
     refine WL.val rfl rfl rfl rfl (r_move rfl (ev_t rfl)) ?_
     refine WL.val rfl rfl rfl rfl (r_assign rfl (ev_t rfl)) ?_
     refine WL.nil ?_
     refine WX.keep [(4, _)] ⟨rfl, trivial⟩ ?_
     refine WX.next ?_
     refine WC.ret ?_
     refine WX.thenRet ?_
     refine WX.retE1 rfl rfl ?_
     exact ⟨rfl, rfl⟩
  · try simp only [decide_eq_true_eq, decide_eq_false_iff_not, Bool.not_eq_true', Bool.not_eq_false', Bool.not_eq_true, Bool.not_eq_false, Option.isNone_none, Option.isNone_some, Option.isSome_none, Option.isSome_some, ne_eq, Decidable.not_not] at hc2
    exfalso
    exact hi (by simp only [DS.look]; omega)
theorem Sync_nil {w : World} {i : Int} : Ret Try.prog 17 #[.pointer none, .int .i64 i] w fun v' w' => v' = .int .i64 6 ∧ w = w' := by
  refine enterRet (vs := [_, _]) (N := 33) Try.func17 rfl rfl rfl ?_
  refine WC.keep [(0, _), (1, _)] ⟨rfl, rfl, trivial⟩ ?_
  refine WC.seq ?_
  refine WC.region ?_
  refine WL.val rfl rfl rfl rfl (r_assign rfl ev_c) ?_
  refine WL.nil ?_
  refine WX.keep [(0, _), (1, _)] ⟨rfl, rfl, trivial⟩ ?_
  refine WX.next ?_
  refine WC.seq ?_
  refine WC.seq ?_
  refine WC.region ?_
  refine WL.val rfl rfl rfl rfl (r_move rfl (ev_t rfl)) ?_
  refine WL.val rfl rfl rfl rfl (r_move rfl (ev_t rfl)) ?_
  refine WL.cons (SO.call (look_nil) rfl body_40 ⟨(ev_t rfl), (ev_t rfl), trivial⟩ rfl rfl rfl rfl ?_)
  rintro v w' ⟨rfl, rfl⟩
  refine WL.val rfl rfl rfl rfl (r_assign rfl (ev_t rfl)) ?_
  refine WL.nil ?_
  refine WX.keep [(0, _), (1, _), (5, _)] ⟨rfl, rfl, rfl, trivial⟩ ?_
  refine WX.next ?_
  refine WC.seq ?_
  refine WC.region ?_
  refine WL.val rfl rfl rfl rfl (r_move rfl (ev_t rfl)) ?_
  refine WL.val rfl rfl rfl rfl (r_neq rfl (ev_t rfl) ev_c) ?_
  refine WL.nil ?_
  refine WX.keep [(0, _), (1, _), (5, _), (11, _)] ⟨rfl, rfl, rfl, rfl, trivial⟩ ?_
  refine WX.next ?_
  refine WC.cond rfl (ev_t rfl) (fun hc2 => ?_) (fun hc2 => ?_)
  · try (exfalso; first | (simp at hc2; done) | (simp only [decide_eq_true_eq, decide_eq_false_iff_not, Bool.not_eq_true', Bool.not_eq_false', Bool.not_eq_true, Bool.not_eq_false] at hc2; omega) | omega)
    all_goals
     try simp only [decide_eq_true_eq, decide_eq_false_iff_not, Bool.not_eq_true', Bool.not_eq_false', Bool.not_eq_true, Bool.not_eq_false, Option.isNone_none, Option.isNone_some, Option.isSome_none, Option.isSome_some, ne_eq, Decidable.not_not] at hc2
     refine WC.seq ?_
     refine WC.region ?_
     refine WL.val rfl rfl rfl rfl (r_move rfl (ev_t rfl)) ?_
     refine WL.val rfl rfl rfl rfl (r_assign rfl (ev_t rfl)) ?_
     refine WL.nil ?_
     refine WX.keep [(4, _)] ⟨rfl, trivial⟩ ?_
     refine WX.next ?_
     refine WC.ret ?_
     refine WX.thenRet ?_
     refine WX.retE1 rfl rfl ?_
     exact ⟨rfl, rfl⟩
  · try simp only [decide_eq_true_eq, decide_eq_false_iff_not, Bool.not_eq_true', Bool.not_eq_false', Bool.not_eq_true, Bool.not_eq_false, Option.isNone_none, Option.isNone_some, Option.isSome_none, Option.isSome_some, ne_eq, Decidable.not_not] at hc2
    exfalso
    omega
theorem Sync_good {w : World} {F : Nat → Prop} {p : Nat} {D : DS} {i : Int} (h : IsD w F p D) (hi : D.look i = 0) :
    Ret Try.prog 17 #[.pointer (some ⟨p, 0, none⟩), .int .i64 i] w fun v' w' => v' = .int .i64 ((D.sync i).2 : Int) ∧ IsD w' (Grow F w w') p (D.sync i).1 ∧ Upd F w w' := by
  obtain ⟨g, l, h⟩ := h
  obtain ⟨t, ht, hok, hil⟩ := h.at hi
  have hb := h.hd
  have hrow := h.row
  have hi' := lookN_ok hi
  have hl := h.len
  have hwn := (h.wf.trk _ (DS.track_mem hil)).2
  have hm := h.wf.most
  have hpg := h.ne
  have hfp := h.fp _ _ ht
  have h2 := h.two _ _ ht
  obtain ⟨sv, nv, fr, FS, FN⟩ := t
  obtain ⟨hsure, hnow, hfr⟩ := hok
  dsimp only at hsure hnow hfr hfp h2
  have hSF : ∀ k, k < w.heap.size → trkS p g ⟨sv, nv, fr, FS, FN⟩ k → F k := fun k _ hk => by
    rcases hk with rfl | rfl | hk
    · exact h.own.1
    · exact h.own.2
    · exact (hfp k hk).1
  refine enterRet (vs := [_, _]) (N := 33) Try.func17 rfl rfl rfl ?_
  have hU := Upd.refl (trkS p g ⟨sv, nv, fr, FS, FN⟩) w
  refine WC.keep [(0, _), (1, _)] ⟨rfl, rfl, trivial⟩ ?_
  refine WC.seq ?_
  refine WC.region ?_
  refine WL.val rfl rfl rfl rfl (r_assign rfl ev_c) ?_
  refine WL.nil ?_
  refine WX.keep [(0, _), (1, _)] ⟨rfl, rfl, trivial⟩ ?_
  refine WX.next ?_
  refine WC.seq ?_
  refine WC.seq ?_
  refine WC.region ?_
  refine WL.val rfl rfl rfl rfl (r_move rfl (ev_t rfl)) ?_
  refine WL.val rfl rfl rfl rfl (r_move rfl (ev_t rfl)) ?_
  refine WL.cons (SO.call (look_ok hb) rfl body_40 ⟨(ev_t rfl), (ev_t rfl), trivial⟩ rfl rfl rfl rfl ?_)
  rintro v w' ⟨rfl, rfl⟩
  refine WL.val rfl rfl rfl rfl (r_assign rfl (ev_t rfl)) ?_
  refine WL.nil ?_
  refine WX.keep [(0, _), (1, _), (5, _)] ⟨rfl, rfl, rfl, trivial⟩ ?_
  refine WX.next ?_
  refine WC.seq ?_
  refine WC.region ?_
  refine WL.val rfl rfl rfl rfl (r_move rfl (ev_t rfl)) ?_
  refine WL.val rfl rfl rfl rfl (r_neq rfl (ev_t rfl) ev_c) ?_
  refine WL.nil ?_
  refine WX.keep [(0, _), (1, _), (5, _), (11, _)] ⟨rfl, rfl, rfl, rfl, trivial⟩ ?_
  refine WX.next ?_
  refine WC.cond rfl (ev_t rfl) (fun hc2 => ?_) (fun hc2 => ?_)
  · try simp only [decide_eq_true_eq, decide_eq_false_iff_not, Bool.not_eq_true', Bool.not_eq_false', Bool.not_eq_true, Bool.not_eq_false, Option.isNone_none, Option.isNone_some, Option.isSome_none, Option.isSome_some, ne_eq, Decidable.not_not] at hc2
    exfalso
    exact hc2 (by simp only [DS.look] at hi; omega)
  · try (exfalso; first | (simp at hc2; done) | (simp only [decide_eq_true_eq, decide_eq_false_iff_not, Bool.not_eq_true', Bool.not_eq_false', Bool.not_eq_true, Bool.not_eq_false] at hc2; omega) | omega)
    all_goals
     try simp only [decide_eq_true_eq, decide_eq_false_iff_not, Bool.not_eq_true', Bool.not_eq_false', Bool.not_eq_true, Bool.not_eq_false, Option.isNone_none, Option.isNone_some, Option.isSome_none, Option.isSome_some, ne_eq, Decidable.not_not] at hc2
     refine WC.skip ?_
     refine WX.next ?_
     refine WC.seq ?_
     refine WC.seq ?_
     refine WC.region ?_
     refine WL.val rfl rfl rfl rfl (r_move rfl (ev_t rfl)) ?_
     refine WL.cons (SO.call (begin_ok hb h.wf.armed) rfl body_41 ⟨(ev_t rfl), trivial⟩ rfl rfl rfl rfl ?_)
     rintro v w2 ⟨rfl, hb, hu2⟩
     have hs2 := hu2.size
     replace hU := hU.trans hu2 (by first | exact (fun _ _ h => h) | exact (fun _ _ h => h.elim) | (intro k hl hk; (try simp only [At, New, Grow, From, No] at hk ⊢); omega) | (intro k hl hk; first | exact .inl hk | exact .inr (.inl hk) | exact .inr (.inr (.inr hk))))
     replace hrow := hrow.upd hu2 (by first | exact (fun h => h) | exact (fun e => hpg e.symm) | exact (fun h => (hfp _ (.inr h)).2.2.1 rfl))
     replace hnow := hnow.upd hu2 (by first | exact (fun _ _ _ h => h) | exact (fun k hk _ e => (hfp k (.inr hk)).2.1 e) | exact (fun k hk _ e => (hfp k (.inr hk)).2.2.1 e))
     refine WL.val rfl rfl rfl rfl (r_not rfl (ev_t rfl)) ?_
     refine WL.nil ?_
     refine WX.keep [(0, _), (1, _), (15, _)] ⟨rfl, rfl, rfl, trivial⟩ ?_
     refine WX.next ?_
     refine WC.cond rfl (ev_t rfl) (fun hc4 => ?_) (fun hc4 => ?_)
     · try (exfalso; first | (simp at hc4; done) | (simp only [decide_eq_true_eq, decide_eq_false_iff_not, Bool.not_eq_true', Bool.not_eq_false', Bool.not_eq_true, Bool.not_eq_false] at hc4; omega) | omega)
       all_goals
        try simp only [decide_eq_true_eq, decide_eq_false_iff_not, Bool.not_eq_true', Bool.not_eq_false', Bool.not_eq_true, Bool.not_eq_false, Option.isNone_none, Option.isNone_some, Option.isSome_none, Option.isSome_some, ne_eq, Decidable.not_not] at hc4
        refine WC.seq ?_
        refine WC.region ?_
        refine WL.val rfl rfl rfl rfl (r_assign rfl ev_c) ?_
        refine WL.nil ?_
        refine WX.keep [(4, _)] ⟨rfl, trivial⟩ ?_
        refine WX.next ?_
        refine WC.ret ?_
        refine WX.thenRet ?_
        refine WX.retE1 rfl rfl ?_
        have e1 : D.sync i = (D.begin, 12) := by unfold DS.sync; rw [if_neg (by omega), if_pos hc4]
        rw [e1]
        exact ⟨rfl, ⟨g, l, (h.head hu2 hb rfl h.wf.begin).mono (fun k hk _ => .inl hk)⟩, hU.mono hSF⟩
     · try (exfalso; first | (simp at hc4; done) | (simp only [decide_eq_true_eq, decide_eq_false_iff_not, Bool.not_eq_true', Bool.not_eq_false', Bool.not_eq_true, Bool.not_eq_false] at hc4; omega) | omega)
       all_goals
        try simp only [decide_eq_true_eq, decide_eq_false_iff_not, Bool.not_eq_true', Bool.not_eq_false', Bool.not_eq_true, Bool.not_eq_false, Option.isNone_none, Option.isNone_some, Option.isSome_none, Option.isSome_some, ne_eq, Decidable.not_not] at hc4
        refine WC.skip ?_
        refine WX.next ?_
        refine WC.seq ?_
        refine WC.region ?_
        refine WL.val rfl rfl rfl rfl (r_move rfl (ev_t rfl)) ?_
        refine WL.val rfl rfl rfl rfl (r_nilCheck rfl (ev_t rfl)) ?_
        first | refine WL.val rfl rfl rfl rfl (r_field0 rfl (ev_t rfl) fld_83_0) ?_ | refine WL.val rfl rfl rfl rfl (r_fieldAt rfl (ev_t rfl) fld_83_0) ?_
        refine WL.val rfl rfl rfl rfl (r_load rfl (ev_t rfl) flat_81 (Blk.cell hb rfl)) ?_
        refine WL.val rfl rfl rfl rfl (r_move rfl (ev_t rfl)) ?_
        refine WL.val rfl rfl rfl rfl (r_indexAddr rfl (ev_t rfl) (ev_t rfl) elem_81 size_86 (by omega) (by omega)) ?_
        refine WL.val rfl rfl rfl rfl (r_assign rfl (ev_t rfl)) ?_
        refine WL.nil ?_
        refine WX.keep [(6, _)] ⟨rfl, trivial⟩ ?_
        refine WX.next ?_
        refine WC.seq ?_
        refine WC.region ?_
        refine WL.val rfl rfl rfl rfl (r_move rfl (ev_t rfl)) ?_
        refine WL.val rfl rfl rfl rfl (r_move rfl (ev_t rfl)) ?_
        refine WL.val rfl rfl rfl rfl (r_move rfl (ev_t rfl)) ?_
        refine WL.val rfl rfl rfl rfl (r_nilCheck rfl (ev_t rfl)) ?_
        first | refine WL.val rfl rfl rfl rfl (r_field0 rfl (ev_t rfl) fld_86_1) ?_ | refine WL.val rfl rfl rfl rfl (r_fieldAt rfl (ev_t rfl) fld_86_1) ?_
        refine WL.val rfl rfl rfl rfl (r_load rfl (ev_t rfl) flat_22 ((row_get hrow ht).2.1 (by omega))) ?_
        refine WL.cons (SO.call (clone_ok (hnow.rd (by omega))) rfl body_42 ⟨(ev_t rfl), trivial⟩ rfl rfl rfl rfl ?_)
        rintro v w3 ⟨hnew, hu3⟩
        have hs3 := hu3.size
        replace hU := hU.trans hu3 (by first | exact (fun _ _ h => h) | exact (fun _ _ h => h.elim) | (intro k hl hk; (try simp only [At, New, Grow, From, No] at hk ⊢); omega) | (intro k hl hk; first | exact .inl hk | exact .inr (.inl hk) | exact .inr (.inr (.inr hk))))
        replace hb := hb.upd hu3 (by first | exact (fun h => h) | exact (fun h => (hfp _ (.inr h)).2.1 rfl) | exact hpg)
        replace hrow := hrow.upd hu3 (by first | exact (fun h => h) | exact (fun e => hpg e.symm) | exact (fun h => (hfp _ (.inr h)).2.2.1 rfl))
        replace hnow := hnow.upd hu3 (by first | exact (fun _ _ _ h => h) | exact (fun k hk _ e => (hfp k (.inr hk)).2.1 e) | exact (fun k hk _ e => (hfp k (.inr hk)).2.2.1 e))
        refine WL.val rfl rfl rfl rfl (r_nilCheck rfl (ev_t rfl)) ?_
        first | refine WL.val rfl rfl rfl rfl (r_field0 rfl (ev_t rfl) fld_86_0) ?_ | refine WL.val rfl rfl rfl rfl (r_fieldAt rfl (ev_t rfl) fld_86_0) ?_
        refine WL.cons (SO.store rfl (ev_t rfl) (ev_t rfl) size_22 hrow (blt_of (by rw [trkC_size]; omega)) hnew.one rfl rfl rfl ?_)
        intro w4 hu4 hrow hzs
        replace hnew := hnew.upd hu4 (fun k hk _ e => by simp only [At, New] at hk e; have := h.row.lt; omega)
        have hs4 := hu4.size
        replace hU := hU.trans hu4 (by first | exact (fun _ _ h => h) | exact (fun _ _ h => h.elim) | (intro k hl hk; (try simp only [At, New, Grow, From, No] at hk ⊢); omega) | (intro k hl hk; first | exact .inl hk | exact .inr (.inl hk) | exact .inr (.inr (.inr hk))))
        replace hb := hb.upd hu4 (by first | exact (fun h => h) | exact (fun h => (hfp _ (.inr h)).2.1 rfl) | exact hpg)
        replace hnow := hnow.upd hu4 (by first | exact (fun _ _ _ h => h) | exact (fun k hk _ e => (hfp k (.inr hk)).2.1 e) | exact (fun k hk _ e => (hfp k (.inr hk)).2.2.1 e))
        replace hrow := (row_set ht).1 _ (by omega) hrow
        refine WL.val rfl rfl rfl rfl (r_nilCheck rfl (ev_t rfl)) ?_
        first | refine WL.val rfl rfl rfl rfl (r_field0 rfl (ev_t rfl) fld_86_2) ?_ | refine WL.val rfl rfl rfl rfl (r_fieldAt rfl (ev_t rfl) fld_86_2) ?_
        refine WL.cons (SO.store rfl (ev_t rfl) ev_c size_4 hrow (blt_of (by rw [trkC_size, List.length_set]; omega)) rfl rfl rfl rfl ?_)
        intro w5 hu5 hrow hzs2
        replace hnew := hnew.upd hu5 (fun k hk _ e => by simp only [At, New] at hk e; have := h.row.lt; omega)
        have hs5 := hu5.size
        replace hU := hU.trans hu5 (by first | exact (fun _ _ h => h) | exact (fun _ _ h => h.elim) | (intro k hl hk; (try simp only [At, New, Grow, From, No] at hk ⊢); omega) | (intro k hl hk; first | exact .inl hk | exact .inr (.inl hk) | exact .inr (.inr (.inr hk))))
        replace hb := hb.upd hu5 (by first | exact (fun h => h) | exact (fun h => (hfp _ (.inr h)).2.1 rfl) | exact hpg)
        replace hnow := hnow.upd hu5 (by first | exact (fun _ _ _ h => h) | exact (fun k hk _ e => (hfp k (.inr hk)).2.1 e) | exact (fun k hk _ e => (hfp k (.inr hk)).2.2.1 e))
        replace hrow := (row_set (t := ⟨v, nv, fr, FS, FN⟩) (by rw [List.getElem?_set_self (by omega)])).2.2 _ (by omega) hrow
        rw [List.set_set] at hrow
        refine WL.nil ?_
        refine WX.keep [] trivial ?_
        refine WX.next ?_
        refine WC.seq ?_
        refine WC.region ?_
        refine WL.val rfl rfl rfl rfl (r_assign rfl ev_c) ?_
        refine WL.nil ?_
        refine WX.keep [(4, _)] ⟨rfl, trivial⟩ ?_
        refine WX.next ?_
        refine WC.ret ?_
        refine WX.retE1 rfl rfl ?_
        have e1 : D.sync i = (D.begin.setT i.toNat { sure := (D.track i.toNat).now, now := (D.track i.toNat).now, fresh := false }, 0) := by unfold DS.sync; rw [if_neg (by omega), if_neg (by rw [hc4]; simp)]
        rw [e1]
        dsimp only
        refine ⟨rfl, ⟨g, _, h.put (a' := { sure := (D.track i.toNat).now, now := (D.track i.toNat).now, fresh := false }) (t' := ⟨v, nv, false, New w2 w3, FN⟩) ht hU hb (by rw [trkC_fp]; exact hrow) ⟨hnew, hnow, rfl⟩ rfl (h.wf.begin.setT hwn hwn) (fun k hk => ?_) (fun k hk hk' => ?_)⟩, hU.mono hSF⟩
        · rcases hk with hk | hk
          · simp only [New] at hk; exact ⟨.inr (.inr (by omega)), by omega⟩
          · exact ⟨.inr (.inl hk), by have := (hfp k (.inr hk)).2.2.2; omega⟩
        · have := (hfp k (.inr hk')).2.2.2
          simp only [New] at hk
          omega
end Go.Proofs.Ytejlmcdmoghmaaa
