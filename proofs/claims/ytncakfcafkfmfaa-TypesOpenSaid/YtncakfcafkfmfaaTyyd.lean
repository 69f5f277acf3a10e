/-
  types: Close's closures, IndexFunc, DeleteFunc, rename, Close.
-/
import Derived.Test.YtncakfcafkfmfaaTyyc
import Derived.Test.YtncakfcafkfmfaaTyN
namespace Go.Proofs.Ytncakfcafkfmfaa
open Go
set_option linter.unusedSimpArgs false
set_option linter.unusedVariables false

abbrev f1C (b : Nat) : Value := .func (.func 40) #[] #[.pointer (some ⟨b, 0, none⟩)]
abbrev f2C (b : Nat) : Value := .func (.func 42) #[] #[.pointer (some ⟨b, 0, none⟩)]
theorem close1_ok {w : World} {b : Nat} {x : Int} (hb : Blk w b #[.slice none 0 0] 33) :
    Ret Try.prog 40 #[.int .i64 x, .pointer (some ⟨b, 0, none⟩)] w fun v w' => v = .bool false ∧ w = w' := by
  refine enterRet (vs := [_, _]) (N := 7) Try.func40 rfl rfl rfl ?_
  refine WC.keep [(0, _), (1, _)] ⟨rfl, rfl, trivial⟩ ?_
  refine WC.seq ?_
  refine WC.region ?_
  refine WL.val rfl rfl rfl rfl (r_assign rfl ev_c) ?_
  refine WL.nil ?_
  refine WX.keep [(0, _), (1, _)] ⟨rfl, rfl, trivial⟩ ?_
  refine WX.next ?_
  refine WC.seq ?_
  refine WC.region ?_
  refine WL.val rfl rfl rfl rfl (r_load rfl (ev_t rfl) flat_33 (Blk.cell hb rfl)) ?_
  refine WL.val rfl rfl rfl rfl (r_move rfl (ev_t rfl)) ?_
  refine WL.cons (SO.call (contains_ok (l := []) (A := none) (c := 0) (F := fun _ => False) (Rd.nil _ _ 1)) rfl body_32 ⟨(ev_t rfl), (ev_t rfl), trivial⟩ rfl rfl rfl rfl ?_)
  rintro v w1 ⟨rfl, he⟩
  obtain rfl := he.symm
  refine WL.val rfl rfl rfl rfl (r_assign rfl (ev_t rfl)) ?_
  refine WL.nil ?_
  refine WX.keep [(3, _)] ⟨rfl, trivial⟩ ?_
  refine WX.next ?_
  refine WC.ret ?_
  refine WX.retE1 rfl rfl ?_
  exact ⟨by simp, rfl⟩
theorem indexF_ok {w : World} {F : Nat → Prop} {A : Option Addr} {c b : Nat} {l : List Int} (hr : Rd w F (.slice A l.length c) l.length 1 (l.map I6)) (hb : Blk w b #[.slice none 0 0] 33) :
    Ret Try.prog 48 #[.slice A l.length c, f1C b] w fun v w' => v = .int .i64 (-1) ∧ w = w' := by
  have hm := hr.le
  refine enterRet (vs := [_, _]) (N := 19) Try.func48 rfl rfl rfl ?_
  refine WC.keep [(0, _), (1, _)] ⟨rfl, rfl, trivial⟩ ?_
  refine WC.seq ?_
  refine WC.region ?_
  refine WL.val rfl rfl rfl rfl (r_assign rfl ev_c) ?_
  refine WL.nil ?_
  refine WX.keep [(0, _), (1, _)] ⟨rfl, rfl, trivial⟩ ?_
  refine WX.next ?_
  refine WC.seq ?_
  refine WC.seq ?_
  refine WC.region ?_
  refine WL.val rfl rfl rfl rfl (r_move rfl (ev_t rfl)) ?_
  refine WL.val rfl rfl rfl rfl (r_lenSlice (ts := #[]) rfl (ev_t rfl) elem_33) ?_
  refine WL.val rfl rfl rfl rfl (r_move rfl ev_c) ?_
  refine WL.nil ?_
  refine WX.keep [(0, _), (1, _), (7, _), (8, _)] ⟨rfl, rfl, rfl, rfl, trivial⟩ ?_
  refine WX.next ?_
  refine WC.block ?_
  -- loop 1: live [0, 1, 7, 8]
  refine WC.keep [(0, _), (1, _), (7, _), (8, _)] ⟨rfl, rfl, rfl, rfl, trivial⟩ ?_
  refine WC.loop (fun q E w' => ∃ (i : Nat), w = w' ∧ i ≤ l.length ∧ q = l.length - i ∧ E = [(0, .slice A l.length c), (1, f1C b), (7, .int .i64 (l.length : Int)), (8, .int .i64 (i : Int))]) (l.length) ?_ ?_
  · exact ⟨0, rfl, by omega, by omega, rfl⟩
  · rintro q E w' ⟨i, rfl, hi, rfl, rfl⟩
    refine WC.seq ?_
    refine WC.region ?_
    refine WL.val rfl rfl rfl rfl (r_lss rfl (ev_t rfl) (ev_t rfl)) ?_
    refine WL.nil ?_
    refine WX.keep [(0, _), (1, _), (7, _), (8, _), (9, _)] ⟨rfl, rfl, rfl, rfl, rfl, trivial⟩ ?_
    refine WX.next ?_
    refine WC.seq ?_
    refine WC.cond rfl (ev_t rfl) (fun hc2 => ?_) (fun hc2 => ?_)
    · try (exfalso; first | (simp at hc2; done) | (simp only [decide_eq_true_eq, decide_eq_false_iff_not, Bool.not_eq_true', Bool.not_eq_false', Bool.not_eq_true, Bool.not_eq_false] at hc2; omega) | omega)
      all_goals
       try simp only [decide_eq_true_eq, decide_eq_false_iff_not, Bool.not_eq_true', Bool.not_eq_false', Bool.not_eq_true, Bool.not_eq_false, Option.isNone_none, Option.isNone_some, Option.isSome_none, Option.isSome_some, ne_eq, Decidable.not_not] at hc2
       have hi' : i < l.length := by omega
       obtain ⟨b0, off, rfl, _⟩ := hr.open (by omega)
       have hxi : l[i]? = some l[i] := List.getElem?_eq_getElem hi'
       generalize l[i] = y at *
       refine WC.skip ?_
       refine WX.next ?_
       refine WC.seq ?_
       refine WC.block ?_
       refine WC.seq ?_
       refine WC.region ?_
       refine WL.val rfl rfl rfl rfl (r_move rfl (ev_t rfl)) ?_
       refine WL.val rfl rfl rfl rfl (r_assign rfl (ev_t rfl)) ?_
       refine WL.nil ?_
       refine WX.keep [(0, _), (1, _), (5, _), (7, _), (8, _)] ⟨rfl, rfl, rfl, rfl, rfl, trivial⟩ ?_
       refine WX.next ?_
       refine WC.seq ?_
       refine WC.region ?_
       refine WL.val rfl rfl rfl rfl (r_move rfl (ev_t rfl)) ?_
       refine WL.val rfl rfl rfl rfl (r_move rfl (ev_t rfl)) ?_
       refine WL.val rfl rfl rfl rfl (r_move rfl (ev_t rfl)) ?_
       refine WL.val rfl rfl rfl rfl (r_indexAddr rfl (ev_t rfl) (ev_t rfl) elem_33 size_3 (by omega) (by omega)) ?_
       refine WL.val rfl rfl rfl rfl (r_load rfl (ev_t rfl) flat_3 (hr.cell (j := i) (u := I6 y) (by omega) (by rw [List.getElem?_map, hxi]; rfl))) ?_
       refine WL.cons (SO.callV (vs := [_]) rfl (ev_t rfl) body_40 ⟨(ev_t rfl), trivial⟩ rfl (close1_ok hb) rfl rfl rfl rfl ?_)
       rintro v w1 ⟨rfl, he⟩
       obtain rfl := he.symm
       refine WL.nil ?_
       refine WX.keep [(0, _), (1, _), (5, _), (7, _), (8, _), (16, _)] ⟨rfl, rfl, rfl, rfl, rfl, rfl, trivial⟩ ?_
       refine WX.next ?_
       refine WC.cond rfl (ev_t rfl) (fun hc4 => ?_) (fun hc4 => ?_)
       · try simp only [decide_eq_true_eq, decide_eq_false_iff_not, Bool.not_eq_true', Bool.not_eq_false', Bool.not_eq_true, Bool.not_eq_false, Option.isNone_none, Option.isNone_some, Option.isSome_none, Option.isSome_some, ne_eq, Decidable.not_not] at hc4
         exfalso
         simp at hc4
       · try (exfalso; first | (simp at hc4; done) | (simp only [decide_eq_true_eq, decide_eq_false_iff_not, Bool.not_eq_true', Bool.not_eq_false', Bool.not_eq_true, Bool.not_eq_false] at hc4; omega) | omega)
         all_goals
          try simp only [decide_eq_true_eq, decide_eq_false_iff_not, Bool.not_eq_true', Bool.not_eq_false', Bool.not_eq_true, Bool.not_eq_false, Option.isNone_none, Option.isNone_some, Option.isSome_none, Option.isSome_some, ne_eq, Decidable.not_not] at hc4
          refine WC.skip ?_
          refine WX.blockNormal ?_
          refine WX.next ?_
          refine WC.region ?_
          first | refine WL.val rfl rfl rfl rfl (r_addN rfl (ev_t rfl) ev_c (by simp only [inK]; omega)) ?_ | refine WL.val rfl rfl rfl rfl (r_add rfl (ev_t rfl) ev_c) ?_
          refine WL.val rfl rfl rfl rfl (r_move rfl (ev_t rfl)) ?_
          refine WL.nil ?_
          refine WX.keep [(0, _), (1, _), (7, _), (8, _)] ⟨rfl, rfl, rfl, rfl, trivial⟩ ?_
          refine WX.meet [(0, _), (1, _), (7, _), (8, _)] ⟨rfl, rfl, rfl, rfl, trivial⟩ ?_
          exact ⟨l.length - (i + 1), by omega, i + 1, rfl, by omega, rfl, by simp⟩
    · try (exfalso; first | (simp at hc2; done) | (simp only [decide_eq_true_eq, decide_eq_false_iff_not, Bool.not_eq_true', Bool.not_eq_false', Bool.not_eq_true, Bool.not_eq_false] at hc2; omega) | omega)
      all_goals
       try simp only [decide_eq_true_eq, decide_eq_false_iff_not, Bool.not_eq_true', Bool.not_eq_false', Bool.not_eq_true, Bool.not_eq_false, Option.isNone_none, Option.isNone_some, Option.isSome_none, Option.isSome_some, ne_eq, Decidable.not_not] at hc2
       refine WC.exit ?_
       refine WX.thenExit ?_
       refine WX.thenExit ?_
       refine WX.blockHere ?_
       refine WX.next ?_
       refine WC.seq ?_
       refine WC.region ?_
       refine WL.val rfl rfl rfl rfl (r_assign rfl ev_c) ?_
       refine WL.nil ?_
       refine WX.keep [(4, _)] ⟨rfl, trivial⟩ ?_
       refine WX.next ?_
       refine WC.ret ?_
       refine WX.retE1 rfl rfl ?_
       exact ⟨rfl, rfl⟩
theorem deleteF_ok {w : World} {F : Nat → Prop} {A : Option Addr} {c b : Nat} {l : List Int} (hr : Rd w F (.slice A l.length c) l.length 1 (l.map I6)) (hb : Blk w b #[.slice none 0 0] 33) :
    Ret Try.prog 38 #[.slice A l.length c, f1C b] w fun v w' => v = .slice A l.length c ∧ w = w' := by
  refine enterRet (vs := [_, _]) (N := 42) Try.func38 rfl rfl rfl ?_
  refine WC.keep [(0, _), (1, _)] ⟨rfl, rfl, trivial⟩ ?_
  refine WC.seq ?_
  refine WC.region ?_
  refine WL.val rfl rfl rfl rfl (r_assign rfl ev_c) ?_
  refine WL.nil ?_
  refine WX.keep [(0, _), (1, _)] ⟨rfl, rfl, trivial⟩ ?_
  refine WX.next ?_
  refine WC.seq ?_
  refine WC.region ?_
  refine WL.val rfl rfl rfl rfl (r_move rfl (ev_t rfl)) ?_
  refine WL.val rfl rfl rfl rfl (r_move rfl (ev_t rfl)) ?_
  refine WL.cons (SO.call (indexF_ok hr hb) rfl body_48 ⟨(ev_t rfl), (ev_t rfl), trivial⟩ rfl rfl rfl rfl ?_)
  rintro v w1 ⟨rfl, he⟩
  obtain rfl := he.symm
  refine WL.val rfl rfl rfl rfl (r_assign rfl (ev_t rfl)) ?_
  refine WL.nil ?_
  refine WX.keep [(0, _), (1, _), (5, _)] ⟨rfl, rfl, rfl, trivial⟩ ?_
  refine WX.next ?_
  refine WC.seq ?_
  refine WC.seq ?_
  refine WC.region ?_
  refine WL.val rfl rfl rfl rfl (r_move rfl (ev_t rfl)) ?_
  refine WL.val rfl rfl rfl rfl (r_eql rfl (ev_t rfl) ev_c) ?_
  refine WL.nil ?_
  refine WX.keep [(0, _), (1, _), (5, _), (12, _)] ⟨rfl, rfl, rfl, rfl, trivial⟩ ?_
  refine WX.next ?_
  refine WC.cond rfl (ev_t rfl) (fun hc2 => ?_) (fun hc2 => ?_)
  · try (exfalso; first | (simp at hc2; done) | (simp only [decide_eq_true_eq, decide_eq_false_iff_not, Bool.not_eq_true', Bool.not_eq_false', Bool.not_eq_true, Bool.not_eq_false] at hc2; omega) | omega)
    all_goals
     try simp only [decide_eq_true_eq, decide_eq_false_iff_not, Bool.not_eq_true', Bool.not_eq_false', Bool.not_eq_true, Bool.not_eq_false, Option.isNone_none, Option.isNone_some, Option.isSome_none, Option.isSome_some, ne_eq, Decidable.not_not] at hc2
     refine WC.seq ?_
     refine WC.region ?_
     refine WL.val rfl rfl rfl rfl (r_move rfl (ev_t rfl)) ?_
     refine WL.val rfl rfl rfl rfl (r_assign rfl (ev_t rfl)) ?_
     refine WL.nil ?_
     refine WX.keep [(4, _)] ⟨rfl, trivial⟩ ?_
     refine WX.next ?_
     refine WC.ret ?_
     refine WX.thenRet ?_
     refine WX.retE1 rfl rfl ?_
     exact ⟨rfl, rfl⟩
  · try simp only [decide_eq_true_eq, decide_eq_false_iff_not, Bool.not_eq_true', Bool.not_eq_false', Bool.not_eq_true, Bool.not_eq_false, Option.isNone_none, Option.isNone_some, Option.isSome_none, Option.isSome_some, ne_eq, Decidable.not_not] at hc2
    exfalso
    simp at hc2
theorem close2_ok {w : World} {F : Nat → Prop} {A : Option Addr} {c b : Nat} {l : List Int} {x : Int} (hx : x ∈ l) (hb : Blk w b #[.slice A l.length c] 33) (hr : Rd w F (.slice A l.length c) l.length 1 (l.map I6)) :
    Ret Try.prog 42 #[.int .i64 x, .pointer (some ⟨b, 0, none⟩)] w fun v w' => v = .agg #[.string ⟨#[]⟩, .int .i64 (clI l 1 x), .slice none 0 0] ∧ Upd No w w' := by
  have hm := hr.le
  refine enterRet (vs := [_, _]) (N := 16) Try.func42 rfl rfl rfl ?_
  have hU := Upd.refl No w
  refine WC.keep [(0, _), (1, _)] ⟨rfl, rfl, trivial⟩ ?_
  refine WC.seq ?_
  refine WC.region ?_
  refine WL.cons (SO.alloc rfl rfl rfl rfl (r_alloc rfl zero_28) ?_)
  intro w1 hu1 hB1 hz1
  have hs1 := hu1.size
  replace hU := hU.transA hu1
  refine WL.nil ?_
  refine WX.keep [(0, _), (1, _), (3, _)] ⟨rfl, rfl, rfl, trivial⟩ ?_
  refine WX.next ?_
  refine WC.seq ?_
  refine WC.seq ?_
  refine WC.region ?_
  refine WL.val rfl rfl rfl rfl (r_load rfl (ev_t rfl) flat_33 (Blk.cell (hb.upd hU (fun h => h)) rfl)) ?_
  refine WL.val rfl rfl rfl rfl (r_move rfl (ev_t rfl)) ?_
  refine WL.cons (SO.call (sindex_ok (hr.upd hU (fun _ _ _ h => h))) rfl body_43 ⟨(ev_t rfl), (ev_t rfl), trivial⟩ rfl rfl rfl rfl ?_)
  rintro v w2 ⟨i, rfl, he, h1, h2⟩
  obtain rfl := he.symm
  refine WL.val rfl rfl rfl rfl (r_assign rfl (ev_t rfl)) ?_
  refine WL.nil ?_
  refine WX.keep [(0, _), (3, _), (4, _)] ⟨rfl, rfl, rfl, trivial⟩ ?_
  refine WX.next ?_
  refine WC.seq ?_
  refine WC.region ?_
  refine WL.val rfl rfl rfl rfl (r_move rfl (ev_t rfl)) ?_
  refine WL.val rfl rfl rfl rfl (r_geq rfl (ev_t rfl) ev_c) ?_
  refine WL.nil ?_
  refine WX.keep [(0, _), (3, _), (4, _), (9, _)] ⟨rfl, rfl, rfl, rfl, trivial⟩ ?_
  refine WX.next ?_
  refine WC.cond rfl (ev_t rfl) (fun hc2 => ?_) (fun hc2 => ?_)
  · try (exfalso; first | (simp at hc2; done) | (simp only [decide_eq_true_eq, decide_eq_false_iff_not, Bool.not_eq_true', Bool.not_eq_false', Bool.not_eq_true, Bool.not_eq_false] at hc2; omega) | omega)
    all_goals
     try simp only [decide_eq_true_eq, decide_eq_false_iff_not, Bool.not_eq_true', Bool.not_eq_false', Bool.not_eq_true, Bool.not_eq_false, Option.isNone_none, Option.isNone_some, Option.isSome_none, Option.isSome_some, ne_eq, Decidable.not_not] at hc2
     have h3 := h2 (by omega)
     have h4 := clI_at (k := 1) h3.1 h3.2
     have hil := (List.getElem?_eq_some_iff.1 h3.1).1
     have h5 : clI l 1 x = i + 1 := by rw [h4]; omega
     refine WC.seq ?_
     refine WC.region ?_
     refine WL.val rfl rfl rfl rfl (r_move rfl (ev_t rfl)) ?_
     first | refine WL.val rfl rfl rfl rfl (r_addN rfl (ev_t rfl) ev_c (by simp only [inK]; omega)) ?_ | refine WL.val rfl rfl rfl rfl (r_add rfl (ev_t rfl) ev_c) ?_
     refine WL.val rfl rfl rfl rfl (r_build (cs := #[_, _, _]) (vs := [(1, _)]) rfl ⟨⟨rfl, (ev_t rfl)⟩, trivial⟩ plc_28 zero_28 rfl) ?_
     refine WL.cons (SO.storeAll (us := [_, _, _]) rfl (ev_t rfl) (ev_t rfl) size_28 hB1 rfl rfl rfl rfl rfl ?_)
     intro w3 hu3 hB1 hz3
     have hs3 := hu3.size
     replace hU := hU.transA hu3
     refine WL.nil ?_
     refine WX.keep [(3, _)] ⟨rfl, trivial⟩ ?_
     refine WX.next ?_
     refine WC.ret ?_
     refine WX.thenRet ?_
     refine WX.retC (vs := [_, _, _]) rfl rfl agg_28 size_28 (Blk.cellsL hB1) ?_
     refine ⟨?_, hU⟩
     rw [h5]
     rfl
  · try simp only [decide_eq_true_eq, decide_eq_false_iff_not, Bool.not_eq_true', Bool.not_eq_false', Bool.not_eq_true, Bool.not_eq_false, Option.isNone_none, Option.isNone_some, Option.isSome_none, Option.isSome_some, ne_eq, Decidable.not_not] at hc2
    exfalso
    exact h1 (by omega) hx

set_option maxHeartbeats 2000000 in
theorem rename2_ok {b5 : Nat} {l : List Int} {A1 : Option Addr} {c1 : Nat} {F2 : Nat → Prop} : ∀ (N : Nat) (F : Nat → Prop) (w : World) (a b c : Value) (t : Ty), sz t ≤ N → TV w F (a, b, c) t → (∀ x ∈ vars t, x ∈ l) → Blk w b5 #[.slice A1 l.length c1] 33 → Rd w F2 (.slice A1 l.length c1) l.length 1 (l.map I6) →
    Ret Try.prog 41 #[.agg #[a, b, c], f2C b5] w fun v w' => ∃ a' b' c', v = .agg #[a', b', c'] ∧ TV w' (New w w') (a', b', c') (ext (fun x => Ty.v (clI l 1 x)) t) ∧ Upd No w w' := by
  intro N
  induction N with
  | zero =>
    intro F w a b c t hN
    have := sz_pos t
    omega
  | succ N ih =>
    intro F w a b c t hN ht hvs h51 hr5
    replace ht := ht.bound
    obtain ⟨m, A0, k0, xk, rfl, rfl, rfl, hm, hr, hl, hb, hk⟩ := ht.open
    have hks : TVs w (fun k => F k ∧ k < w.heap.size) xk t.kids := ⟨hl, hk⟩
    refine enterRet (vs := [_, _]) (N := 35) Try.func41 rfl rfl rfl ?_
    have hU := Upd.refl No w
    refine WC.keep [(0, _), (1, _)] ⟨rfl, rfl, trivial⟩ ?_
    refine WC.seq ?_
    refine WC.region ?_
    refine WL.cons (SO.alloc rfl rfl rfl rfl (r_boxAgg rfl (ev_t rfl)) ?_)
    intro w1 hu1 hB1 hz1
    have hs1 := hu1.size
    replace hU := hU.trans hu1 (by first | exact (fun _ _ h => h) | exact (fun _ _ h => h.elim) | (intro k hl hk; (try simp only [At, New, Grow, From, No] at hk ⊢); omega) | (intro k hl hk; have := hG k hk; omega))
    replace hr := hr.upd hu1 (fun k hk hl hS => by first | exact (show False from hS).elim | (simp only [At] at hS; omega) | (have := hG k hS; omega))
    replace hks := hks.upd hu1 (fun k hk hl hS => by first | exact (show False from hS).elim | (simp only [At] at hS; omega) | (have := hG k hS; omega))
    refine WL.cons (SO.alloc rfl rfl rfl rfl (r_alloc rfl zero_28) ?_)
    intro w2 hu2 hB2 hz2
    have hs2 := hu2.size
    replace hU := hU.trans hu2 (by first | exact (fun _ _ h => h) | exact (fun _ _ h => h.elim) | (intro k hl hk; (try simp only [At, New, Grow, From, No] at hk ⊢); omega) | (intro k hl hk; have := hG k hk; omega))
    replace hr := hr.upd hu2 (fun k hk hl hS => by first | exact (show False from hS).elim | (simp only [At] at hS; omega) | (have := hG k hS; omega))
    replace hks := hks.upd hu2 (fun k hk hl hS => by first | exact (show False from hS).elim | (simp only [At] at hS; omega) | (have := hG k hS; omega))
    replace hB1 := hB1.updA hu2
    refine WL.nil ?_
    refine WX.keep [(1, _), (2, _), (4, _)] ⟨rfl, rfl, rfl, trivial⟩ ?_
    refine WX.next ?_
    refine WC.seq ?_
    refine WC.seq ?_
    refine WC.region ?_
    first | refine WL.val rfl rfl rfl rfl (r_field0 rfl (ev_t rfl) fld_28_0) ?_ | refine WL.val rfl rfl rfl rfl (r_fieldAt rfl (ev_t rfl) fld_28_0) ?_
    refine WL.val rfl rfl rfl rfl (r_load rfl (ev_t rfl) flat_9 (Blk.cell hB1 rfl)) ?_
    refine WL.val rfl rfl rfl rfl (r_eqlStrL rfl (ev_t rfl) ev_c) ?_
    refine WL.nil ?_
    refine WX.keep [(1, _), (2, _), (4, _), (10, _)] ⟨rfl, rfl, rfl, rfl, trivial⟩ ?_
    refine WX.next ?_
    refine WC.cond rfl (ev_t rfl) (fun hc1 => ?_) (fun hc1 => ?_)
    · try (exfalso; first | (simp at hc1; done) | (simp only [decide_eq_true_eq, decide_eq_false_iff_not, Bool.not_eq_true', Bool.not_eq_false', Bool.not_eq_true, Bool.not_eq_false] at hc1; omega) | omega)
      all_goals
       try simp only [decide_eq_true_eq, decide_eq_false_iff_not, Bool.not_eq_true', Bool.not_eq_false', Bool.not_eq_true, Bool.not_eq_false, Option.isNone_none, Option.isNone_some, Option.isSome_none, Option.isSome_some, ne_eq, Decidable.not_not] at hc1
       obtain ⟨x, rfl⟩ := Ty.nm_nil.1 hc1
       obtain rfl := (hm x rfl).symm
       have hx := hvs x (by rw [vars_v]; simp)
       refine WC.seq ?_
       refine WC.region ?_
       refine WL.val rfl rfl rfl rfl (r_move rfl (ev_t rfl)) ?_
       first | refine WL.val rfl rfl rfl rfl (r_field0 rfl (ev_t rfl) fld_28_1) ?_ | refine WL.val rfl rfl rfl rfl (r_fieldAt rfl (ev_t rfl) fld_28_1) ?_
       refine WL.val rfl rfl rfl rfl (r_load rfl (ev_t rfl) flat_3 (Blk.cell hB1 rfl)) ?_
       refine WL.cons (SO.callV (vs := [_]) rfl (ev_t rfl) body_42 ⟨(ev_t rfl), trivial⟩ rfl (close2_ok hx (h51.upd hU (fun h => h)) (hr5.upd hU (fun _ _ _ h => h))) rfl rfl rfl rfl ?_)
       rintro v w3 ⟨rfl, hu3⟩
       have hs3 := hu3.size
       replace hU := hU.trans hu3 (by first | exact (fun _ _ h => h) | exact (fun _ _ h => h.elim) | (intro k hl hk; (try simp only [At, New, Grow, From, No] at hk ⊢); omega) | (intro k hl hk; have := hG k hk; omega))
       replace hr := hr.upd hu3 (fun k hk hl hS => by first | exact (show False from hS).elim | (simp only [At] at hS; omega) | (have := hG k hS; omega))
       replace hks := hks.upd hu3 (fun k hk hl hS => by first | exact (show False from hS).elim | (simp only [At] at hS; omega) | (have := hG k hS; omega))
       replace hB1 := hB1.updA hu3
       replace hB2 := hB2.upd hu3 (by first | exact (fun h => h) | (simp only [At]; omega) | (intro hS; have := hG _ hS; omega))
       refine WL.cons (SO.storeAll (us := [_, _, _]) rfl (ev_t rfl) (ev_t rfl) size_28 hB2 rfl rfl rfl rfl rfl ?_)
       intro w4 hu4 hB2 hz4
       have hs4 := hu4.size
       replace hU := hU.trans hu4 (by first | exact (fun _ _ h => h) | exact (fun _ _ h => h.elim) | (intro k hl hk; (try simp only [At, New, Grow, From, No] at hk ⊢); omega) | (intro k hl hk; have := hG k hk; omega))
       replace hr := hr.upd hu4 (fun k hk hl hS => by first | exact (show False from hS).elim | (simp only [At] at hS; omega) | (have := hG k hS; omega))
       replace hks := hks.upd hu4 (fun k hk hl hS => by first | exact (show False from hS).elim | (simp only [At] at hS; omega) | (have := hG k hS; omega))
       replace hB1 := hB1.updA hu4
       refine WL.nil ?_
       refine WX.keep [(4, _)] ⟨rfl, trivial⟩ ?_
       refine WX.next ?_
       refine WC.ret ?_
       refine WX.thenRet ?_
       refine WX.retC (vs := [_, _, _]) rfl rfl agg_28 size_28 (Blk.cellsL hB2) ?_
       refine ⟨_, _, _, rfl, ?_, hU⟩
       rw [ext_v]
       exact TV.nil _
    · try (exfalso; first | (simp at hc1; done) | (simp only [decide_eq_true_eq, decide_eq_false_iff_not, Bool.not_eq_true', Bool.not_eq_false', Bool.not_eq_true, Bool.not_eq_false] at hc1; omega) | omega)
      all_goals
       try simp only [decide_eq_true_eq, decide_eq_false_iff_not, Bool.not_eq_true', Bool.not_eq_false', Bool.not_eq_true, Bool.not_eq_false, Option.isNone_none, Option.isNone_some, Option.isSome_none, Option.isSome_some, ne_eq, Decidable.not_not] at hc1
       obtain ⟨f, ks, rfl⟩ := nm_c hc1
       refine WC.skip ?_
       refine WX.next ?_
       refine WC.seq ?_
       refine WC.region ?_
       first | refine WL.val rfl rfl rfl rfl (r_field0 rfl (ev_t rfl) fld_28_0) ?_ | refine WL.val rfl rfl rfl rfl (r_fieldAt rfl (ev_t rfl) fld_28_0) ?_
       refine WL.val rfl rfl rfl rfl (r_load rfl (ev_t rfl) flat_9 (Blk.cell hB1 rfl)) ?_
       refine WL.val rfl rfl rfl rfl (r_build (cs := #[_, _, _]) (vs := [(0, _)]) rfl ⟨⟨rfl, (ev_t rfl)⟩, trivial⟩ plc_28 zero_28 rfl) ?_
       refine WL.cons (SO.alloc rfl rfl rfl rfl (r_alloc rfl zero_28) ?_)
       intro w5 hu5 hB5 hz5
       have hs5 := hu5.size
       replace hU := hU.trans hu5 (by first | exact (fun _ _ h => h) | exact (fun _ _ h => h.elim) | (intro k hl hk; (try simp only [At, New, Grow, From, No] at hk ⊢); omega) | (intro k hl hk; have := hG k hk; omega))
       replace hr := hr.upd hu5 (fun k hk hl hS => by first | exact (show False from hS).elim | (simp only [At] at hS; omega) | (have := hG k hS; omega))
       replace hks := hks.upd hu5 (fun k hk hl hS => by first | exact (show False from hS).elim | (simp only [At] at hS; omega) | (have := hG k hS; omega))
       replace hB1 := hB1.updA hu5
       replace hB2 := hB2.upd hu5 (by first | exact (fun h => h) | (simp only [At]; omega) | (intro hS; have := hG _ hS; omega))
       refine WL.cons (SO.storeAll (us := [_, _, _]) rfl (ev_t rfl) (ev_t rfl) size_28 hB5 rfl rfl rfl rfl rfl ?_)
       intro w6 hu6 hB5 hz6
       have hs6 := hu6.size
       replace hU := hU.trans hu6 (by first | exact (fun _ _ h => h) | exact (fun _ _ h => h.elim) | (intro k hl hk; (try simp only [At, New, Grow, From, No] at hk ⊢); omega) | (intro k hl hk; have := hG k hk; omega))
       replace hr := hr.upd hu6 (fun k hk hl hS => by first | exact (show False from hS).elim | (simp only [At] at hS; omega) | (have := hG k hS; omega))
       replace hks := hks.upd hu6 (fun k hk hl hS => by first | exact (show False from hS).elim | (simp only [At] at hS; omega) | (have := hG k hS; omega))
       replace hB1 := hB1.updA hu6
       replace hB2 := hB2.upd hu6 (by first | exact (fun h => h) | (simp only [At]; omega) | (intro hS; have := hG _ hS; omega))
       refine WL.nil ?_
       refine WX.keep [(1, _), (2, _), (4, _), (5, _)] ⟨rfl, rfl, rfl, rfl, trivial⟩ ?_
       refine WX.next ?_
       refine WC.seq ?_
       refine WC.seq ?_
       refine WC.region ?_
       first | refine WL.val rfl rfl rfl rfl (r_field0 rfl (ev_t rfl) fld_28_2) ?_ | refine WL.val rfl rfl rfl rfl (r_fieldAt rfl (ev_t rfl) fld_28_2) ?_
       refine WL.val rfl rfl rfl rfl (r_load rfl (ev_t rfl) flat_26 (Blk.cell hB1 rfl)) ?_
       refine WL.val rfl rfl rfl rfl (r_lenSlice (ts := #[]) rfl (ev_t rfl) elem_26) ?_
       refine WL.val rfl rfl rfl rfl (r_move rfl ev_c) ?_
       refine WL.nil ?_
       refine WX.keep [(1, _), (4, _), (5, _), (19, _), (20, _), (21, _)] ⟨rfl, rfl, rfl, rfl, rfl, rfl, trivial⟩ ?_
       refine WX.next ?_
       refine WC.block ?_
       -- loop 1: live [1, 4, 5, 19, 20, 21]
       refine WC.keep [(1, _), (4, _), (5, _), (19, _), (20, _), (21, _)] ⟨rfl, rfl, rfl, rfl, rfl, rfl, trivial⟩ ?_
       refine WC.loop (fun q E w' => ∃ (i : Nat) (A5 : Option Addr) (c5 : Nat) (ys : List C3) (G T : Nat → Prop), i ≤ ks.length ∧ q = ks.length - i ∧ Upd No w w' ∧ w6.heap.size ≤ w'.heap.size ∧ Rd w' (fun k => F k ∧ k < w.heap.size) (.slice A0 ks.length k0) ks.length 3 (xk.flatMap c3) ∧ TVs w' (fun k => F k ∧ k < w.heap.size) xk ks ∧   Blk w' w1.heap.size #[.string ⟨#[]⟩, .int .i64 0, .slice none 0 0] typ ∧ Blk w' w2.heap.size #[.string ⟨f.1.toArray⟩, .int .i64 0, .slice A5 i c5] typ ∧ Own w' G typ 3 (.slice A5 i c5) i (ys.flatMap c3) ∧ TVs w' T ys ((ks.take i).map (ext (fun x => Ty.v (clI l 1 x)))) ∧ (∀ k, G k → w6.heap.size ≤ k ∧ k < w'.heap.size) ∧ (∀ k, T k → w6.heap.size ≤ k ∧ k < w'.heap.size ∧ ¬ G k) ∧   E = [(1, f2C b5), (4, .pointer (some ⟨w1.heap.size, 0, none⟩)), (5, .pointer (some ⟨w2.heap.size, 0, none⟩)), (19, .slice A0 ks.length k0), (20, .int .i64 (ks.length : Int)), (21, .int .i64 (i : Int))]) (ks.length) ?_ ?_
       · exact ⟨0, none, 0, [], fun _ => False, fun _ => False, by omega, by omega, hU, by omega, hr, hks, hB2, hB5, Own.nil _ _ _ _, TVs.nil _ _, fun k h => h.elim, fun k h => h.elim, rfl⟩
       · clear hU hr hks hB1 hB2
         rintro q E w' ⟨i, A5, c5, ys, G, T, hi, rfl, hU, hws, hr, hks, hB2, hb5, ho, hys, hG, hT, rfl⟩
         have hs0 := hU.size
         simp only [Ty.kids] at hb
         refine WC.seq ?_
         refine WC.region ?_
         refine WL.val rfl rfl rfl rfl (r_lss rfl (ev_t rfl) (ev_t rfl)) ?_
         refine WL.nil ?_
         refine WX.keep [(1, _), (4, _), (5, _), (19, _), (20, _), (21, _), (22, _)] ⟨rfl, rfl, rfl, rfl, rfl, rfl, rfl, trivial⟩ ?_
         refine WX.next ?_
         refine WC.seq ?_
         refine WC.cond rfl (ev_t rfl) (fun hc5 => ?_) (fun hc5 => ?_)
         · try (exfalso; first | (simp at hc5; done) | (simp only [decide_eq_true_eq, decide_eq_false_iff_not, Bool.not_eq_true', Bool.not_eq_false', Bool.not_eq_true, Bool.not_eq_false] at hc5; omega) | omega)
           all_goals
            try simp only [decide_eq_true_eq, decide_eq_false_iff_not, Bool.not_eq_true', Bool.not_eq_false', Bool.not_eq_true, Bool.not_eq_false, Option.isNone_none, Option.isNone_some, Option.isSome_none, Option.isSome_some, ne_eq, Decidable.not_not] at hc5
            have hi' : i < ks.length := by omega
            obtain ⟨b0, off, rfl, _⟩ := hr.open (by omega)
            have hlx : i < xk.length := by have := hks.1; omega
            have hxi : xk[i]? = some xk[i] := List.getElem?_eq_getElem hlx
            have hki : ks[i]? = some ks[i] := List.getElem?_eq_getElem hi'
            have htk := hks.2 i _ _ hxi hki
            have htake := take_map_snoc (f := ext (fun x => Ty.v (clI l 1 x))) hi'
            have hkl := sz_kid (n := f) (List.getElem_mem hi')
            have hkv := fun (x : Int) (hx : x ∈ vars ks[i]) => hvs x (mem_vars_c.2 ⟨_, List.getElem_mem hi', hx⟩)
            generalize xk[i] = ck at *
            generalize ks[i] = kk at *
            obtain ⟨ca, cb, cc⟩ := ck
            have hcel := kid_cells hr hxi rfl
            obtain ⟨m3, A3, k3, xk3, rfl, rfl, rfl, _⟩ := htk.open
            refine WC.skip ?_
            refine WX.next ?_
            refine WC.seq ?_
            refine WC.block ?_
            refine WC.seq ?_
            refine WC.region ?_
            refine WL.val rfl rfl rfl rfl (r_indexAddr rfl (ev_t rfl) (ev_t rfl) elem_26 size_28 (by omega) (by omega)) ?_
            refine WL.val rfl rfl rfl rfl (r_loadAgg (vs := [_, _, _]) rfl (ev_t rfl) agg_28 size_28 hcel) ?_
            skip
            refine WL.cons (SO.alloc rfl rfl rfl rfl (r_alloc rfl zero_28) ?_)
            intro w7 hu7 hB7 hz7
            have hs7 := hu7.size
            replace hU := hU.trans hu7 (by first | exact (fun _ _ h => h) | exact (fun _ _ h => h.elim) | (intro k hl hk; (try simp only [At, New, Grow, From, No] at hk ⊢); omega) | (intro k hl hk; have := hG k hk; omega))
            replace hr := hr.upd hu7 (fun k hk hl hS => by first | exact (show False from hS).elim | (simp only [At] at hS; omega) | (have := hG k hS; omega))
            replace hks := hks.upd hu7 (fun k hk hl hS => by first | exact (show False from hS).elim | (simp only [At] at hS; omega) | (have := hG k hS; omega))
            replace hB2 := hB2.upd hu7 (by first | exact (fun h => h) | (simp only [At]; omega) | (intro hS; have := hG _ hS; omega))
            replace hb5 := hb5.upd hu7 (by first | exact (fun h => h) | (simp only [At]; omega) | (intro hS; have := hG _ hS; omega))
            replace ho := ho.upd hu7 (fun k hk hl hS => by first | exact (show False from hS).elim | (simp only [At] at hS; first | (have := hG k hk; omega) | (rcases hk with hk | hk <;> first | (have := hG k hk; omega) | omega)))
            replace hys := hys.upd hu7 (fun k hk hl hS => by have := hT k hk; first | exact (show False from hS).elim | (simp only [At] at hS; omega))
            replace htk := htk.upd hu7 (fun k hk hl hS => by first | exact (show False from hS).elim | (simp only [At] at hS; omega) | (have := hG k hS; omega))
            refine WL.cons (SO.storeAll (us := [_, _, _]) rfl (ev_t rfl) (ev_t rfl) size_28 hB7 rfl rfl rfl rfl rfl ?_)
            intro w8 hu8 hB7 hz8
            have hs8 := hu8.size
            replace hU := hU.trans hu8 (by first | exact (fun _ _ h => h) | exact (fun _ _ h => h.elim) | (intro k hl hk; (try simp only [At, New, Grow, From, No] at hk ⊢); omega) | (intro k hl hk; have := hG k hk; omega))
            replace hr := hr.upd hu8 (fun k hk hl hS => by first | exact (show False from hS).elim | (simp only [At] at hS; omega) | (have := hG k hS; omega))
            replace hks := hks.upd hu8 (fun k hk hl hS => by first | exact (show False from hS).elim | (simp only [At] at hS; omega) | (have := hG k hS; omega))
            replace hB2 := hB2.upd hu8 (by first | exact (fun h => h) | (simp only [At]; omega) | (intro hS; have := hG _ hS; omega))
            replace hb5 := hb5.upd hu8 (by first | exact (fun h => h) | (simp only [At]; omega) | (intro hS; have := hG _ hS; omega))
            replace ho := ho.upd hu8 (fun k hk hl hS => by first | exact (show False from hS).elim | (simp only [At] at hS; first | (have := hG k hk; omega) | (rcases hk with hk | hk <;> first | (have := hG k hk; omega) | omega)))
            replace hys := hys.upd hu8 (fun k hk hl hS => by have := hT k hk; first | exact (show False from hS).elim | (simp only [At] at hS; omega))
            replace htk := htk.upd hu8 (fun k hk hl hS => by first | exact (show False from hS).elim | (simp only [At] at hS; omega) | (have := hG k hS; omega))
            refine WL.nil ?_
            refine WX.keep [(1, _), (4, _), (5, _), (7, _), (19, _), (20, _), (21, _)] ⟨rfl, rfl, rfl, rfl, rfl, rfl, rfl, trivial⟩ ?_
            refine WX.next ?_
            refine WC.draws' (fun u0_ u1_ => Upd No u0_ u1_) (fun j => [0, 0, 1, 0, 1, 1, 2, 0, 2].getD j 0) (.calm 0 (.calm 3 (.held 1 (.one 2 (.one 4 (.one 5 (.one 6 (.calm 7 (.one 8 (.done)))))))))) mixed (by kernel_rfl) (by repeat (first | with_reducible exact Deaf.body | with_reducible apply Deaf.then | with_reducible apply Deaf.block)) ?_
            intro w9 hu9
            have hz9 := congrArg Array.size hu9.2.2.2
            replace hu9 := Upd.of_draw hu9
            have hs9 := hu9.size
            replace hU := hU.trans hu9 (by first | exact (fun _ _ h => h) | exact (fun _ _ h => h.elim) | (intro k hl hk; (try simp only [At, New, Grow, From, No] at hk ⊢); omega) | (intro k hl hk; have := hG k hk; omega))
            replace hr := hr.upd hu9 (fun k hk hl hS => by first | exact (show False from hS).elim | (simp only [At] at hS; omega) | (have := hG k hS; omega))
            replace hks := hks.upd hu9 (fun k hk hl hS => by first | exact (show False from hS).elim | (simp only [At] at hS; omega) | (have := hG k hS; omega))
            replace hB2 := hB2.upd hu9 (by first | exact (fun h => h) | (simp only [At]; omega) | (intro hS; have := hG _ hS; omega))
            replace hb5 := hb5.upd hu9 (by first | exact (fun h => h) | (simp only [At]; omega) | (intro hS; have := hG _ hS; omega))
            replace ho := ho.upd hu9 (fun k hk hl hS => by first | exact (show False from hS).elim | (simp only [At] at hS; first | (have := hG k hk; omega) | (rcases hk with hk | hk <;> first | (have := hG k hk; omega) | omega)))
            replace hys := hys.upd hu9 (fun k hk hl hS => by have := hT k hk; first | exact (show False from hS).elim | (simp only [At] at hS; omega))
            replace htk := htk.upd hu9 (fun k hk hl hS => by first | exact (show False from hS).elim | (simp only [At] at hS; omega) | (have := hG k hS; omega))
            replace hB7 := hB7.updA hu9
            have hS7 := Upd.refl No w9
            have hb7 := hB7
            first | refine WN.calm _ rfl rfl rfl rfl rfl (fun _ => r_field0 rfl (ev_t rfl) fld_28_2) ?_ | refine WN.calm _ rfl rfl rfl rfl rfl (fun _ => r_fieldAt rfl (ev_t rfl) fld_28_2) ?_
            refine WN.calm _ rfl rfl rfl rfl rfl (fun _ => r_move rfl (ev_t rfl)) ?_
            refine WN.held _ rfl rfl rfl rfl rfl hS7 (fun w' hS => r_load rfl (ev_t rfl) flat_26 (Blk.cell (hb5.upd hS (fun h => h)) rfl)) ?_
            refine WN.step _ rfl (SO.val rfl rfl rfl rfl (r_loadAgg (vs := [_, _, _]) rfl (ev_t rfl) agg_28 size_28 (Blk.cellsL hb7)) ?_)
            refine ⟨hS7, ?_⟩
            refine WN.step _ rfl (SO.call (ih _ _ _ _ _ kk (by omega) htk hkv (h51.upd hU (fun h => h)) (hr5.upd hU (fun _ _ _ h => h))) rfl body_41 ⟨(ev_t rfl), (ev_t rfl), trivial⟩ rfl rfl rfl rfl ?_)
            rintro v w10 ⟨a8, b8, c8, rfl, ht8, hu10⟩
            obtain ⟨m8, A8, k8, xk8, rfl, rfl, rfl, _⟩ := ht8.open
            have hs8 := hu10.size
            have hs10 := hu10.size
            replace hS7 := Upd.transA hS7 hu10
            replace hU := hU.trans hu10 (by first | exact (fun _ _ h => h) | exact (fun _ _ h => h.elim) | (intro k hl hk; (try simp only [At, New, Grow, From, No] at hk ⊢); omega) | (intro k hl hk; have := hG k hk; omega))
            replace hr := hr.upd hu10 (fun k hk hl hS => by first | exact (show False from hS).elim | (simp only [At] at hS; omega) | (have := hG k hS; omega))
            replace hks := hks.upd hu10 (fun k hk hl hS => by first | exact (show False from hS).elim | (simp only [At] at hS; omega) | (have := hG k hS; omega))
            replace hB2 := hB2.upd hu10 (by first | exact (fun h => h) | (simp only [At]; omega) | (intro hS; have := hG _ hS; omega))
            replace hb5 := hb5.upd hu10 (by first | exact (fun h => h) | (simp only [At]; omega) | (intro hS; have := hG _ hS; omega))
            replace ho := ho.upd hu10 (fun k hk hl hS => by first | exact (show False from hS).elim | (simp only [At] at hS; first | (have := hG k hk; omega) | (rcases hk with hk | hk <;> first | (have := hG k hk; omega) | omega)))
            replace hys := hys.upd hu10 (fun k hk hl hS => by have := hT k hk; first | exact (show False from hS).elim | (simp only [At] at hS; omega))
            replace htk := htk.upd hu10 (fun k hk hl hS => by first | exact (show False from hS).elim | (simp only [At] at hS; omega) | (have := hG k hS; omega))
            replace hb7 := hb7.upd hu10 (by first | exact (fun h => h) | (simp only [At]; omega) | (intro hS; have := hG _ hS; omega))
            have hys2 := (hys.mono (F' := fun k => T k ∨ New w9 w10 k) (fun k h => .inl h)).snoc (ht8.mono (F' := fun k => T k ∨ New w9 w10 k) (fun k h => .inr h))
            rw [← htake] at hys2
            refine ⟨hS7, ?_⟩
            refine WN.step _ rfl (SO.alloc rfl rfl rfl rfl (r_buildSlice (cs := #[_, _, _]) (vs := [(0, _)]) rfl ⟨⟨rfl, (ev_t rfl)⟩, trivial⟩ row_26 rfl rfl) ?_)
            intro w11 hu11 hB11 hz11
            have hs11 := hu11.size
            replace hS7 := Upd.transA hS7 hu11
            replace hU := hU.trans hu11 (by first | exact (fun _ _ h => h) | exact (fun _ _ h => h.elim) | (intro k hl hk; (try simp only [At, New, Grow, From, No] at hk ⊢); omega) | (intro k hl hk; have := hG k hk; omega))
            replace hr := hr.upd hu11 (fun k hk hl hS => by first | exact (show False from hS).elim | (simp only [At] at hS; omega) | (have := hG k hS; omega))
            replace hks := hks.upd hu11 (fun k hk hl hS => by first | exact (show False from hS).elim | (simp only [At] at hS; omega) | (have := hG k hS; omega))
            replace hB2 := hB2.upd hu11 (by first | exact (fun h => h) | (simp only [At]; omega) | (intro hS; have := hG _ hS; omega))
            replace hb5 := hb5.upd hu11 (by first | exact (fun h => h) | (simp only [At]; omega) | (intro hS; have := hG _ hS; omega))
            replace ho := ho.upd hu11 (fun k hk hl hS => by first | exact (show False from hS).elim | (simp only [At] at hS; first | (have := hG k hk; omega) | (rcases hk with hk | hk <;> first | (have := hG k hk; omega) | omega)))
            replace hys2 := hys2.upd hu11 (fun k hk hl hS => by first | exact (show False from hS).elim | (rcases hk with hk | hk <;> first | exact (hT k hk).2.2 hS | (have := hT k hk; simp only [At] at hS; omega) | (simp only [New] at hk; have := hG k hS; omega) | (simp only [New, At] at *; omega)))
            refine ⟨hS7, ?_⟩
            refine WN.step _ rfl (SO.append ho (show Rd _ _ _ 1 3 [Value.string ⟨(ext (fun x => Ty.v (clI l 1 x)) kk).nm.toArray⟩, .int .i64 m8, .slice A8 (ext (fun x => Ty.v (clI l 1 x)) kk).kids.length k8] from rd_one hB11) row_26 one_c3 (le_maxLen (by omega)) (by omega) rfl (ev_t rfl) (ev_t rfl) rfl rfl rfl rfl ?_)
            intro v12 w12 ho hu12
            have hs12 := hu12.size
            try replace hS7 := Upd.transA hS7 hu12
            replace hU := hU.trans hu12 (by first | exact (fun _ _ h => h) | exact (fun _ _ h => h.elim) | (intro k hl hk; (try simp only [At, New, Grow, From, No] at hk ⊢); omega) | (intro k hl hk; have := hG k hk; omega))
            replace hr := hr.upd hu12 (fun k hk hl hS => by first | exact (show False from hS).elim | (simp only [At] at hS; omega) | (have := hG k hS; omega))
            replace hks := hks.upd hu12 (fun k hk hl hS => by first | exact (show False from hS).elim | (simp only [At] at hS; omega) | (have := hG k hS; omega))
            replace hB2 := hB2.upd hu12 (by first | exact (fun h => h) | (simp only [At]; omega) | (intro hS; have := hG _ hS; omega))
            replace hb5 := hb5.upd hu12 (by first | exact (fun h => h) | (simp only [At]; omega) | (intro hS; have := hG _ hS; omega))
            replace hys2 := hys2.upd hu12 (fun k hk hl hS => by first | exact (show False from hS).elim | (rcases hk with hk | hk <;> first | exact (hT k hk).2.2 hS | (have := hT k hk; simp only [At] at hS; omega) | (simp only [New] at hk; have := hG k hS; omega) | (simp only [New, At] at *; omega)))
            refine ⟨trivial, ?_⟩
            obtain ⟨A12, c12, rfl, hc12⟩ := Own.form ho
            rw [← flat_snoc] at ho
            first | refine WN.calm _ rfl rfl rfl rfl rfl (fun _ => r_field0 rfl (ev_t rfl) fld_28_2) ?_ | refine WN.calm _ rfl rfl rfl rfl rfl (fun _ => r_fieldAt rfl (ev_t rfl) fld_28_2) ?_
            refine WN.step _ rfl (SO.store rfl (ev_t rfl) (ev_t rfl) size_26 hb5 rfl rfl rfl rfl rfl ?_)
            intro w13 hu13 hb5 hz13
            have hs13 := hu13.size
            try replace hS7 := Upd.transA hS7 hu13
            replace hU := hU.trans hu13 (by first | exact (fun _ _ h => h) | exact (fun _ _ h => h.elim) | (intro k hl hk; (try simp only [At, New, Grow, From, No] at hk ⊢); omega) | (intro k hl hk; have := hG k hk; omega))
            replace hr := hr.upd hu13 (fun k hk hl hS => by first | exact (show False from hS).elim | (simp only [At] at hS; omega) | (have := hG k hS; omega))
            replace hks := hks.upd hu13 (fun k hk hl hS => by first | exact (show False from hS).elim | (simp only [At] at hS; omega) | (have := hG k hS; omega))
            replace hB2 := hB2.upd hu13 (by first | exact (fun h => h) | (simp only [At]; omega) | (intro hS; have := hG _ hS; omega))
            replace ho := ho.upd hu13 (fun k hk hl hS => by first | exact (show False from hS).elim | (simp only [At] at hS; first | (have := hG k hk; omega) | (rcases hk with hk | hk <;> first | (have := hG k hk; omega) | omega)))
            replace hys2 := hys2.upd hu13 (fun k hk hl hS => by first | exact (show False from hS).elim | (rcases hk with hk | hk <;> first | exact (hT k hk).2.2 hS | (have := hT k hk; simp only [At] at hS; omega) | (simp only [New] at hk; have := hG k hS; omega) | (simp only [New, At] at *; omega)))
            refine ⟨trivial, ?_⟩
            refine WN.done ?_
            refine WX.keep [(1, _), (4, _), (5, _), (19, _), (20, _), (21, _)] ⟨rfl, rfl, rfl, rfl, rfl, rfl, trivial⟩ ?_
            refine WX.blockNormal ?_
            refine WX.next ?_
            refine WC.region ?_
            first | refine WL.val rfl rfl rfl rfl (r_addN rfl (ev_t rfl) ev_c (by simp only [inK]; omega)) ?_ | refine WL.val rfl rfl rfl rfl (r_add rfl (ev_t rfl) ev_c) ?_
            refine WL.val rfl rfl rfl rfl (r_move rfl (ev_t rfl)) ?_
            refine WL.nil ?_
            refine WX.keep [(1, _), (4, _), (5, _), (19, _), (20, _), (21, _)] ⟨rfl, rfl, rfl, rfl, rfl, rfl, trivial⟩ ?_
            refine WX.meet [(1, _), (4, _), (5, _), (19, _), (20, _), (21, _)] ⟨rfl, rfl, rfl, rfl, rfl, rfl, trivial⟩ ?_
            refine ⟨ks.length - (i + 1), by omega, i + 1, _, _, _, _, _, by omega, rfl, hU, by omega, hr, hks, hB2, hb5, ho, hys2, fun k hk => ?_, fun k hk => ?_, by simp⟩
            · rcases hk with hk | hk
              · have := hG k hk; omega
              · omega
            · rcases hk with hk | hk
              · have h9 := hT k hk
                refine ⟨by omega, by omega, fun h => ?_⟩
                rcases h with h | h
                · exact h9.2.2 h
                · omega
              · simp only [New] at hk
                refine ⟨by omega, by omega, fun h => ?_⟩
                rcases h with h | h
                · have := hG k h; omega
                · omega
         · try (exfalso; first | (simp at hc5; done) | (simp only [decide_eq_true_eq, decide_eq_false_iff_not, Bool.not_eq_true', Bool.not_eq_false', Bool.not_eq_true, Bool.not_eq_false] at hc5; omega) | omega)
           all_goals
            try simp only [decide_eq_true_eq, decide_eq_false_iff_not, Bool.not_eq_true', Bool.not_eq_false', Bool.not_eq_true, Bool.not_eq_false, Option.isNone_none, Option.isNone_some, Option.isSome_none, Option.isSome_some, ne_eq, Decidable.not_not] at hc5
            refine WC.exit ?_
            refine WX.thenExit ?_
            refine WX.thenExit ?_
            refine WX.blockHere ?_
            refine WX.next ?_
            refine WC.seq ?_
            refine WC.region ?_
            refine WL.val rfl rfl rfl rfl (r_loadAgg (vs := [_, _, _]) rfl (ev_t rfl) agg_28 size_28 (Blk.cellsL hb5)) ?_
            refine WL.cons (SO.storeAll (us := [_, _, _]) rfl (ev_t rfl) (ev_t rfl) size_28 hB2 rfl rfl rfl rfl rfl ?_)
            intro w14 hu14 hB2 hz14
            have hs14 := hu14.size
            replace hU := hU.trans hu14 (by first | exact (fun _ _ h => h) | exact (fun _ _ h => h.elim) | (intro k hl hk; (try simp only [At, New, Grow, From, No] at hk ⊢); omega) | (intro k hl hk; have := hG k hk; omega))
            replace hr := hr.upd hu14 (fun k hk hl hS => by first | exact (show False from hS).elim | (simp only [At] at hS; omega) | (have := hG k hS; omega))
            replace hks := hks.upd hu14 (fun k hk hl hS => by first | exact (show False from hS).elim | (simp only [At] at hS; omega) | (have := hG k hS; omega))
            replace hb5 := hb5.upd hu14 (by first | exact (fun h => h) | (simp only [At]; omega) | (intro hS; have := hG _ hS; omega))
            replace ho := ho.upd hu14 (fun k hk hl hS => by first | exact (show False from hS).elim | (simp only [At] at hS; first | (have := hG k hk; omega) | (rcases hk with hk | hk <;> first | (have := hG k hk; omega) | omega)))
            replace hys := hys.upd hu14 (fun k hk hl hS => by have := hT k hk; first | exact (show False from hS).elim | (simp only [At] at hS; omega))
            refine WL.nil ?_
            refine WX.keep [(4, _)] ⟨rfl, trivial⟩ ?_
            refine WX.next ?_
            refine WC.ret ?_
            refine WX.retC (vs := [_, _, _]) rfl rfl agg_28 size_28 (Blk.cellsL hB2) ?_
            obtain rfl : i = ks.length := by omega
            rw [List.take_of_length_le (Nat.le_refl _)] at hys
            refine ⟨_, _, _, rfl, ?_, hU⟩
            rw [ext_c]
            refine TV.kids (t := .c f (ks.map (ext (fun x => Ty.v (clI l 1 x))))) (xs := ys) (fun x e => by cases e) ?_ (by simpa [Ty.kids] using hb) (hys.mono fun k hk => by have := hT k hk; simp only [New]; omega)
            simp only [Ty.kids, List.length_map]
            exact (ho.rd (by omega)).mono fun k hk => by have := hG k hk; simp only [New]; omega

set_option maxHeartbeats 1000000 in
theorem tclose_ok {w : World} {F : Nat → Prop} {a b c : Value} {t : Ty} (ht : TV w F (a, b, c) t) (hlen : (vars t).length ≤ 1000000) :
    Ret Try.prog 26 #[.agg #[a, b, c], .slice none 0 0] w fun v w' => ∃ a' b' c', v = .agg #[.int .i64 ((varsOf t).length : Int), a', b', c'] ∧ TV w' (fun _ => True) (a', b', c') (canon t) ∧ Upd No w w' := by
  replace ht := ht.bound
  obtain ⟨m0, A9, k9, xk9, rfl, rfl, rfl, _⟩ := ht.open
  refine enterRet (vs := [_, _]) (N := 16) Try.func26 rfl rfl rfl ?_
  have hU := Upd.refl No w
  refine WC.keep [(0, _), (1, _)] ⟨rfl, rfl, trivial⟩ ?_
  refine WC.seq ?_
  refine WC.region ?_
  refine WL.cons (SO.alloc rfl rfl rfl rfl (r_boxAgg rfl (ev_t rfl)) ?_)
  intro w1 hu1 hB1 hz1
  have hs1 := hu1.size
  replace hU := hU.transA hu1
  refine WL.cons (SO.alloc rfl rfl rfl rfl (r_box1 rfl (ev_t rfl) rfl) ?_)
  intro w2 hu2 hB2 hz2
  have hs2 := hu2.size
  replace hU := hU.transA hu2
  replace hB1 := hB1.updA hu2
  refine WL.cons (SO.alloc rfl rfl rfl rfl (r_alloc rfl zero_49) ?_)
  intro w3 hu3 hB3 hz3
  have hs3 := hu3.size
  replace hU := hU.transA hu3
  replace hB1 := hB1.updA hu3
  replace hB2 := hB2.updA hu3
  refine WL.nil ?_
  refine WX.keep [(2, _), (3, _), (4, _)] ⟨rfl, rfl, rfl, trivial⟩ ?_
  refine WX.next ?_
  refine WC.seq ?_
  refine WC.region ?_
  refine WL.val rfl rfl rfl rfl (r_loadAgg (vs := [_, _, _]) rfl (ev_t rfl) agg_28 size_28 (Blk.cellsL hB1)) ?_
  refine WL.cons (SO.call (tvars_ok (ht.upd hU (fun _ _ _ h => h)) hlen) rfl body_39 ⟨(ev_t rfl), trivial⟩ rfl rfl rfl rfl ?_)
  rintro v w4 ⟨A, k, rfl, ho, hu4⟩
  have hs4 := hu4.size
  replace hU := hU.transA hu4
  replace hB1 := hB1.updA hu4
  replace hB2 := hB2.updA hu4
  replace hB3 := hB3.updA hu4
  have hrl := ho.rd (by have := (nubA_len (vars t) []).2; unfold varsOf; simp only [List.length_nil] at this; omega)
  refine WL.val rfl rfl rfl rfl (r_makeFunc (vs := []) (us := [_]) rfl trivial ⟨(ev_t rfl), trivial⟩) ?_
  refine WL.cons (SO.call (deleteF_ok hrl hB2) rfl body_38 ⟨(ev_t rfl), (ev_t rfl), trivial⟩ rfl rfl rfl rfl ?_)
  rintro v w5 ⟨rfl, he⟩
  obtain rfl := he.symm
  refine WL.cons (SO.alloc rfl rfl rfl rfl (r_alloc rfl zero_33) ?_)
  intro w6 hu6 hB6 hz6
  have hs6 := hu6.size
  replace hU := hU.transA hu6
  replace hB1 := hB1.updA hu6
  replace hB2 := hB2.updA hu6
  replace hB3 := hB3.updA hu6
  replace hrl := hrl.upd hu6 (fun k hk hl hS => by first | exact (show False from hS).elim | (simp only [New, At] at *; omega))
  refine WL.cons (SO.store rfl (ev_t rfl) (ev_t rfl) size_33 hB6 rfl rfl rfl rfl rfl ?_)
  intro w7 hu7 hB6 hz7
  have hs7 := hu7.size
  replace hU := hU.transA hu7
  replace hB1 := hB1.updA hu7
  replace hB2 := hB2.updA hu7
  replace hB3 := hB3.updA hu7
  replace hrl := hrl.upd hu7 (fun k hk hl hS => by first | exact (show False from hS).elim | (simp only [New, At] at *; omega))
  refine WL.nil ?_
  refine WX.keep [(2, _), (4, _), (5, _)] ⟨rfl, rfl, rfl, trivial⟩ ?_
  refine WX.next ?_
  refine WC.seq ?_
  refine WC.draws' (fun u0_ u1_ => Upd No u0_ u1_) (fun j => [0, 0, 1, 0, 1, 0, 2].getD j 0) (.calm 3 (.held 0 (.calm 1 (.one 2 (.one 4 (.calm 5 (.one 6 (.done)))))))) mixed (by kernel_rfl) (by repeat (first | with_reducible exact Deaf.body | with_reducible apply Deaf.then | with_reducible apply Deaf.block)) ?_
  intro w8 hu8
  have hz8 := congrArg Array.size hu8.2.2.2
  replace hu8 := Upd.of_draw hu8
  have hs8 := hu8.size
  replace hU := hU.transA hu8
  replace hB1 := hB1.updA hu8
  replace hB2 := hB2.updA hu8
  replace hB3 := hB3.updA hu8
  replace hrl := hrl.upd hu8 (fun k hk hl hS => by first | exact (show False from hS).elim | (simp only [New, At] at *; omega))
  replace hB6 := hB6.updA hu8
  have hS2 := Upd.refl No w8
  refine WN.calm _ rfl rfl rfl rfl rfl (fun _ => r_makeFunc (vs := []) (us := [_]) rfl trivial ⟨(ev_t rfl), trivial⟩) ?_
  have hb5 := hB6
  refine WN.held _ rfl rfl rfl rfl rfl hS2 (fun w' hS => r_load rfl (ev_t rfl) flat_33 (Blk.cell (hb5.upd hS (fun h => h)) rfl)) ?_
  refine WN.calm _ rfl rfl rfl rfl rfl (fun _ => r_lenSlice (ts := #[]) rfl (ev_t rfl) elem_33) ?_
  refine WN.step _ rfl (SO.val rfl rfl rfl rfl (r_loadAgg (vs := [_, _, _]) rfl (ev_t rfl) agg_28 size_28 (Blk.cellsL hB1)) ?_)
  refine ⟨hS2, ?_⟩
  refine WN.step _ rfl (SO.call (rename2_ok _ _ _ _ _ _ t (Nat.le_refl _) (ht.upd hU (fun _ _ _ h => h)) (fun x hx => mem_varsOf.2 hx) hb5 hrl) rfl body_41 ⟨(ev_t rfl), (ev_t rfl), trivial⟩ rfl rfl rfl rfl ?_)
  rintro v w9 ⟨a', b', c', rfl, hq, hu9⟩
  rw [← canon_cl] at hq
  obtain ⟨mq, Aq, kq, xkq, rfl, rfl, rfl, _⟩ := hq.open
  have hs9 := hu9.size
  replace hS2 := Upd.transA hS2 hu9
  replace hU := hU.transA hu9
  replace hB1 := hB1.updA hu9
  replace hB2 := hB2.updA hu9
  replace hB3 := hB3.updA hu9
  replace hrl := hrl.upd hu9 (fun k hk hl hS => by first | exact (show False from hS).elim | (simp only [New, At] at *; omega))
  replace hb5 := hb5.updA hu9
  refine ⟨hS2, ?_⟩
  refine WN.calm _ rfl rfl rfl rfl rfl (fun _ => r_build (cs := #[_, _, _, _]) (vs := [(0, _), (1, _)]) rfl ⟨⟨rfl, (ev_t rfl)⟩, ⟨rfl, (ev_t rfl)⟩, trivial⟩ plc_49 zero_49 rfl) ?_
  refine WN.step _ rfl (SO.storeAll (us := [_, _, _, _]) rfl (ev_t rfl) (ev_t rfl) size_49 hB3 rfl rfl rfl rfl rfl ?_)
  intro w10 hu10 hB3 hz10
  have hs10 := hu10.size
  try replace hS2 := Upd.transA hS2 hu10
  replace hU := hU.transA hu10
  replace hB1 := hB1.updA hu10
  replace hB2 := hB2.updA hu10
  replace hrl := hrl.upd hu10 (fun k hk hl hS => by first | exact (show False from hS).elim | (simp only [New, At] at *; omega))
  replace hb5 := hb5.updA hu10
  replace hq := hq.upd hu10 (fun k hk hl hS => by first | exact (show False from hS).elim | (simp only [New, At] at *; omega))
  refine ⟨trivial, ?_⟩
  refine WN.done ?_
  refine WX.keep [(4, _)] ⟨rfl, trivial⟩ ?_
  refine WX.next ?_
  refine WC.ret ?_
  refine WX.retC (vs := [_, _, _, _]) rfl rfl agg_49 size_49 (Blk.cellsL hB3) ?_
  exact ⟨_, _, _, rfl, hq.mono fun _ _ => trivial, hU⟩
end Go.Proofs.Ytncakfcafkfmfaa
