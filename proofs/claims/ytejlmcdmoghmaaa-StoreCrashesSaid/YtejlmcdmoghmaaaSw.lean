/-
  law 15: a store and its drum, together; open, same, the example.
-/
import Derived.Test.YtejlmcdmoghmaaaSv
import Derived.Test.YtejlmcdmoghmaaaFp
namespace Go.Proofs.Ytejlmcdmoghmaaa
open Go
set_option linter.unusedSimpArgs false
set_option linter.unusedVariables false

/-- a store at t over a drum at p, in the region R -/
def St (w : World) (R : Nat → Prop) (p t : Nat) (D : DS) (T : SS) : Prop := ∃ F G, IsS w F t p 1 T ∧ IsD w G p D ∧ (∀ k, F k → ¬ G k) ∧ (∀ k, F k → R k ∧ k < w.heap.size) ∧ ∀ k, G k → R k ∧ k < w.heap.size
theorem St.upd {w w' : World} {R S : Nat → Prop} {p t : Nat} {D : DS} {T : SS} (h : St w R p t D T) (hu : Upd S w w') (hn : ∀ k, R k → k < w.heap.size → ¬ S k) : St w' R p t D T := by
  obtain ⟨F, G, h1, h2, h3, h4, h5⟩ := h
  exact ⟨F, G, h1.upd hu (fun k hk hl => hn k (h4 k hk).1 hl), h2.upd hu (fun k hk hl => hn k (h5 k hk).1 hl), h3, fun k hk => ⟨(h4 k hk).1, Nat.lt_of_lt_of_le (h4 k hk).2 hu.size⟩, fun k hk => ⟨(h5 k hk).1, Nat.lt_of_lt_of_le (h5 k hk).2 hu.size⟩⟩
theorem St.mono {w : World} {R R' : Nat → Prop} {p t : Nat} {D : DS} {T : SS} (h : St w R p t D T) (hR : ∀ k, R k → k < w.heap.size → R' k) : St w R' p t D T := by
  obtain ⟨F, G, h1, h2, h3, h4, h5⟩ := h
  exact ⟨F, G, h1, h2, h3, fun k hk => ⟨hR k (h4 k hk).1 (h4 k hk).2, (h4 k hk).2⟩, fun k hk => ⟨hR k (h5 k hk).1 (h5 k hk).2, (h5 k hk).2⟩⟩
theorem St.drum {w : World} {R : Nat → Prop} {p t : Nat} {D : DS} {T : SS} (h : St w R p t D T) : IsD w R p D := by
  obtain ⟨F, G, h1, h2, h3, h4, h5⟩ := h
  exact h2.mono fun k hk _ => (h5 k hk).1

theorem saveSt {w : World} {R H : Nat → Prop} {t p : Nat} {D : DS} {T : SS} {x : Sn} {dv : Value} {n : Nat} (h : St w R p t D T) (hr : Rd w H dv n 1 (x.data.map U8)) (hH : ∀ k, H k → k < w.heap.size → ¬ R k) (hx : x.ok)
    (hlen : D.l.length = 3) (hoff : D.off = false) (hside : T.side < 2) (harm : 0 ≤ D.armed) :
    Ret Try.prog 28 #[.pointer (some ⟨t, 0, none⟩), .agg #[.int .u64 (x.idx : Int), .int .u64 (x.term : Int), dv]] w fun v w' =>
      v = .int .i64 ((SS.save D 1 T x).2.2 : Int) ∧ St w' (Grow R w w') p t (SS.save D 1 T x).1 (SS.save D 1 T x).2.1 ∧ Upd R w w' := by
  obtain ⟨F, G, h1, h2, h3, h4, h5⟩ := h
  refine Ret.mono (Save_ok h1 h2 h3 hr (fun k hk hl => ⟨fun hf => hH k hk hl (h4 k hf).1, fun hg => hH k hk hl (h5 k hg).1⟩) (fun k hk => (h4 k hk).2) (fun k hk => (h5 k hk).2) hx hlen hoff hside harm) ?_
  rintro v w' ⟨hv, hu, F', G', g1, g2, g3, g4, g5⟩
  refine ⟨hv, ⟨F', G', g1, g2, g3, fun k hk => ?_, fun k hk => ?_⟩, hu.mono fun k _ hk => hk.elim (fun h => (h4 k h).1) (fun h => (h5 k h).1)⟩
  · rcases g4 k hk with hg | hg
    · exact ⟨.inl (h4 k hg).1, Nat.lt_of_lt_of_le (h4 k hg).2 hu.size⟩
    · exact ⟨.inr hg, hg.2⟩
  · rcases g5 k hk with hg | hg
    · exact ⟨.inl (h5 k hg).1, Nat.lt_of_lt_of_le (h5 k hg).2 hu.size⟩
    · exact ⟨.inr hg, hg.2⟩
theorem snapSt {w : World} {R : Nat → Prop} {t p : Nat} {D : DS} {T : SS} (h : St w R p t D T) :
    Ret Try.prog 30 #[.pointer (some ⟨t, 0, none⟩)] w fun v w' => ∃ A c, v = .agg #[.int .u64 (T.s.idx : Int), .int .u64 (T.s.term : Int), .slice A T.s.data.length c] ∧ Own w' (New w w') 5 1 (.slice A T.s.data.length c) T.s.data.length (T.s.data.map U8) ∧ Upd No w w' := by
  obtain ⟨F, G, h1, _⟩ := h
  refine Ret.mono (Snap_ok h1) ?_
  rintro v w' ⟨dv, rfl, ho, hu⟩
  obtain ⟨A, c, rfl, _⟩ := Own.form ho
  exact ⟨A, c, rfl, ho, hu⟩
theorem openSt {w : World} {R : Nat → Prop} {p : Nat} {D : DS} (h : IsD w R p D) (hR : ∀ k, R k → k < w.heap.size) (hlen : D.l.length = 3) (hoff : D.off = false) :
    Ret Try.prog 32 #[.pointer (some ⟨p, 0, none⟩), .int .i64 1] w fun v w' => Upd R w w' ∧
      (((openD D).2 ≠ 0 ∧ v = .tuple #[.pointer none, .int .i64 ((openD D).2 : Int)] ∧ IsD w' (Grow R w w') p (openD D).1) ∨ ((openD D).2 = 0 ∧ ∃ t, v = .tuple #[.pointer (some ⟨t, 0, none⟩), .int .i64 0] ∧ St w' (Grow R w w') p t (openD D).1 (pickN D 2))) := by
  refine Ret.mono (Open_ok h hlen hoff hR) ?_
  rintro v w' ⟨hu, F', hd, hF, hc⟩
  refine ⟨hu, ?_⟩
  rcases hc with ⟨h0, rfl⟩ | ⟨h0, t, G, rfl, hs, hFG, hG⟩
  · exact .inl ⟨h0, rfl, hd.mono fun k hk _ => hF k hk⟩
  · refine .inr ⟨h0, t, rfl, G, fun k => F' k ∧ k < w'.heap.size, hs, hd.mono fun k hk hl => ⟨hk, hl⟩, fun k hk hk' => hFG k hk'.1 hk, fun k hk => ⟨.inr (hG k hk), (hG k hk).2⟩, fun k hk => ⟨hF k hk.1, hk.2⟩⟩
theorem openD_new (M : Int) : openD (DS.new 3 M) = (DS.new 3 M, 0) ∧ pickN (DS.new 3 M) 2 = ss0 := ⟨rfl, rfl⟩

theorem open15_ok {w : World} {most : Int} (h2 : 1 ≤ most ∧ most ≤ 1048576) :
    Ret Try.prog 27 #[.int .i64 most] w fun v w' => ∃ p t, v = .tuple #[.pointer (some ⟨p, 0, none⟩), .pointer (some ⟨t, 0, none⟩)] ∧ St w' (New w w') p t (DS.new 3 most) ss0 ∧ Upd No w w' := by
  refine enterRet (vs := [_]) (N := 23) Try.func27 rfl rfl rfl ?_
  have hU := Upd.refl No w
  refine WC.keep [(0, _)] ⟨rfl, trivial⟩ ?_
  refine WC.seq ?_
  refine WC.region ?_
  refine WL.val rfl rfl rfl rfl (r_assign rfl ev_c) ?_
  refine WL.val rfl rfl rfl rfl (r_assign rfl ev_c) ?_
  refine WL.nil ?_
  refine WX.keep [(0, _)] ⟨rfl, trivial⟩ ?_
  refine WX.next ?_
  refine WC.seq ?_
  refine WC.region ?_
  refine WL.val rfl rfl rfl rfl (r_move rfl (ev_t rfl)) ?_
  refine WL.cons (SO.call (Dnew_ok (n := 3) (most := most) (by omega) h2) rfl body_15 ⟨ev_c, (ev_t rfl), trivial⟩ rfl rfl rfl rfl ?_)
  rintro v w1 ⟨p, rfl, hd, hu1⟩
  have hs1 := hu1.size
  replace hU := hU.transA hu1
  refine WL.val rfl rfl rfl rfl (r_move rfl (ev_t rfl)) ?_
  refine WL.val rfl rfl rfl rfl (r_extract rfl (ev_t rfl) rfl) ?_
  refine WL.val rfl rfl rfl rfl (r_extract rfl (ev_t rfl) rfl) ?_
  refine WL.val rfl rfl rfl rfl (r_assign rfl (ev_t rfl)) ?_
  refine WL.val rfl rfl rfl rfl (r_assign rfl (ev_t rfl)) ?_
  refine WL.nil ?_
  refine WX.keep [(4, _)] ⟨rfl, trivial⟩ ?_
  refine WX.next ?_
  refine WC.seq ?_
  refine WC.region ?_
  refine WL.val rfl rfl rfl rfl (r_move rfl (ev_t rfl)) ?_
  refine WL.cons (SO.call (openSt hd (fun k hk => hk.2) rfl rfl) rfl body_32 ⟨(ev_t rfl), ev_c, trivial⟩ rfl rfl rfl rfl ?_)
  rintro v w2 ⟨hu2, hc⟩
  obtain ⟨t, rfl, hs⟩ : ∃ t, v = .tuple #[.pointer (some ⟨t, 0, none⟩), .int .i64 0] ∧ St w2 (Grow (New w w1) w1 w2) p t (DS.new 3 most) ss0 := by
    rcases hc with ⟨h0, _⟩ | ⟨_, h1⟩
    · rw [(openD_new most).1] at h0; exact absurd rfl h0
    · rw [(openD_new most).1, (openD_new most).2] at h1; exact h1
  have hs2 := hu2.size
  replace hU := hU.transA hu2
  refine WL.val rfl rfl rfl rfl (r_move rfl (ev_t rfl)) ?_
  refine WL.val rfl rfl rfl rfl (r_extract rfl (ev_t rfl) rfl) ?_
  refine WL.val rfl rfl rfl rfl (r_extract rfl (ev_t rfl) rfl) ?_
  refine WL.val rfl rfl rfl rfl (r_assign rfl (ev_t rfl)) ?_
  refine WL.val rfl rfl rfl rfl (r_assign rfl (ev_t rfl)) ?_
  refine WL.nil ?_
  refine WX.keep [(4, _), (6, _), (7, _)] ⟨rfl, rfl, rfl, trivial⟩ ?_
  refine WX.next ?_
  refine WC.seq ?_
  refine WC.seq ?_
  refine WC.region ?_
  refine WL.val rfl rfl rfl rfl (r_move rfl (ev_t rfl)) ?_
  refine WL.val rfl rfl rfl rfl (r_neq rfl (ev_t rfl) ev_c) ?_
  refine WL.nil ?_
  refine WX.keep [(4, _), (6, _), (19, _)] ⟨rfl, rfl, rfl, trivial⟩ ?_
  refine WX.next ?_
  refine WC.cond rfl (ev_t rfl) (fun hc3 => ?_) (fun hc3 => ?_)
  · try (exfalso; first | (simp at hc3; done) | (simp only [decide_eq_true_eq, decide_eq_false_iff_not, Bool.not_eq_true', Bool.not_eq_false', Bool.not_eq_true, Bool.not_eq_false] at hc3; omega) | omega)
    all_goals
     try simp only [decide_eq_true_eq, decide_eq_false_iff_not, Bool.not_eq_true', Bool.not_eq_false', Bool.not_eq_true, Bool.not_eq_false, Option.isNone_none, Option.isNone_some, Option.isSome_none, Option.isSome_some, ne_eq, Decidable.not_not] at hc3
     refine WC.seq ?_
     refine WC.region ?_
     refine WL.val rfl rfl rfl rfl (r_move rfl (ev_t rfl)) ?_
     refine WL.val rfl rfl rfl rfl (r_assign rfl (ev_t rfl)) ?_
     refine WL.val rfl rfl rfl rfl (r_assign rfl ev_c) ?_
     refine WL.nil ?_
     refine WX.keep [(2, _), (3, _)] ⟨rfl, rfl, trivial⟩ ?_
     refine WX.next ?_
     refine WC.ret ?_
     refine WX.thenRet ?_
     refine WX.retE2 rfl rfl rfl ?_
     fail
  · try (exfalso; first | (simp at hc3; done) | (simp only [decide_eq_true_eq, decide_eq_false_iff_not, Bool.not_eq_true', Bool.not_eq_false', Bool.not_eq_true, Bool.not_eq_false] at hc3; omega) | omega)
    all_goals
     try simp only [decide_eq_true_eq, decide_eq_false_iff_not, Bool.not_eq_true', Bool.not_eq_false', Bool.not_eq_true, Bool.not_eq_false, Option.isNone_none, Option.isNone_some, Option.isSome_none, Option.isSome_some, ne_eq, Decidable.not_not] at hc3
     refine WC.skip ?_
     refine WX.next ?_
     refine WC.seq ?_
     refine WC.region ?_
     refine WL.val rfl rfl rfl rfl (r_move rfl (ev_t rfl)) ?_
     refine WL.val rfl rfl rfl rfl (r_move rfl (ev_t rfl)) ?_
     refine WL.val rfl rfl rfl rfl (r_assign rfl (ev_t rfl)) ?_
     refine WL.val rfl rfl rfl rfl (r_assign rfl (ev_t rfl)) ?_
     refine WL.nil ?_
     refine WX.keep [(2, _), (3, _)] ⟨rfl, rfl, trivial⟩ ?_
     refine WX.next ?_
     refine WC.ret ?_
     refine WX.retE2 rfl rfl rfl ?_
     exact ⟨p, t, rfl, hs.mono (fun k hk _ => by simp only [New, Grow] at *; omega), hU⟩

theorem same_ok {w : World} {H K : Nat → Prop} {a b : Sn} {va vb : Value} {n m : Nat} (ha : Rd w H va n 1 (a.data.map U8)) (hb : Rd w K vb m 1 (b.data.map U8)) :
    Ret Try.prog 29 #[.agg #[.int .u64 (a.idx : Int), .int .u64 (a.term : Int), va], .agg #[.int .u64 (b.idx : Int), .int .u64 (b.term : Int), vb]] w fun v w' => v = .bool (decide (a = b)) ∧ Upd No w w' := by
  obtain ⟨Aa, ca, rfl, hca⟩ := ha.slice_form
  obtain ⟨Ab, cb, rfl, hcb⟩ := hb.slice_form
  replace ha := ha.bound
  replace hb := hb.bound
  have hab : a = b ↔ (a.idx = b.idx ∧ a.term = b.term) ∧ a.data = b.data := by
    obtain ⟨i, t, d⟩ := a
    obtain ⟨i', t', d'⟩ := b
    simp [and_assoc]
  refine enterRet (vs := [_, _]) (N := 26) Try.func29 rfl rfl rfl ?_
  have hU := Upd.refl No w
  refine WC.keep [(0, _), (1, _)] ⟨rfl, rfl, trivial⟩ ?_
  refine WC.seq ?_
  refine WC.region ?_
  refine WL.cons (SO.alloc rfl rfl rfl rfl (r_boxAgg rfl (ev_t rfl)) ?_)
  intro w1 hu1 hB1 hz1
  have hs1 := hu1.size
  replace hU := hU.transA hu1
  replace ha := ha.updA hu1
  replace hb := hb.updA hu1
  refine WL.cons (SO.alloc rfl rfl rfl rfl (r_boxAgg rfl (ev_t rfl)) ?_)
  intro w2 hu2 hB2 hz2
  have hs2 := hu2.size
  replace hU := hU.transA hu2
  replace ha := ha.updA hu2
  replace hb := hb.updA hu2
  replace hB1 := hB1.updA hu2
  refine WL.val rfl rfl rfl rfl (r_assign rfl ev_c) ?_
  refine WL.nil ?_
  refine WX.keep [(2, _), (3, _)] ⟨rfl, rfl, trivial⟩ ?_
  refine WX.next ?_
  refine WC.seq ?_
  refine WC.region ?_
  first | refine WL.val rfl rfl rfl rfl (r_field0 rfl (ev_t rfl) fld_50_0) ?_ | refine WL.val rfl rfl rfl rfl (r_fieldAt rfl (ev_t rfl) fld_50_0) ?_
  first | refine WL.val rfl rfl rfl rfl (r_load rfl (ev_t rfl) flat_48 (Blk.cell hB1 rfl)) ?_ | refine WL.val rfl rfl rfl rfl (r_load rfl (ev_t rfl) flat_48 (Blk.cell hB2 rfl)) ?_
  first | refine WL.val rfl rfl rfl rfl (r_field0 rfl (ev_t rfl) fld_50_0) ?_ | refine WL.val rfl rfl rfl rfl (r_fieldAt rfl (ev_t rfl) fld_50_0) ?_
  first | refine WL.val rfl rfl rfl rfl (r_load rfl (ev_t rfl) flat_48 (Blk.cell hB1 rfl)) ?_ | refine WL.val rfl rfl rfl rfl (r_load rfl (ev_t rfl) flat_48 (Blk.cell hB2 rfl)) ?_
  refine WL.val rfl rfl rfl rfl (r_eql rfl (ev_t rfl) (ev_t rfl)) ?_
  refine WL.val rfl rfl rfl rfl (r_move rfl (ev_t rfl)) ?_
  refine WL.cases 10 rfl (fun hb1_5 => ?_) (fun hb1_5 => ?_)
  · try (exfalso; first | (simp at hb1_5; done) | (simp only [decide_eq_true_eq, decide_eq_false_iff_not, Bool.not_eq_true', Bool.not_eq_false', Bool.not_eq_true, Bool.not_eq_false] at hb1_5; omega) | omega)
    all_goals
     try simp only [decide_eq_true_eq, decide_eq_false_iff_not, Bool.not_eq_true', Bool.not_eq_false', Bool.not_eq_true, Bool.not_eq_false, Option.isNone_none, Option.isNone_some, Option.isSome_none, Option.isSome_some, ne_eq, Decidable.not_not] at hb1_5
     first | refine WL.val rfl rfl rfl rfl (r_field0 rfl (ev_t rfl) fld_50_1) ?_ | refine WL.val rfl rfl rfl rfl (r_fieldAt rfl (ev_t rfl) fld_50_1) ?_
     first | refine WL.val rfl rfl rfl rfl (r_load rfl (ev_t rfl) flat_48 (Blk.cell hB1 rfl)) ?_ | refine WL.val rfl rfl rfl rfl (r_load rfl (ev_t rfl) flat_48 (Blk.cell hB2 rfl)) ?_
     first | refine WL.val rfl rfl rfl rfl (r_field0 rfl (ev_t rfl) fld_50_1) ?_ | refine WL.val rfl rfl rfl rfl (r_fieldAt rfl (ev_t rfl) fld_50_1) ?_
     first | refine WL.val rfl rfl rfl rfl (r_load rfl (ev_t rfl) flat_48 (Blk.cell hB1 rfl)) ?_ | refine WL.val rfl rfl rfl rfl (r_load rfl (ev_t rfl) flat_48 (Blk.cell hB2 rfl)) ?_
     refine WL.val rfl rfl rfl rfl (r_eql rfl (ev_t rfl) (ev_t rfl)) ?_
     refine WL.val rfl rfl rfl rfl (r_pickT rfl (ev_t rfl) (ev_t rfl)) ?_
     refine WL.val rfl rfl rfl rfl (r_move rfl (ev_t rfl)) ?_
     refine WL.cases 17 rfl (fun hb1_12 => ?_) (fun hb1_12 => ?_)
     · try (exfalso; first | (simp at hb1_12; done) | (simp only [decide_eq_true_eq, decide_eq_false_iff_not, Bool.not_eq_true', Bool.not_eq_false', Bool.not_eq_true, Bool.not_eq_false] at hb1_12; omega) | omega)
       all_goals
        try simp only [decide_eq_true_eq, decide_eq_false_iff_not, Bool.not_eq_true', Bool.not_eq_false', Bool.not_eq_true, Bool.not_eq_false, Option.isNone_none, Option.isNone_some, Option.isSome_none, Option.isSome_some, ne_eq, Decidable.not_not] at hb1_12
        first | refine WL.val rfl rfl rfl rfl (r_field0 rfl (ev_t rfl) fld_50_2) ?_ | refine WL.val rfl rfl rfl rfl (r_fieldAt rfl (ev_t rfl) fld_50_2) ?_
        first | refine WL.val rfl rfl rfl rfl (r_load rfl (ev_t rfl) flat_22 (Blk.cell hB1 rfl)) ?_ | refine WL.val rfl rfl rfl rfl (r_load rfl (ev_t rfl) flat_22 (Blk.cell hB2 rfl)) ?_
        refine WL.val rfl rfl rfl rfl (r_toStr rfl (ev_t rfl) ha elem_22 int_5 str_9) ?_
        first | refine WL.val rfl rfl rfl rfl (r_field0 rfl (ev_t rfl) fld_50_2) ?_ | refine WL.val rfl rfl rfl rfl (r_fieldAt rfl (ev_t rfl) fld_50_2) ?_
        first | refine WL.val rfl rfl rfl rfl (r_load rfl (ev_t rfl) flat_22 (Blk.cell hB1 rfl)) ?_ | refine WL.val rfl rfl rfl rfl (r_load rfl (ev_t rfl) flat_22 (Blk.cell hB2 rfl)) ?_
        refine WL.val rfl rfl rfl rfl (r_toStr rfl (ev_t rfl) hb elem_22 int_5 str_9) ?_
        refine WL.val rfl rfl rfl rfl (r_eqlStrL rfl (ev_t rfl) (ev_t rfl)) ?_
        refine WL.val rfl rfl rfl rfl (r_pickT rfl (ev_t rfl) (ev_t rfl)) ?_
        refine WL.val rfl rfl rfl rfl (r_assign rfl (ev_t rfl)) ?_
        refine WL.nil ?_
        refine WX.keep [(4, _)] ⟨rfl, trivial⟩ ?_
        refine WX.next ?_
        refine WC.ret ?_
        refine WX.retE1 rfl rfl ?_
        refine ⟨?_, hU⟩
        rw [Value.bool.injEq, Bool.eq_iff_iff]
        simp only [decide_eq_true_eq, Bool.false_eq_true, hab, false_iff, not_and]
        first
          | omega
          | (constructor <;> intro h <;> first | exact ⟨⟨by omega, by omega⟩, h⟩ | exact h.2)
     · try (exfalso; first | (simp at hb1_12; done) | (simp only [decide_eq_true_eq, decide_eq_false_iff_not, Bool.not_eq_true', Bool.not_eq_false', Bool.not_eq_true, Bool.not_eq_false] at hb1_12; omega) | omega)
       all_goals
        try simp only [decide_eq_true_eq, decide_eq_false_iff_not, Bool.not_eq_true', Bool.not_eq_false', Bool.not_eq_true, Bool.not_eq_false, Option.isNone_none, Option.isNone_some, Option.isSome_none, Option.isSome_some, ne_eq, Decidable.not_not] at hb1_12
        refine WL.skip rfl rfl rfl ?_
        refine WL.skip rfl rfl rfl ?_
        refine WL.skip rfl rfl rfl ?_
        refine WL.skip rfl rfl rfl ?_
        refine WL.skip rfl rfl rfl ?_
        refine WL.skip rfl rfl rfl ?_
        refine WL.skip rfl rfl rfl ?_
        refine WL.val rfl rfl rfl rfl (r_pickF rfl (ev_t rfl) ev_c) ?_
        refine WL.val rfl rfl rfl rfl (r_assign rfl (ev_t rfl)) ?_
        refine WL.nil ?_
        refine WX.keep [(4, _)] ⟨rfl, trivial⟩ ?_
        refine WX.next ?_
        refine WC.ret ?_
        refine WX.retE1 rfl rfl ?_
        refine ⟨?_, hU⟩
        rw [Value.bool.injEq, Bool.eq_iff_iff]
        simp only [decide_eq_true_eq, Bool.false_eq_true, hab, false_iff, not_and]
        first
          | omega
          | (constructor <;> intro h <;> first | exact ⟨⟨by omega, by omega⟩, h⟩ | exact h.2)
  · try (exfalso; first | (simp at hb1_5; done) | (simp only [decide_eq_true_eq, decide_eq_false_iff_not, Bool.not_eq_true', Bool.not_eq_false', Bool.not_eq_true, Bool.not_eq_false] at hb1_5; omega) | omega)
    all_goals
     try simp only [decide_eq_true_eq, decide_eq_false_iff_not, Bool.not_eq_true', Bool.not_eq_false', Bool.not_eq_true, Bool.not_eq_false, Option.isNone_none, Option.isNone_some, Option.isSome_none, Option.isSome_some, ne_eq, Decidable.not_not] at hb1_5
     refine WL.skip rfl rfl rfl ?_
     refine WL.skip rfl rfl rfl ?_
     refine WL.skip rfl rfl rfl ?_
     refine WL.skip rfl rfl rfl ?_
     refine WL.skip rfl rfl rfl ?_
     refine WL.val rfl rfl rfl rfl (r_pickF rfl (ev_t rfl) ev_c) ?_
     refine WL.val rfl rfl rfl rfl (r_move rfl (ev_t rfl)) ?_
     refine WL.skip rfl rfl rfl ?_
     refine WL.skip rfl rfl rfl ?_
     refine WL.skip rfl rfl rfl ?_
     refine WL.skip rfl rfl rfl ?_
     refine WL.skip rfl rfl rfl ?_
     refine WL.skip rfl rfl rfl ?_
     refine WL.skip rfl rfl rfl ?_
     refine WL.val rfl rfl rfl rfl (r_pickF rfl (ev_t rfl) ev_c) ?_
     refine WL.val rfl rfl rfl rfl (r_assign rfl (ev_t rfl)) ?_
     refine WL.nil ?_
     refine WX.keep [(4, _)] ⟨rfl, trivial⟩ ?_
     refine WX.next ?_
     refine WC.ret ?_
     refine WX.retE1 rfl rfl ?_
     refine ⟨?_, hU⟩
     rw [Value.bool.injEq, Bool.eq_iff_iff]
     simp only [decide_eq_true_eq, Bool.false_eq_true, hab, false_iff, not_and]
     first
       | omega
       | (constructor <;> intro h <;> first | exact ⟨⟨by omega, by omega⟩, h⟩ | exact h.2)
end Go.Proofs.Ytejlmcdmoghmaaa
