/-
  slices.Clone of bytes.
-/
import Derived.Test.YtipabhbnljadfaaDoorTab
import Derived.Test.YtipabhbnljadfaaDoorFo
namespace Go.Proofs.YtipabhbnljadfaaDoor
open Go
set_option linter.unusedSimpArgs false
set_option linter.unusedVariables false

theorem clone_ok {w : World} {F : Nat → Prop} {v : Value} {n : Nat} {l : List UInt8} (hr : Rd w F v n 1 (l.map U8)) :
    Ret Tryd.prog 31 #[v] w fun v' w' => Own w' (New w w') 5 1 v' n (l.map U8) ∧ Upd No w w' := by
  obtain ⟨A, c, rfl, hle⟩ := hr.slice_form
  have hm := hr.le
  have hn := hr.lenB
  replace hr := hr.bound
  refine enterRet (vs := [_]) (N := 8) Tryd.func31 rfl rfl rfl ?_
  have hU := Upd.refl No w
  refine WC.keep [(0, _)] ⟨rfl, trivial⟩ ?_
  refine WC.seq ?_
  refine WC.region ?_
  refine WL.val rfl rfl rfl rfl (r_assign rfl ev_c) ?_
  refine WL.nil ?_
  refine WX.keep [(0, _)] ⟨rfl, trivial⟩ ?_
  refine WX.next ?_
  refine WC.seq ?_
  refine WC.seq ?_
  refine WC.region ?_
  refine WL.val rfl rfl rfl rfl (r_move rfl (ev_t rfl)) ?_
  refine WL.val rfl rfl rfl rfl (r_eqlSliceNil rfl (ev_t rfl) ev_c elem_30) ?_
  refine WL.nil ?_
  refine WX.keep [(0, _), (4, _)] ⟨rfl, rfl, trivial⟩ ?_
  refine WX.next ?_
  refine WC.cond rfl (ev_t rfl) (fun hc1 => ?_) (fun hc1 => ?_)
  · try (exfalso; first | (simp at hc1; done) | (simp only [decide_eq_true_eq, decide_eq_false_iff_not, Bool.not_eq_true', Bool.not_eq_false', Bool.not_eq_true, Bool.not_eq_false] at hc1; omega) | omega)
    all_goals
     try simp only [decide_eq_true_eq, decide_eq_false_iff_not, Bool.not_eq_true', Bool.not_eq_false', Bool.not_eq_true, Bool.not_eq_false, Option.isNone_none, Option.isNone_some, Option.isSome_none, Option.isSome_some, ne_eq, Decidable.not_not] at hc1
     have h0 : n = 0 := by
       rcases Nat.eq_zero_or_pos n with h | h
       · exact h
       · obtain ⟨b, off, rfl, _⟩ := hr.open h
         simp at hc1
     refine WC.seq ?_
     refine WC.region ?_
     refine WL.val rfl rfl rfl rfl (r_assign rfl ev_c) ?_
     refine WL.nil ?_
     refine WX.keep [(2, _)] ⟨rfl, trivial⟩ ?_
     refine WX.next ?_
     refine WC.ret ?_
     refine WX.thenRet ?_
     refine WX.retE1 rfl rfl ?_
     subst h0
     rw [List.eq_nil_of_length_eq_zero hn]
     exact ⟨Own.nil _ _ _ _, hU⟩
  · try (exfalso; first | (simp at hc1; done) | (simp only [decide_eq_true_eq, decide_eq_false_iff_not, Bool.not_eq_true', Bool.not_eq_false', Bool.not_eq_true, Bool.not_eq_false] at hc1; omega) | omega)
    all_goals
     try simp only [decide_eq_true_eq, decide_eq_false_iff_not, Bool.not_eq_true', Bool.not_eq_false', Bool.not_eq_true, Bool.not_eq_false, Option.isNone_none, Option.isNone_some, Option.isSome_none, Option.isSome_some, ne_eq, Decidable.not_not] at hc1
     refine WC.skip ?_
     refine WX.next ?_
     refine WC.seq ?_
     refine WC.region ?_
     refine WL.cons (SO.alloc rfl rfl rfl rfl (r_buildSlice1 (vs := []) rfl trivial rfl row_30 rfl rfl) ?_)
     intro w1 hu1 hB1 hz1
     have hs1 := hu1.size
     replace hU := hU.transA hu1
     replace hr := hr.updA hu1
     refine WL.val rfl rfl rfl rfl (r_move rfl (ev_t rfl)) ?_
     refine WL.cons (SO.append (Own.of_blk (F := At _) (n := 0) (sz := 1) hB1 rfl rfl (by decide)) hr row_30 (U8_one _) (le_maxLen (by omega)) (by omega) rfl (ev_t rfl) (ev_t rfl) rfl rfl rfl rfl ?_)
     intro v2 w2 ho hu2
     have hs2 := hu2.size
     replace hU := hU.transA hu2
     replace hr := hr.updA hu2
     obtain ⟨A2, c2, rfl, hc2⟩ := Own.form ho
     refine WL.val rfl rfl rfl rfl (r_assign rfl (ev_t rfl)) ?_
     refine WL.nil ?_
     refine WX.keep [(2, _)] ⟨rfl, trivial⟩ ?_
     refine WX.next ?_
     refine WC.ret ?_
     refine WX.retE1 rfl rfl ?_
     rw [Nat.zero_add] at ho ⊢
     exact ⟨ho.mono (fun k hk => by rcases hk with h | h <;> simp only [At, New] at * <;> omega), hU⟩

end Go.Proofs.YtipabhbnljadfaaDoor
