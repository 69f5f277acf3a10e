/-
  Several texts put together: Coq.
-/
import Derived.Test.YtipabhbnljadfaaDoorZf
/-
  Law 08: any functions as bytes, and back.
-/
namespace Go.Proofs.YtipabhbnljadfaaDoor
open Go
set_option linter.unusedSimpArgs false
set_option linter.unusedVariables false

def Fn.few (f : Fn) : Prop := 0 ≤ f.caps ∧ f.caps ≤ 1048576 ∧ ∀ e ∈ f.code, 0 ≤ e.a ∧ e.a ≤ 1048576 ∧ e.s.length ≤ 2000
theorem Fn.few.small {f : Fn} (h : f.few) (hi : ∀ i ∈ f.code, i.ok) (hl : f.code.length ≤ 100) : f.small := ⟨h.1, h.2.1, hl, fun i hm => ⟨hi i hm, (h.2.2 i hm).1, (h.2.2 i hm).2.1, (h.2.2 i hm).2.2⟩⟩

set_option maxHeartbeats 4000000 in
theorem codeBytes.walk {w : World} {v : Value} {l : List Fn} (hTk : Tk w) (hall : IsFs w (fun k => k < w.heap.size) v l) (hok : OKs l) :
    Ret Tryd.prog 5 #[v] w fun u w' => u = .bool true ∧ Upd No w w' := by
  have hall' := hall
  obtain ⟨V, hV, hVc, hVl⟩ := hall'
  obtain ⟨Aa, ca, rfl, hca⟩ := hV.slice_form
  have hVm := hV.le
  have hVn : V.length = l.length := by rw [← hVl, List.length_map]
  refine enterRet (vs := [_]) (N := 110) Tryd.func5 rfl rfl rfl ?_
  have hU := Upd.refl No w
  refine WC.keep [(0, _)] ⟨rfl, trivial⟩ ?_
  refine WC.seq ?_
  refine WC.region ?_
  refine WL.val rfl rfl rfl rfl (r_assign rfl ev_c) ?_
  refine WL.nil ?_
  refine WX.keep [(0, _)] ⟨rfl, trivial⟩ ?_
  refine WX.next ?_
  refine WC.seq ?_
  refine WC.seq ?_
  refine WC.region ?_
  refine WL.cons (SO.call (awake08_ok (hTk.upd hU)) rfl body_6 trivial rfl rfl rfl rfl ?_)
  rintro v w1 ⟨rfl, hu1⟩
  have hs1 := hu1.size
  replace hU := hU.transA hu1
  refine WL.val rfl rfl rfl rfl (r_not rfl (ev_t rfl)) ?_
  refine WL.val rfl rfl rfl rfl (r_move rfl (ev_t rfl)) ?_
  refine WL.cases 11 rfl (fun hb1_2 => ?_) (fun hb1_2 => ?_)
  · try (exfalso; first | (simp at hb1_2; done) | (simp only [decide_eq_true_eq, decide_eq_false_iff_not, Bool.not_eq_true', Bool.not_eq_false', Bool.not_eq_true, Bool.not_eq_false] at hb1_2; omega) | omega)
    all_goals
     try simp only [decide_eq_true_eq, decide_eq_false_iff_not, Bool.not_eq_true', Bool.not_eq_false', Bool.not_eq_true, Bool.not_eq_false, Option.isNone_none, Option.isNone_some, Option.isSome_none, Option.isSome_some, ne_eq, Decidable.not_not] at hb1_2
     refine WL.skip rfl rfl rfl ?_
     refine WL.skip rfl rfl rfl ?_
     refine WL.val rfl rfl rfl rfl (r_pickT rfl (ev_t rfl) ev_c) ?_
     refine WL.nil ?_
     refine WX.keep [(0, _), (14, _)] ⟨rfl, rfl, trivial⟩ ?_
     refine WX.next ?_
     refine WC.cond_true rfl (ev_t rfl) ?_
     refine WC.seq ?_
     refine WC.region ?_
     refine WL.cons (SO.call (awake08_ok (hTk.upd hU)) rfl body_6 trivial rfl rfl rfl rfl ?_)
     rintro v w2 ⟨rfl, hu2⟩
     have hs2 := hu2.size
     replace hU := hU.transA hu2
     refine WL.val rfl rfl rfl rfl (r_assign rfl (ev_t rfl)) ?_
     refine WL.nil ?_
     refine WX.keep [(2, _)] ⟨rfl, trivial⟩ ?_
     refine WX.next ?_
     refine WC.ret ?_
     refine WX.thenRet ?_
     refine WX.retE1 rfl rfl ?_
     exact ⟨rfl, hU⟩
  · try (exfalso; first | (simp at hb1_2; done) | (simp only [decide_eq_true_eq, decide_eq_false_iff_not, Bool.not_eq_true', Bool.not_eq_false', Bool.not_eq_true, Bool.not_eq_false] at hb1_2; omega) | omega)
    all_goals
     try simp only [decide_eq_true_eq, decide_eq_false_iff_not, Bool.not_eq_true', Bool.not_eq_false', Bool.not_eq_true, Bool.not_eq_false, Option.isNone_none, Option.isNone_some, Option.isSome_none, Option.isSome_some, ne_eq, Decidable.not_not] at hb1_2
     refine WL.val rfl rfl rfl rfl (r_move rfl (ev_t rfl)) ?_
     refine WL.cons (SO.call (great_ok (hall.upd hU (fun _ _ _ h => h))) rfl body_7 ⟨(ev_t rfl), trivial⟩ rfl rfl rfl rfl ?_)
     rintro v w3 ⟨⟨b, rfl, hb⟩, hu3⟩
     have hs3 := hu3.size
     replace hU := hU.transA hu3
     refine WL.val rfl rfl rfl rfl (r_pickF rfl (ev_t rfl) (ev_t rfl)) ?_
     refine WL.nil ?_
     refine WX.keep [(0, _), (14, _)] ⟨rfl, rfl, trivial⟩ ?_
     refine WX.next ?_
     refine WC.cond rfl (ev_t rfl) (fun hc1 => ?_) (fun hc1 => ?_)
     · try (exfalso; first | (simp at hc1; done) | (simp only [decide_eq_true_eq, decide_eq_false_iff_not, Bool.not_eq_true', Bool.not_eq_false', Bool.not_eq_true, Bool.not_eq_false] at hc1; omega) | omega)
       all_goals
        try simp only [decide_eq_true_eq, decide_eq_false_iff_not, Bool.not_eq_true', Bool.not_eq_false', Bool.not_eq_true, Bool.not_eq_false, Option.isNone_none, Option.isNone_some, Option.isSome_none, Option.isSome_some, ne_eq, Decidable.not_not] at hc1
        refine WC.seq ?_
        refine WC.region ?_
        refine WL.cons (SO.call (awake08_ok (hTk.upd hU)) rfl body_6 trivial rfl rfl rfl rfl ?_)
        rintro v w4 ⟨rfl, hu4⟩
        have hs4 := hu4.size
        replace hU := hU.transA hu4
        refine WL.val rfl rfl rfl rfl (r_assign rfl (ev_t rfl)) ?_
        refine WL.nil ?_
        refine WX.keep [(2, _)] ⟨rfl, trivial⟩ ?_
        refine WX.next ?_
        refine WC.ret ?_
        refine WX.thenRet ?_
        refine WX.retE1 rfl rfl ?_
        exact ⟨rfl, hU⟩
     · try (exfalso; first | (simp at hc1; done) | (simp only [decide_eq_true_eq, decide_eq_false_iff_not, Bool.not_eq_true', Bool.not_eq_false', Bool.not_eq_true, Bool.not_eq_false] at hc1; omega) | omega)
       all_goals
        try simp only [decide_eq_true_eq, decide_eq_false_iff_not, Bool.not_eq_true', Bool.not_eq_false', Bool.not_eq_true, Bool.not_eq_false, Option.isNone_none, Option.isNone_some, Option.isSome_none, Option.isSome_some, ne_eq, Decidable.not_not] at hc1
        subst hc1
        obtain ⟨h20, h100⟩ := hb rfl
        refine WC.skip ?_
        refine WX.next ?_
        refine WC.seq ?_
        refine WC.seq ?_
        refine WC.region ?_
        refine WL.val rfl rfl rfl rfl (r_assign rfl ev_c) ?_
        refine WL.nil ?_
        refine WX.keep [(0, _), (3, _)] ⟨rfl, rfl, trivial⟩ ?_
        refine WX.next ?_
        refine WC.block ?_
        -- loop 1: live [0, 3]
        refine WC.keep [(0, _), (3, _)] ⟨rfl, rfl, trivial⟩ ?_
        refine WC.loop (fun q E w' => ∃ i : Nat, i ≤ V.length ∧ q = V.length - i ∧ Upd No w w' ∧ (∀ (k : Nat) (f : Fn), l[k]? = some f → k < i → f.few) ∧   E = [(0, .slice Aa V.length ca), (3, .int .i64 (i : Int))]) (V.length) ?_ ?_
        · exact ⟨0, by omega, by omega, hU, (fun k f _ h => by omega), rfl⟩
        · clear hU
          rintro q E wA ⟨i, hi, rfl, hU, hdone, rfl⟩
          refine WC.seq ?_
          refine WC.seq ?_
          refine WC.region ?_
          refine WL.val rfl rfl rfl rfl (r_move rfl (ev_t rfl)) ?_
          refine WL.val rfl rfl rfl rfl (r_move rfl (ev_t rfl)) ?_
          refine WL.val rfl rfl rfl rfl (r_lenSlice (ts := #[]) rfl (ev_t rfl) elem_22) ?_
          refine WL.val rfl rfl rfl rfl (r_lss rfl (ev_t rfl) (ev_t rfl)) ?_
          refine WL.nil ?_
          refine WX.keep [(0, _), (3, _), (19, _)] ⟨rfl, rfl, rfl, trivial⟩ ?_
          refine WX.next ?_
          refine WC.cond rfl (ev_t rfl) (fun hc4 => ?_) (fun hc4 => ?_)
          · try (exfalso; first | (simp at hc4; done) | (simp only [decide_eq_true_eq, decide_eq_false_iff_not, Bool.not_eq_true', Bool.not_eq_false', Bool.not_eq_true, Bool.not_eq_false] at hc4; omega) | omega)
            all_goals
             try simp only [decide_eq_true_eq, decide_eq_false_iff_not, Bool.not_eq_true', Bool.not_eq_false', Bool.not_eq_true, Bool.not_eq_false, Option.isNone_none, Option.isNone_some, Option.isSome_none, Option.isSome_some, ne_eq, Decidable.not_not] at hc4
             obtain ⟨x, hx⟩ : ∃ x, V[i]? = some x := ⟨_, List.getElem?_eq_getElem (by omega)⟩
             have hcx := flatMap_get FnV.cells_len hx
             have hxa : l[i]? = some x.f := by rw [← hVl, List.getElem?_map, hx]; rfl
             have hxc := hVc x (List.mem_of_getElem? hx)
             have hxo := hok _ (List.mem_of_getElem? hxa)
             obtain ⟨ba, oa, rfl, _⟩ := hV.open (by omega)
             rcases x with ⟨f, fv⟩
             simp only [FnV.cells] at hcx hxc hxa hxo
             obtain ⟨Af, cf, rfl, hcf⟩ := hxc.slice_form
             have hfm := hxc.le
             refine WC.skip ?_
             refine WX.next ?_
             refine WC.seq ?_
             refine WC.block ?_
             refine WC.seq ?_
             refine WC.seq ?_
             refine WC.region ?_
             refine WL.val rfl rfl rfl rfl (r_move rfl (ev_t rfl)) ?_
             refine WL.val rfl rfl rfl rfl (r_move rfl (ev_t rfl)) ?_
             refine WL.val rfl rfl rfl rfl (r_indexAddr rfl (ev_t rfl) (ev_t rfl) elem_22 size_42 (by omega) (by omega)) ?_
             first | refine WL.val rfl rfl rfl rfl (r_field0 rfl (ev_t rfl) fld_42_0) ?_ | refine WL.val rfl rfl rfl rfl (r_fieldAt rfl (ev_t rfl) fld_42_0) ?_
             refine WL.val rfl rfl rfl rfl (r_load rfl (ev_t rfl) flat_3 (Rd.cell (hV.upd hU (fun _ _ _ h => h)) (j := i * 2) (by omega) (hcx 0 _ rfl))) ?_
             refine WL.val rfl rfl rfl rfl (r_lss rfl (ev_t rfl) ev_c) ?_
             refine WL.val rfl rfl rfl rfl (r_move rfl (ev_t rfl)) ?_
             refine WL.cases 28 rfl (fun hb6_6 => ?_) (fun hb6_6 => ?_)
             · try (exfalso; first | (simp at hb6_6; done) | (simp only [decide_eq_true_eq, decide_eq_false_iff_not, Bool.not_eq_true', Bool.not_eq_false', Bool.not_eq_true, Bool.not_eq_false] at hb6_6; omega) | omega)
               all_goals
                try simp only [decide_eq_true_eq, decide_eq_false_iff_not, Bool.not_eq_true', Bool.not_eq_false', Bool.not_eq_true, Bool.not_eq_false, Option.isNone_none, Option.isNone_some, Option.isSome_none, Option.isSome_some, ne_eq, Decidable.not_not] at hb6_6
                refine WL.skip rfl rfl rfl ?_
                refine WL.skip rfl rfl rfl ?_
                refine WL.skip rfl rfl rfl ?_
                refine WL.skip rfl rfl rfl ?_
                refine WL.skip rfl rfl rfl ?_
                refine WL.skip rfl rfl rfl ?_
                refine WL.val rfl rfl rfl rfl (r_pickT rfl (ev_t rfl) ev_c) ?_
                refine WL.nil ?_
                refine WX.keep [(0, _), (3, _), (35, _)] ⟨rfl, rfl, rfl, trivial⟩ ?_
                refine WX.next ?_
                refine WC.cond_true rfl (ev_t rfl) ?_
                refine WC.seq ?_
                refine WC.region ?_
                refine WL.val rfl rfl rfl rfl (r_assign rfl ev_c) ?_
                refine WL.nil ?_
                refine WX.keep [(2, _)] ⟨rfl, trivial⟩ ?_
                refine WX.next ?_
                refine WC.ret ?_
                refine WX.thenRet ?_
                refine WX.blockRet ?_
                refine WX.thenRet ?_
                refine WX.thenRet ?_
                refine WX.blockRet ?_
                refine WX.thenRet ?_
                refine WX.retE1 rfl rfl ?_
                exact ⟨rfl, hU⟩
             · try (exfalso; first | (simp at hb6_6; done) | (simp only [decide_eq_true_eq, decide_eq_false_iff_not, Bool.not_eq_true', Bool.not_eq_false', Bool.not_eq_true, Bool.not_eq_false] at hb6_6; omega) | omega)
               all_goals
                try simp only [decide_eq_true_eq, decide_eq_false_iff_not, Bool.not_eq_true', Bool.not_eq_false', Bool.not_eq_true, Bool.not_eq_false, Option.isNone_none, Option.isNone_some, Option.isSome_none, Option.isSome_some, ne_eq, Decidable.not_not] at hb6_6
                refine WL.val rfl rfl rfl rfl (r_move rfl (ev_t rfl)) ?_
                refine WL.val rfl rfl rfl rfl (r_move rfl (ev_t rfl)) ?_
                refine WL.val rfl rfl rfl rfl (r_indexAddr rfl (ev_t rfl) (ev_t rfl) elem_22 size_42 (by omega) (by omega)) ?_
                first | refine WL.val rfl rfl rfl rfl (r_field0 rfl (ev_t rfl) fld_42_0) ?_ | refine WL.val rfl rfl rfl rfl (r_fieldAt rfl (ev_t rfl) fld_42_0) ?_
                refine WL.val rfl rfl rfl rfl (r_load rfl (ev_t rfl) flat_3 (Rd.cell (hV.upd hU (fun _ _ _ h => h)) (j := i * 2) (by omega) (hcx 0 _ rfl))) ?_
                refine WL.val rfl rfl rfl rfl (r_gtr rfl (ev_t rfl) ev_c) ?_
                refine WL.val rfl rfl rfl rfl (r_pickF rfl (ev_t rfl) (ev_t rfl)) ?_
                refine WL.nil ?_
                refine WX.keep [(0, _), (3, _), (35, _)] ⟨rfl, rfl, rfl, trivial⟩ ?_
                refine WX.next ?_
                refine WC.cond rfl (ev_t rfl) (fun hc6 => ?_) (fun hc6 => ?_)
                · try (exfalso; first | (simp at hc6; done) | (simp only [decide_eq_true_eq, decide_eq_false_iff_not, Bool.not_eq_true', Bool.not_eq_false', Bool.not_eq_true, Bool.not_eq_false] at hc6; omega) | omega)
                  all_goals
                   try simp only [decide_eq_true_eq, decide_eq_false_iff_not, Bool.not_eq_true', Bool.not_eq_false', Bool.not_eq_true, Bool.not_eq_false, Option.isNone_none, Option.isNone_some, Option.isSome_none, Option.isSome_some, ne_eq, Decidable.not_not] at hc6
                   refine WC.seq ?_
                   refine WC.region ?_
                   refine WL.val rfl rfl rfl rfl (r_assign rfl ev_c) ?_
                   refine WL.nil ?_
                   refine WX.keep [(2, _)] ⟨rfl, trivial⟩ ?_
                   refine WX.next ?_
                   refine WC.ret ?_
                   refine WX.thenRet ?_
                   refine WX.blockRet ?_
                   refine WX.thenRet ?_
                   refine WX.thenRet ?_
                   refine WX.blockRet ?_
                   refine WX.thenRet ?_
                   refine WX.retE1 rfl rfl ?_
                   exact ⟨rfl, hU⟩
                · try (exfalso; first | (simp at hc6; done) | (simp only [decide_eq_true_eq, decide_eq_false_iff_not, Bool.not_eq_true', Bool.not_eq_false', Bool.not_eq_true, Bool.not_eq_false] at hc6; omega) | omega)
                  all_goals
                   try simp only [decide_eq_true_eq, decide_eq_false_iff_not, Bool.not_eq_true', Bool.not_eq_false', Bool.not_eq_true, Bool.not_eq_false, Option.isNone_none, Option.isNone_some, Option.isSome_none, Option.isSome_some, ne_eq, Decidable.not_not] at hc6
                   refine WC.skip ?_
                   refine WX.next ?_
                   refine WC.seq ?_
                   refine WC.region ?_
                   refine WL.val rfl rfl rfl rfl (r_assign rfl ev_c) ?_
                   refine WL.nil ?_
                   refine WX.keep [(0, _), (3, _), (4, _)] ⟨rfl, rfl, rfl, trivial⟩ ?_
                   refine WX.next ?_
                   refine WC.block ?_
                   -- loop 2: live [0, 3, 4]
                   refine WC.keep [(0, _), (3, _), (4, _)] ⟨rfl, rfl, rfl, trivial⟩ ?_
                   refine WC.loop (fun q E w' => ∃ j : Nat, j ≤ f.code.length ∧ q = f.code.length - j ∧ Upd No w w' ∧ (∀ (k : Nat) (e : In), f.code[k]? = some e → k < j → 0 ≤ e.a ∧ e.a ≤ 1048576 ∧ e.s.length ≤ 2000) ∧   E = [(0, .slice (some ⟨ba, oa, none⟩) V.length ca), (3, .int .i64 (i : Int)), (4, .int .i64 (j : Int))]) (f.code.length) ?_ ?_
                   · exact ⟨0, by omega, by omega, hU, (fun k f _ h => by omega), rfl⟩
                   · clear hU
                     rintro q E wB ⟨j, hj, rfl, hU, hdone2, rfl⟩
                     refine WC.seq ?_
                     refine WC.seq ?_
                     refine WC.region ?_
                     refine WL.val rfl rfl rfl rfl (r_move rfl (ev_t rfl)) ?_
                     refine WL.val rfl rfl rfl rfl (r_move rfl (ev_t rfl)) ?_
                     refine WL.val rfl rfl rfl rfl (r_move rfl (ev_t rfl)) ?_
                     refine WL.val rfl rfl rfl rfl (r_indexAddr rfl (ev_t rfl) (ev_t rfl) elem_22 size_42 (by omega) (by omega)) ?_
                     first | refine WL.val rfl rfl rfl rfl (r_field0 rfl (ev_t rfl) fld_42_1) ?_ | refine WL.val rfl rfl rfl rfl (r_fieldAt rfl (ev_t rfl) fld_42_1) ?_
                     refine WL.val rfl rfl rfl rfl (r_load rfl (ev_t rfl) flat_40 (Rd.cell (hV.upd hU (fun _ _ _ h => h)) (j := i * 2 + 1) (by omega) (hcx 1 _ rfl))) ?_
                     refine WL.val rfl rfl rfl rfl (r_lenSlice (ts := #[]) rfl (ev_t rfl) elem_40) ?_
                     refine WL.val rfl rfl rfl rfl (r_lss rfl (ev_t rfl) (ev_t rfl)) ?_
                     refine WL.nil ?_
                     refine WX.keep [(0, _), (3, _), (4, _), (43, _)] ⟨rfl, rfl, rfl, rfl, trivial⟩ ?_
                     refine WX.next ?_
                     refine WC.cond rfl (ev_t rfl) (fun hc9 => ?_) (fun hc9 => ?_)
                     · try (exfalso; first | (simp at hc9; done) | (simp only [decide_eq_true_eq, decide_eq_false_iff_not, Bool.not_eq_true', Bool.not_eq_false', Bool.not_eq_true, Bool.not_eq_false] at hc9; omega) | omega)
                       all_goals
                        try simp only [decide_eq_true_eq, decide_eq_false_iff_not, Bool.not_eq_true', Bool.not_eq_false', Bool.not_eq_true, Bool.not_eq_false, Option.isNone_none, Option.isNone_some, Option.isSome_none, Option.isSome_some, ne_eq, Decidable.not_not] at hc9
                        obtain ⟨e, he⟩ : ∃ e, f.code[j]? = some e := ⟨_, List.getElem?_eq_getElem (by omega)⟩
                        have hec := flatMap_get insC_len he
                        obtain ⟨bc, oc, rfl, _⟩ := hxc.open (by omega)
                        have hsz : (⟨e.s.toArray⟩ : ByteArray).size = e.s.length := by simp [ByteArray.size]
                        refine WC.skip ?_
                        refine WX.next ?_
                        refine WC.seq ?_
                        refine WC.block ?_
                        refine WC.seq ?_
                        refine WC.region ?_
                        refine WL.val rfl rfl rfl rfl (r_move rfl (ev_t rfl)) ?_
                        refine WL.val rfl rfl rfl rfl (r_move rfl (ev_t rfl)) ?_
                        refine WL.val rfl rfl rfl rfl (r_indexAddr rfl (ev_t rfl) (ev_t rfl) elem_22 size_42 (by omega) (by omega)) ?_
                        first | refine WL.val rfl rfl rfl rfl (r_field0 rfl (ev_t rfl) fld_42_1) ?_ | refine WL.val rfl rfl rfl rfl (r_fieldAt rfl (ev_t rfl) fld_42_1) ?_
                        refine WL.val rfl rfl rfl rfl (r_load rfl (ev_t rfl) flat_40 (Rd.cell (hV.upd hU (fun _ _ _ h => h)) (j := i * 2 + 1) (by omega) (hcx 1 _ rfl))) ?_
                        refine WL.val rfl rfl rfl rfl (r_move rfl (ev_t rfl)) ?_
                        refine WL.val rfl rfl rfl rfl (r_indexAddr rfl (ev_t rfl) (ev_t rfl) elem_40 size_44 (by omega) (by omega)) ?_
                        first | refine WL.val rfl rfl rfl rfl (r_field0 rfl (ev_t rfl) fld_44_2) ?_ | refine WL.val rfl rfl rfl rfl (r_fieldAt rfl (ev_t rfl) fld_44_2) ?_
                        refine WL.val rfl rfl rfl rfl (r_load rfl (ev_t rfl) flat_3 (Rd.cell (hxc.upd hU (fun _ _ _ h => h)) (j := j * 4 + 2) (by omega) (hec 2 _ rfl))) ?_
                        refine WL.val rfl rfl rfl rfl (r_lss rfl (ev_t rfl) ev_c) ?_
                        refine WL.val rfl rfl rfl rfl (r_move rfl (ev_t rfl)) ?_
                        refine WL.cases 56 rfl (fun hb11_10 => ?_) (fun hb11_10 => ?_)
                        · try (exfalso; first | (simp at hb11_10; done) | (simp only [decide_eq_true_eq, decide_eq_false_iff_not, Bool.not_eq_true', Bool.not_eq_false', Bool.not_eq_true, Bool.not_eq_false] at hb11_10; omega) | omega)
                          all_goals
                           try simp only [decide_eq_true_eq, decide_eq_false_iff_not, Bool.not_eq_true', Bool.not_eq_false', Bool.not_eq_true, Bool.not_eq_false, Option.isNone_none, Option.isNone_some, Option.isSome_none, Option.isSome_some, ne_eq, Decidable.not_not] at hb11_10
                           refine WL.skip rfl rfl rfl ?_
                           refine WL.skip rfl rfl rfl ?_
                           refine WL.skip rfl rfl rfl ?_
                           refine WL.skip rfl rfl rfl ?_
                           refine WL.skip rfl rfl rfl ?_
                           refine WL.skip rfl rfl rfl ?_
                           refine WL.skip rfl rfl rfl ?_
                           refine WL.skip rfl rfl rfl ?_
                           refine WL.skip rfl rfl rfl ?_
                           refine WL.skip rfl rfl rfl ?_
                           refine WL.val rfl rfl rfl rfl (r_pickT rfl (ev_t rfl) ev_c) ?_
                           refine WL.val rfl rfl rfl rfl (r_move rfl (ev_t rfl)) ?_
                           refine WL.skip rfl rfl rfl ?_
                           refine WL.skip rfl rfl rfl ?_
                           refine WL.skip rfl rfl rfl ?_
                           refine WL.skip rfl rfl rfl ?_
                           refine WL.skip rfl rfl rfl ?_
                           refine WL.skip rfl rfl rfl ?_
                           refine WL.skip rfl rfl rfl ?_
                           refine WL.skip rfl rfl rfl ?_
                           refine WL.skip rfl rfl rfl ?_
                           refine WL.skip rfl rfl rfl ?_
                           refine WL.skip rfl rfl rfl ?_
                           refine WL.val rfl rfl rfl rfl (r_pickT rfl (ev_t rfl) ev_c) ?_
                           refine WL.nil ?_
                           refine WX.keep [(0, _), (3, _), (4, _), (80, _)] ⟨rfl, rfl, rfl, rfl, trivial⟩ ?_
                           refine WX.next ?_
                           refine WC.cond_true rfl (ev_t rfl) ?_
                           refine WC.seq ?_
                           refine WC.region ?_
                           refine WL.val rfl rfl rfl rfl (r_assign rfl ev_c) ?_
                           refine WL.nil ?_
                           refine WX.keep [(2, _)] ⟨rfl, trivial⟩ ?_
                           refine WX.next ?_
                           refine WC.ret ?_
                           refine WX.blockRet ?_
                           refine WX.thenRet ?_
                           refine WX.thenRet ?_
                           refine WX.blockRet ?_
                           refine WX.blockRet ?_
                           refine WX.thenRet ?_
                           refine WX.thenRet ?_
                           refine WX.blockRet ?_
                           refine WX.thenRet ?_
                           refine WX.retE1 rfl rfl ?_
                           exact ⟨rfl, hU⟩
                        · try (exfalso; first | (simp at hb11_10; done) | (simp only [decide_eq_true_eq, decide_eq_false_iff_not, Bool.not_eq_true', Bool.not_eq_false', Bool.not_eq_true, Bool.not_eq_false] at hb11_10; omega) | omega)
                          all_goals
                           try simp only [decide_eq_true_eq, decide_eq_false_iff_not, Bool.not_eq_true', Bool.not_eq_false', Bool.not_eq_true, Bool.not_eq_false, Option.isNone_none, Option.isNone_some, Option.isSome_none, Option.isSome_some, ne_eq, Decidable.not_not] at hb11_10
                           refine WL.val rfl rfl rfl rfl (r_move rfl (ev_t rfl)) ?_
                           refine WL.val rfl rfl rfl rfl (r_move rfl (ev_t rfl)) ?_
                           refine WL.val rfl rfl rfl rfl (r_indexAddr rfl (ev_t rfl) (ev_t rfl) elem_22 size_42 (by omega) (by omega)) ?_
                           first | refine WL.val rfl rfl rfl rfl (r_field0 rfl (ev_t rfl) fld_42_1) ?_ | refine WL.val rfl rfl rfl rfl (r_fieldAt rfl (ev_t rfl) fld_42_1) ?_
                           refine WL.val rfl rfl rfl rfl (r_load rfl (ev_t rfl) flat_40 (Rd.cell (hV.upd hU (fun _ _ _ h => h)) (j := i * 2 + 1) (by omega) (hcx 1 _ rfl))) ?_
                           refine WL.val rfl rfl rfl rfl (r_move rfl (ev_t rfl)) ?_
                           refine WL.val rfl rfl rfl rfl (r_indexAddr rfl (ev_t rfl) (ev_t rfl) elem_40 size_44 (by omega) (by omega)) ?_
                           first | refine WL.val rfl rfl rfl rfl (r_field0 rfl (ev_t rfl) fld_44_2) ?_ | refine WL.val rfl rfl rfl rfl (r_fieldAt rfl (ev_t rfl) fld_44_2) ?_
                           refine WL.val rfl rfl rfl rfl (r_load rfl (ev_t rfl) flat_3 (Rd.cell (hxc.upd hU (fun _ _ _ h => h)) (j := j * 4 + 2) (by omega) (hec 2 _ rfl))) ?_
                           refine WL.val rfl rfl rfl rfl (r_gtr rfl (ev_t rfl) ev_c) ?_
                           refine WL.val rfl rfl rfl rfl (r_pickF rfl (ev_t rfl) (ev_t rfl)) ?_
                           refine WL.val rfl rfl rfl rfl (r_move rfl (ev_t rfl)) ?_
                           refine WL.cases 68 rfl (fun hb11_22 => ?_) (fun hb11_22 => ?_)
                           · try (exfalso; first | (simp at hb11_22; done) | (simp only [decide_eq_true_eq, decide_eq_false_iff_not, Bool.not_eq_true', Bool.not_eq_false', Bool.not_eq_true, Bool.not_eq_false] at hb11_22; omega) | omega)
                             all_goals
                              try simp only [decide_eq_true_eq, decide_eq_false_iff_not, Bool.not_eq_true', Bool.not_eq_false', Bool.not_eq_true, Bool.not_eq_false, Option.isNone_none, Option.isNone_some, Option.isSome_none, Option.isSome_some, ne_eq, Decidable.not_not] at hb11_22
                              refine WL.skip rfl rfl rfl ?_
                              refine WL.skip rfl rfl rfl ?_
                              refine WL.skip rfl rfl rfl ?_
                              refine WL.skip rfl rfl rfl ?_
                              refine WL.skip rfl rfl rfl ?_
                              refine WL.skip rfl rfl rfl ?_
                              refine WL.skip rfl rfl rfl ?_
                              refine WL.skip rfl rfl rfl ?_
                              refine WL.skip rfl rfl rfl ?_
                              refine WL.skip rfl rfl rfl ?_
                              refine WL.skip rfl rfl rfl ?_
                              refine WL.val rfl rfl rfl rfl (r_pickT rfl (ev_t rfl) ev_c) ?_
                              refine WL.nil ?_
                              refine WX.keep [(0, _), (3, _), (4, _), (80, _)] ⟨rfl, rfl, rfl, rfl, trivial⟩ ?_
                              refine WX.next ?_
                              refine WC.cond_true rfl (ev_t rfl) ?_
                              refine WC.seq ?_
                              refine WC.region ?_
                              refine WL.val rfl rfl rfl rfl (r_assign rfl ev_c) ?_
                              refine WL.nil ?_
                              refine WX.keep [(2, _)] ⟨rfl, trivial⟩ ?_
                              refine WX.next ?_
                              refine WC.ret ?_
                              refine WX.blockRet ?_
                              refine WX.thenRet ?_
                              refine WX.thenRet ?_
                              refine WX.blockRet ?_
                              refine WX.blockRet ?_
                              refine WX.thenRet ?_
                              refine WX.thenRet ?_
                              refine WX.blockRet ?_
                              refine WX.thenRet ?_
                              refine WX.retE1 rfl rfl ?_
                              exact ⟨rfl, hU⟩
                           · try (exfalso; first | (simp at hb11_22; done) | (simp only [decide_eq_true_eq, decide_eq_false_iff_not, Bool.not_eq_true', Bool.not_eq_false', Bool.not_eq_true, Bool.not_eq_false] at hb11_22; omega) | omega)
                             all_goals
                              try simp only [decide_eq_true_eq, decide_eq_false_iff_not, Bool.not_eq_true', Bool.not_eq_false', Bool.not_eq_true, Bool.not_eq_false, Option.isNone_none, Option.isNone_some, Option.isSome_none, Option.isSome_some, ne_eq, Decidable.not_not] at hb11_22
                              refine WL.val rfl rfl rfl rfl (r_move rfl (ev_t rfl)) ?_
                              refine WL.val rfl rfl rfl rfl (r_move rfl (ev_t rfl)) ?_
                              refine WL.val rfl rfl rfl rfl (r_indexAddr rfl (ev_t rfl) (ev_t rfl) elem_22 size_42 (by omega) (by omega)) ?_
                              first | refine WL.val rfl rfl rfl rfl (r_field0 rfl (ev_t rfl) fld_42_1) ?_ | refine WL.val rfl rfl rfl rfl (r_fieldAt rfl (ev_t rfl) fld_42_1) ?_
                              refine WL.val rfl rfl rfl rfl (r_load rfl (ev_t rfl) flat_40 (Rd.cell (hV.upd hU (fun _ _ _ h => h)) (j := i * 2 + 1) (by omega) (hcx 1 _ rfl))) ?_
                              refine WL.val rfl rfl rfl rfl (r_move rfl (ev_t rfl)) ?_
                              refine WL.val rfl rfl rfl rfl (r_indexAddr rfl (ev_t rfl) (ev_t rfl) elem_40 size_44 (by omega) (by omega)) ?_
                              first | refine WL.val rfl rfl rfl rfl (r_field0 rfl (ev_t rfl) fld_44_3) ?_ | refine WL.val rfl rfl rfl rfl (r_fieldAt rfl (ev_t rfl) fld_44_3) ?_
                              refine WL.val rfl rfl rfl rfl (r_load rfl (ev_t rfl) flat_9 (Rd.cell (hxc.upd hU (fun _ _ _ h => h)) (j := j * 4 + 3) (by omega) (hec 3 _ rfl))) ?_
                              refine WL.val rfl rfl rfl rfl (r_lenString rfl (ev_t rfl) str_9) ?_
                              refine WL.val rfl rfl rfl rfl (r_gtr rfl (ev_t rfl) ev_c) ?_
                              refine WL.val rfl rfl rfl rfl (r_pickF rfl (ev_t rfl) (ev_t rfl)) ?_
                              refine WL.nil ?_
                              refine WX.keep [(0, _), (3, _), (4, _), (80, _)] ⟨rfl, rfl, rfl, rfl, trivial⟩ ?_
                              refine WX.next ?_
                              refine WC.cond rfl (ev_t rfl) (fun hc11 => ?_) (fun hc11 => ?_)
                              · try (exfalso; first | (simp at hc11; done) | (simp only [decide_eq_true_eq, decide_eq_false_iff_not, Bool.not_eq_true', Bool.not_eq_false', Bool.not_eq_true, Bool.not_eq_false] at hc11; omega) | omega)
                                all_goals
                                 try simp only [decide_eq_true_eq, decide_eq_false_iff_not, Bool.not_eq_true', Bool.not_eq_false', Bool.not_eq_true, Bool.not_eq_false, Option.isNone_none, Option.isNone_some, Option.isSome_none, Option.isSome_some, ne_eq, Decidable.not_not] at hc11
                                 refine WC.seq ?_
                                 refine WC.region ?_
                                 refine WL.val rfl rfl rfl rfl (r_assign rfl ev_c) ?_
                                 refine WL.nil ?_
                                 refine WX.keep [(2, _)] ⟨rfl, trivial⟩ ?_
                                 refine WX.next ?_
                                 refine WC.ret ?_
                                 refine WX.blockRet ?_
                                 refine WX.thenRet ?_
                                 refine WX.thenRet ?_
                                 refine WX.blockRet ?_
                                 refine WX.blockRet ?_
                                 refine WX.thenRet ?_
                                 refine WX.thenRet ?_
                                 refine WX.blockRet ?_
                                 refine WX.thenRet ?_
                                 refine WX.retE1 rfl rfl ?_
                                 exact ⟨rfl, hU⟩
                              · try (exfalso; first | (simp at hc11; done) | (simp only [decide_eq_true_eq, decide_eq_false_iff_not, Bool.not_eq_true', Bool.not_eq_false', Bool.not_eq_true, Bool.not_eq_false] at hc11; omega) | omega)
                                all_goals
                                 try simp only [decide_eq_true_eq, decide_eq_false_iff_not, Bool.not_eq_true', Bool.not_eq_false', Bool.not_eq_true, Bool.not_eq_false, Option.isNone_none, Option.isNone_some, Option.isSome_none, Option.isSome_some, ne_eq, Decidable.not_not] at hc11
                                 refine WC.skip ?_
                                 refine WX.blockNormal ?_
                                 refine WX.next ?_
                                 refine WC.region ?_
                                 refine WL.val rfl rfl rfl rfl (r_move rfl (ev_t rfl)) ?_
                                 first | refine WL.val rfl rfl rfl rfl (r_addN rfl (ev_t rfl) ev_c (by simp only [inK]; omega)) ?_ | refine WL.val rfl rfl rfl rfl (r_add rfl (ev_t rfl) ev_c) ?_
                                 refine WL.val rfl rfl rfl rfl (r_assign rfl (ev_t rfl)) ?_
                                 refine WL.nil ?_
                                 refine WX.keep [(0, _), (3, _), (4, _)] ⟨rfl, rfl, rfl, trivial⟩ ?_
                                 refine WX.meet [(0, _), (3, _), (4, _)] ⟨rfl, rfl, rfl, trivial⟩ ?_
                                 refine ⟨f.code.length - (j + 1), by omega, j + 1, by omega, rfl, hU, fun k e' hk hkj => ?_, rfl⟩
                                 rcases Nat.lt_or_ge k j with h | h
                                 · exact hdone2 k e' hk h
                                 · obtain rfl : k = j := by omega
                                   rw [he] at hk
                                   obtain rfl := Option.some.inj hk
                                   exact ⟨by omega, by omega, by omega⟩
                     · try (exfalso; first | (simp at hc9; done) | (simp only [decide_eq_true_eq, decide_eq_false_iff_not, Bool.not_eq_true', Bool.not_eq_false', Bool.not_eq_true, Bool.not_eq_false] at hc9; omega) | omega)
                       all_goals
                        try simp only [decide_eq_true_eq, decide_eq_false_iff_not, Bool.not_eq_true', Bool.not_eq_false', Bool.not_eq_true, Bool.not_eq_false, Option.isNone_none, Option.isNone_some, Option.isSome_none, Option.isSome_some, ne_eq, Decidable.not_not] at hc9
                        obtain rfl : j = f.code.length := by omega
                        refine WC.exit ?_
                        refine WX.thenExit ?_
                        refine WX.thenExit ?_
                        refine WX.blockHere ?_
                        refine WX.blockNormal ?_
                        refine WX.next ?_
                        refine WC.region ?_
                        refine WL.val rfl rfl rfl rfl (r_move rfl (ev_t rfl)) ?_
                        first | refine WL.val rfl rfl rfl rfl (r_addN rfl (ev_t rfl) ev_c (by simp only [inK]; omega)) ?_ | refine WL.val rfl rfl rfl rfl (r_add rfl (ev_t rfl) ev_c) ?_
                        refine WL.val rfl rfl rfl rfl (r_assign rfl (ev_t rfl)) ?_
                        refine WL.nil ?_
                        refine WX.keep [(0, _), (3, _)] ⟨rfl, rfl, trivial⟩ ?_
                        refine WX.meet [(0, _), (3, _)] ⟨rfl, rfl, trivial⟩ ?_
                        refine ⟨V.length - (i + 1), by omega, i + 1, by omega, rfl, hU, fun k f' hk hki => ?_, rfl⟩
                        rcases Nat.lt_or_ge k i with h | h
                        · exact hdone k f' hk h
                        · obtain rfl : k = i := by omega
                          rw [hxa] at hk
                          obtain rfl := Option.some.inj hk
                          refine ⟨by omega, by omega, fun e hem => ?_⟩
                          obtain ⟨m, hm⟩ := List.mem_iff_getElem?.1 hem
                          exact hdone2 m e hm (List.getElem?_eq_some_iff.1 hm).1
          · try (exfalso; first | (simp at hc4; done) | (simp only [decide_eq_true_eq, decide_eq_false_iff_not, Bool.not_eq_true', Bool.not_eq_false', Bool.not_eq_true, Bool.not_eq_false] at hc4; omega) | omega)
            all_goals
             try simp only [decide_eq_true_eq, decide_eq_false_iff_not, Bool.not_eq_true', Bool.not_eq_false', Bool.not_eq_true, Bool.not_eq_false, Option.isNone_none, Option.isNone_some, Option.isSome_none, Option.isSome_some, ne_eq, Decidable.not_not] at hc4
             obtain rfl : i = V.length := by omega
             have hs : ∀ f ∈ l, f.small := fun f hf => by
               obtain ⟨k, hk⟩ := List.mem_iff_getElem?.1 hf
               exact (hdone k f hk (by have := (List.getElem?_eq_some_iff.1 hk).1; omega)).small (hok f hf).2 (h100 f hf)
             have hU0 := hU.size
             have hbl : (encF l).length ≤ 4082009 := by
               have h1 := takeF_len hs h20 l.length
               rw [List.take_length] at h1
               have h2 := encU_len9c (n := l.length) (by omega)
               simp only [encF, List.length_append]
               omega
             refine WC.exit ?_
             refine WX.thenExit ?_
             refine WX.thenExit ?_
             refine WX.blockHere ?_
             refine WX.next ?_
             refine WC.seq ?_
             refine WC.region ?_
             refine WL.val rfl rfl rfl rfl (r_build (cs := #[_]) (vs := []) rfl trivial plc_47 zero_47 rfl) ?_
             refine WL.cons (SO.alloc rfl rfl rfl rfl (r_boxAgg rfl (ev_t rfl)) ?_)
             intro w5 hu5 hB5 hz5
             have hs5 := hu5.size
             replace hU := hU.transA hu5
             refine WL.val rfl rfl rfl rfl (r_assign rfl (ev_t rfl)) ?_
             refine WL.nil ?_
             refine WX.keep [(0, _), (5, _)] ⟨rfl, rfl, trivial⟩ ?_
             obtain ⟨g, hge⟩ : ∃ g, g = wA.heap.size := ⟨_, rfl⟩
             have hI : IsW w5 (At g) g [] := by rw [hge]; exact IsW.of hB5 rfl
             rw [← hge]
             have hgl := hI.lt
             refine WX.next ?_
             refine WC.seq ?_
             refine WC.region ?_
             refine WL.val rfl rfl rfl rfl (r_move rfl (ev_t rfl)) ?_
             refine WL.val rfl rfl rfl rfl (r_move rfl (ev_t rfl)) ?_
             refine WL.cons (SO.call (encode_ok (b0 := g) hI (fun k hk => by simp only [At] at hk; omega) (hall.upd hU (fun _ _ _ h => h)) (fun k hk => by omega) (by omega) hs h20) rfl body_17 ⟨(ev_t rfl), (ev_t rfl), trivial⟩ rfl rfl rfl rfl ?_)
             rintro v w6 ⟨⟨M, hI, hMk⟩, hu6⟩
             have hs14 := hu6.size
             have hs6 := hu6.size
             replace hU := hU.transA hu6
             refine WL.nil ?_
             refine WX.keep [(0, _), (5, _)] ⟨rfl, rfl, trivial⟩ ?_
             refine WX.next ?_
             refine WC.seq ?_
             refine WC.region ?_
             refine WL.val rfl rfl rfl rfl (r_move rfl (ev_t rfl)) ?_
             refine WL.cons (SO.call (wdone_ok hI (by omega)) rfl body_18 ⟨(ev_t rfl), trivial⟩ rfl rfl rfl rfl ?_)
             rintro v6 w7 ⟨ho, hu7⟩
             have hs15 := hu7.size
             obtain ⟨Fo, ho, hFo⟩ : ∃ Fo : Nat → Prop, Rd w7 Fo v6 (encF l).length 1 ((encF l).map U8) ∧ ∀ k, Fo k → k < w7.heap.size := ⟨_, ho.rd (by omega), fun k hk => hk.2⟩
             obtain ⟨Ao, co, rfl, hco⟩ := ho.slice_form
             have hs7 := hu7.size
             replace hU := hU.transA hu7
             refine WL.val rfl rfl rfl rfl (r_assign rfl (ev_t rfl)) ?_
             refine WL.nil ?_
             refine WX.keep [(0, _), (6, _)] ⟨rfl, rfl, trivial⟩ ?_
             refine WX.next ?_
             refine WC.seq ?_
             refine WC.region ?_
             refine WL.val rfl rfl rfl rfl (r_move rfl (ev_t rfl)) ?_
             refine WL.cons (SO.call (newReader_ok ho) rfl body_11 ⟨(ev_t rfl), trivial⟩ rfl rfl rfl rfl ?_)
             rintro v w8 ⟨rfl, hR, hu8⟩
             obtain ⟨g1, hg1⟩ : ∃ g1, g1 = w7.heap.size := ⟨_, rfl⟩
             rw [← hg1] at hR ⊢ hFo
             have hR1 := hR.ltC
             have hs8 := hu8.size
             replace hU := hU.transA hu8
             replace ho := ho.upd hu8 (by first | exact (fun _ _ _ h => h) | (intro k hk hl hS; have := hFo k hk; simp only [At, No] at hS; omega))
             refine WL.val rfl rfl rfl rfl (r_assign rfl (ev_t rfl)) ?_
             refine WL.nil ?_
             refine WX.keep [(0, _), (6, _), (7, _)] ⟨rfl, rfl, rfl, trivial⟩ ?_
             refine WX.next ?_
             refine WC.seq ?_
             refine WC.region ?_
             refine WL.val rfl rfl rfl rfl (r_move rfl (ev_t rfl)) ?_
             refine WL.cons (SO.call (decode_ok hR (fun k hk => by have := hFo k hk; omega) hR.ltC (decF_enc hs h20)) rfl body_12 ⟨(ev_t rfl), trivial⟩ rfl rfl rfl rfl ?_)
             rintro v8 w9 ⟨hfa, hR, hu9⟩
             replace hfa : IsFs w9 (New w8 w9) v8 l := hfa
             replace hR : IsR w9 Fo g1 (some []) := hR
             have hs9 := hu9.size
             replace hU := hU.transA hu9
             replace ho := ho.upd hu9 (by first | exact (fun _ _ _ h => h) | (intro k hk hl hS; have := hFo k hk; simp only [At, No] at hS; omega))
             refine WL.val rfl rfl rfl rfl (r_assign rfl (ev_t rfl)) ?_
             refine WL.nil ?_
             refine WX.keep [(0, _), (6, _), (7, _), (8, _)] ⟨rfl, rfl, rfl, rfl, trivial⟩ ?_
             refine WX.next ?_
             refine WC.seq ?_
             refine WC.draws' (fun u0_ u1_ => Upd No u0_ u1_) (fun j => [0, 2, 0, 2, 2, 2, 0, 0, 0, 2, 0, 0, 0, 2, 0, 2, 2, 0, 0].getD j 0) (.calm 0 (.calm 2 (.two 1 3 (.one 3 (.one 4 (.one 5 (.calm 6 (.calm 7 (.calm 8 (.one 9 (.calm 10 (.calm 11 (.calm 12 (.calm 14 (.one 13 (.one 15 (.one 16 (.calm 17 (.calm 18 (.done))))))))))))))))) (.two 1 4 (.one 4 (.one 5 (.calm 6 (.calm 7 (.calm 8 (.one 9 (.calm 10 (.calm 11 (.calm 12 (.calm 14 (.one 13 (.one 15 (.one 16 (.calm 17 (.calm 18 (.done)))))))))))))))) (.two 1 5 (.one 5 (.calm 6 (.calm 7 (.calm 8 (.one 9 (.calm 10 (.calm 11 (.calm 12 (.calm 14 (.one 13 (.one 15 (.one 16 (.calm 17 (.calm 18 (.done))))))))))))))) (.one 1 (.calm 6 (.calm 7 (.calm 8 (.one 9 (.calm 10 (.calm 11 (.calm 12 (.calm 14 (.one 13 (.one 15 (.one 16 (.calm 17 (.calm 18 (.done)))))))))))))))))))) mixed (by kernel_rfl) (by repeat (first | with_reducible exact Deaf.body | with_reducible apply Deaf.then | with_reducible apply Deaf.block)) ?_
             intro w10 hu10
             have hz10 := congrArg Array.size hu10.2.2.2
             replace hu10 := Upd.of_draw hu10
             have hs10 := hu10.size
             replace hU := hU.transA hu10
             replace ho := ho.upd hu10 (by first | exact (fun _ _ _ h => h) | (intro k hk hl hS; have := hFo k hk; simp only [At, No] at hS; omega))
             replace hR := hR.upd hu10 (fun h => h.elim) (fun _ _ _ h => h.elim)
             replace hfa := hfa.upd hu10 (fun _ _ _ h => h.elim)
             refine WN.calm _ rfl rfl rfl rfl rfl (fun _ => r_move rfl (ev_t rfl)) ?_
             refine WN.calm _ rfl rfl rfl rfl rfl (fun _ => r_move rfl (ev_t rfl)) ?_
             refine WN.fork _ _ rfl rfl ?_ ?_
             · refine SO.val rfl rfl rfl rfl (r_toStr rfl (ev_t rfl) ho elem_30 int_5 str_9) ?_
               refine ⟨trivial, ?_⟩
               refine WN.step _ rfl (SO.call (funs_ok (hall.upd hU (fun _ _ _ h => h)) (by omega) (fun f hf => by have := h100 f hf; omega)) rfl body_10 ⟨(ev_t rfl), trivial⟩ rfl rfl rfl rfl ?_)
               rintro v w11 ⟨hf1, hu11⟩
               have hs11 := hu11.size
               replace hU := hU.transA hu11
               replace ho := ho.upd hu11 (by first | exact (fun _ _ _ h => h) | (intro k hk hl hS; have := hFo k hk; simp only [At, No] at hS; omega))
               replace hR := hR.upd hu11 (fun h => h.elim) (fun _ _ _ h => h.elim)
               replace hfa := hfa.upd hu11 (fun _ _ _ h => h.elim)
               refine ⟨trivial, ?_⟩
               refine WN.step _ rfl (SO.call (rEncode_ok hf1 hs h20) rfl body_19 ⟨(ev_t rfl), trivial⟩ rfl rfl rfl rfl ?_)
               rintro v w12 ⟨hoe, hu12⟩
               obtain ⟨Ae, ce, rfl, hce⟩ := Own.form hoe
               have hs12 := hu12.size
               replace hU := hU.transA hu12
               replace ho := ho.upd hu12 (by first | exact (fun _ _ _ h => h) | (intro k hk hl hS; have := hFo k hk; simp only [At, No] at hS; omega))
               replace hR := hR.upd hu12 (fun h => h.elim) (fun _ _ _ h => h.elim)
               replace hfa := hfa.upd hu12 (fun _ _ _ h => h.elim)
               refine ⟨trivial, ?_⟩
               refine WN.step _ rfl (SO.val rfl rfl rfl rfl (r_toStr rfl (ev_t rfl) (hoe.rd (by omega)) elem_30 int_5 str_9) ?_)
               refine ⟨trivial, ?_⟩
               refine WN.calm _ rfl rfl rfl rfl rfl (fun _ => r_eqlStr rfl (ev_t rfl) (ev_t rfl)) ?_
               refine WN.calm _ rfl rfl rfl rfl rfl (fun _ => r_move rfl (ev_t rfl)) ?_
               refine WN.cases 99 rfl (fun hb18_7 => ?_) (fun hb18_7 => ?_)
               · try (exfalso; first | (simp at hb18_7; done) | (simp only [decide_eq_true_eq, decide_eq_false_iff_not, Bool.not_eq_true', Bool.not_eq_false', Bool.not_eq_true, Bool.not_eq_false] at hb18_7; omega) | omega)
                 all_goals
                  try simp only [decide_eq_true_eq, decide_eq_false_iff_not, Bool.not_eq_true', Bool.not_eq_false', Bool.not_eq_true, Bool.not_eq_false, Option.isNone_none, Option.isNone_some, Option.isSome_none, Option.isSome_some, ne_eq, Decidable.not_not] at hb18_7
                  refine WN.calm _ rfl rfl rfl rfl rfl (fun _ => r_move rfl (ev_t rfl)) ?_
                  refine WN.step _ rfl (SO.call (end_ok hR) rfl body_16 ⟨(ev_t rfl), trivial⟩ rfl rfl rfl rfl ?_)
                  rintro v w13 ⟨rfl, he⟩
                  obtain rfl := he.symm
                  refine ⟨trivial, ?_⟩
                  refine WN.calm _ rfl rfl rfl rfl rfl (fun _ => r_pickT rfl (ev_t rfl) (ev_t rfl)) ?_
                  refine WN.calm _ rfl rfl rfl rfl rfl (fun _ => r_move rfl (ev_t rfl)) ?_
                  refine WN.cases 103 rfl (fun hb18_11 => ?_) (fun hb18_11 => ?_)
                  · try (exfalso; first | (simp at hb18_11; done) | (simp only [decide_eq_true_eq, decide_eq_false_iff_not, Bool.not_eq_true', Bool.not_eq_false', Bool.not_eq_true, Bool.not_eq_false] at hb18_11; omega) | omega)
                    all_goals
                     try simp only [decide_eq_true_eq, decide_eq_false_iff_not, Bool.not_eq_true', Bool.not_eq_false', Bool.not_eq_true, Bool.not_eq_false, Option.isNone_none, Option.isNone_some, Option.isSome_none, Option.isSome_some, ne_eq, Decidable.not_not] at hb18_11
                     refine WN.calm _ rfl rfl rfl rfl rfl (fun _ => r_move rfl (ev_t rfl)) ?_
                     refine WN.calm _ rfl rfl rfl rfl rfl (fun _ => r_move rfl (ev_t rfl)) ?_
                     refine WN.step _ rfl (SO.call (funs_ok hfa (by omega) (fun f hf => by have := h100 f hf; omega)) rfl body_10 ⟨(ev_t rfl), trivial⟩ rfl rfl rfl rfl ?_)
                     rintro v w14 ⟨hf2, hu14⟩
                     have hs14 := hu14.size
                     replace hU := hU.transA hu14
                     replace ho := ho.upd hu14 (by first | exact (fun _ _ _ h => h) | (intro k hk hl hS; have := hFo k hk; simp only [At, No] at hS; omega))
                     replace hR := hR.upd hu14 (fun h => h.elim) (fun _ _ _ h => h.elim)
                     replace hfa := hfa.upd hu14 (fun _ _ _ h => h.elim)
                     refine ⟨trivial, ?_⟩
                     refine WN.step _ rfl (SO.call (funs_ok (hall.upd hU (fun _ _ _ h => h)) (by omega) (fun f hf => by have := h100 f hf; omega)) rfl body_10 ⟨(ev_t rfl), trivial⟩ rfl rfl rfl rfl ?_)
                     rintro v w15 ⟨hf3, hu15⟩
                     have hs15 := hu15.size
                     replace hU := hU.transA hu15
                     replace ho := ho.upd hu15 (by first | exact (fun _ _ _ h => h) | (intro k hk hl hS; have := hFo k hk; simp only [At, No] at hS; omega))
                     replace hR := hR.upd hu15 (fun h => h.elim) (fun _ _ _ h => h.elim)
                     replace hfa := hfa.upd hu15 (fun _ _ _ h => h.elim)
                     replace hf2 := hf2.upd hu15 (fun _ _ _ h => h.elim)
                     refine ⟨trivial, ?_⟩
                     refine WN.step _ rfl (SO.call (same_ok hf2 hf3) rfl body_15 ⟨(ev_t rfl), (ev_t rfl), trivial⟩ rfl rfl rfl rfl ?_)
                     rintro v w16 ⟨rfl, hu16⟩
                     have hs16 := hu16.size
                     replace hU := hU.transA hu16
                     replace ho := ho.upd hu16 (by first | exact (fun _ _ _ h => h) | (intro k hk hl hS; have := hFo k hk; simp only [At, No] at hS; omega))
                     replace hR := hR.upd hu16 (fun h => h.elim) (fun _ _ _ h => h.elim)
                     replace hfa := hfa.upd hu16 (fun _ _ _ h => h.elim)
                     replace hf2 := hf2.upd hu16 (fun _ _ _ h => h.elim)
                     refine ⟨trivial, ?_⟩
                     refine WN.calm _ rfl rfl rfl rfl rfl (fun _ => r_pickT rfl (ev_t rfl) (ev_t rfl)) ?_
                     refine WN.calm _ rfl rfl rfl rfl rfl (fun _ => r_assign rfl (ev_t rfl)) ?_
                     refine WN.done ?_
                     refine WX.keep [(2, _)] ⟨rfl, trivial⟩ ?_
                     refine WX.next ?_
                     refine WC.ret ?_
                     refine WX.retE1 rfl rfl ?_
                     refine ⟨?_, hU⟩
                     first
                       | rfl
                       | simp
                       | (simp_all; done)
                  · try (exfalso; first | (simp at hb18_11; done) | (simp only [decide_eq_true_eq, decide_eq_false_iff_not, Bool.not_eq_true', Bool.not_eq_false', Bool.not_eq_true, Bool.not_eq_false] at hb18_11; omega) | omega)
                    all_goals
                     try simp only [decide_eq_true_eq, decide_eq_false_iff_not, Bool.not_eq_true', Bool.not_eq_false', Bool.not_eq_true, Bool.not_eq_false, Option.isNone_none, Option.isNone_some, Option.isSome_none, Option.isSome_some, ne_eq, Decidable.not_not] at hb18_11
                     refine WN.skip _ rfl rfl rfl rfl ?_
                     refine WN.skip _ rfl rfl rfl rfl ?_
                     refine WN.step _ rfl (SO.skip rfl rfl rfl ?_)
                     refine ⟨trivial, ?_⟩
                     refine WN.step _ rfl (SO.skip rfl rfl rfl ?_)
                     refine ⟨trivial, ?_⟩
                     refine WN.step _ rfl (SO.skip rfl rfl rfl ?_)
                     refine ⟨trivial, ?_⟩
                     refine WN.calm _ rfl rfl rfl rfl rfl (fun _ => r_pickF rfl (ev_t rfl) ev_c) ?_
                     refine WN.calm _ rfl rfl rfl rfl rfl (fun _ => r_assign rfl (ev_t rfl)) ?_
                     refine WN.done ?_
                     refine WX.keep [(2, _)] ⟨rfl, trivial⟩ ?_
                     refine WX.next ?_
                     refine WC.ret ?_
                     refine WX.retE1 rfl rfl ?_
                     refine ⟨?_, hU⟩
                     first
                       | rfl
                       | simp
                       | (simp_all; done)
               · try (exfalso; first | (simp at hb18_7; done) | (simp only [decide_eq_true_eq, decide_eq_false_iff_not, Bool.not_eq_true', Bool.not_eq_false', Bool.not_eq_true, Bool.not_eq_false] at hb18_7; omega) | omega)
                 all_goals
                  try simp only [decide_eq_true_eq, decide_eq_false_iff_not, Bool.not_eq_true', Bool.not_eq_false', Bool.not_eq_true, Bool.not_eq_false, Option.isNone_none, Option.isNone_some, Option.isSome_none, Option.isSome_some, ne_eq, Decidable.not_not] at hb18_7
                  refine WN.skip _ rfl rfl rfl rfl ?_
                  refine WN.step _ rfl (SO.skip rfl rfl rfl ?_)
                  refine ⟨trivial, ?_⟩
                  refine WN.calm _ rfl rfl rfl rfl rfl (fun _ => r_pickF rfl (ev_t rfl) ev_c) ?_
                  refine WN.calm _ rfl rfl rfl rfl rfl (fun _ => r_move rfl (ev_t rfl)) ?_
                  refine WN.skip _ rfl rfl rfl rfl ?_
                  refine WN.skip _ rfl rfl rfl rfl ?_
                  refine WN.step _ rfl (SO.skip rfl rfl rfl ?_)
                  refine ⟨trivial, ?_⟩
                  refine WN.step _ rfl (SO.skip rfl rfl rfl ?_)
                  refine ⟨trivial, ?_⟩
                  refine WN.step _ rfl (SO.skip rfl rfl rfl ?_)
                  refine ⟨trivial, ?_⟩
                  refine WN.calm _ rfl rfl rfl rfl rfl (fun _ => r_pickF rfl (ev_t rfl) ev_c) ?_
                  refine WN.calm _ rfl rfl rfl rfl rfl (fun _ => r_assign rfl (ev_t rfl)) ?_
                  refine WN.done ?_
                  refine WX.keep [(2, _)] ⟨rfl, trivial⟩ ?_
                  refine WX.next ?_
                  refine WC.ret ?_
                  refine WX.retE1 rfl rfl ?_
                  refine ⟨?_, hU⟩
                  first
                    | rfl
                    | simp
                    | (simp_all; done)
             · refine SO.call (funs_ok (hall.upd hU (fun _ _ _ h => h)) (by omega) (fun f hf => by have := h100 f hf; omega)) rfl body_10 ⟨(ev_t rfl), trivial⟩ rfl rfl rfl rfl ?_
               rintro v w17 ⟨hf1, hu17⟩
               have hs17 := hu17.size
               replace hU := hU.transA hu17
               replace ho := ho.upd hu17 (by first | exact (fun _ _ _ h => h) | (intro k hk hl hS; have := hFo k hk; simp only [At, No] at hS; omega))
               replace hR := hR.upd hu17 (fun h => h.elim) (fun _ _ _ h => h.elim)
               replace hfa := hfa.upd hu17 (fun _ _ _ h => h.elim)
               refine ⟨trivial, ?_⟩
               refine WN.fork _ _ rfl rfl ?_ ?_
               · refine SO.val rfl rfl rfl rfl (r_toStr rfl (ev_t rfl) ho elem_30 int_5 str_9) ?_
                 refine ⟨trivial, ?_⟩
                 refine WN.step _ rfl (SO.call (rEncode_ok hf1 hs h20) rfl body_19 ⟨(ev_t rfl), trivial⟩ rfl rfl rfl rfl ?_)
                 rintro v w18 ⟨hoe, hu18⟩
                 obtain ⟨Ae, ce, rfl, hce⟩ := Own.form hoe
                 have hs18 := hu18.size
                 replace hU := hU.transA hu18
                 replace ho := ho.upd hu18 (by first | exact (fun _ _ _ h => h) | (intro k hk hl hS; have := hFo k hk; simp only [At, No] at hS; omega))
                 replace hR := hR.upd hu18 (fun h => h.elim) (fun _ _ _ h => h.elim)
                 replace hfa := hfa.upd hu18 (fun _ _ _ h => h.elim)
                 refine ⟨trivial, ?_⟩
                 refine WN.step _ rfl (SO.val rfl rfl rfl rfl (r_toStr rfl (ev_t rfl) (hoe.rd (by omega)) elem_30 int_5 str_9) ?_)
                 refine ⟨trivial, ?_⟩
                 refine WN.calm _ rfl rfl rfl rfl rfl (fun _ => r_eqlStr rfl (ev_t rfl) (ev_t rfl)) ?_
                 refine WN.calm _ rfl rfl rfl rfl rfl (fun _ => r_move rfl (ev_t rfl)) ?_
                 refine WN.cases 99 rfl (fun hb18_7 => ?_) (fun hb18_7 => ?_)
                 · try (exfalso; first | (simp at hb18_7; done) | (simp only [decide_eq_true_eq, decide_eq_false_iff_not, Bool.not_eq_true', Bool.not_eq_false', Bool.not_eq_true, Bool.not_eq_false] at hb18_7; omega) | omega)
                   all_goals
                    try simp only [decide_eq_true_eq, decide_eq_false_iff_not, Bool.not_eq_true', Bool.not_eq_false', Bool.not_eq_true, Bool.not_eq_false, Option.isNone_none, Option.isNone_some, Option.isSome_none, Option.isSome_some, ne_eq, Decidable.not_not] at hb18_7
                    refine WN.calm _ rfl rfl rfl rfl rfl (fun _ => r_move rfl (ev_t rfl)) ?_
                    refine WN.step _ rfl (SO.call (end_ok hR) rfl body_16 ⟨(ev_t rfl), trivial⟩ rfl rfl rfl rfl ?_)
                    rintro v w19 ⟨rfl, he⟩
                    obtain rfl := he.symm
                    refine ⟨trivial, ?_⟩
                    refine WN.calm _ rfl rfl rfl rfl rfl (fun _ => r_pickT rfl (ev_t rfl) (ev_t rfl)) ?_
                    refine WN.calm _ rfl rfl rfl rfl rfl (fun _ => r_move rfl (ev_t rfl)) ?_
                    refine WN.cases 103 rfl (fun hb18_11 => ?_) (fun hb18_11 => ?_)
                    · try (exfalso; first | (simp at hb18_11; done) | (simp only [decide_eq_true_eq, decide_eq_false_iff_not, Bool.not_eq_true', Bool.not_eq_false', Bool.not_eq_true, Bool.not_eq_false] at hb18_11; omega) | omega)
                      all_goals
                       try simp only [decide_eq_true_eq, decide_eq_false_iff_not, Bool.not_eq_true', Bool.not_eq_false', Bool.not_eq_true, Bool.not_eq_false, Option.isNone_none, Option.isNone_some, Option.isSome_none, Option.isSome_some, ne_eq, Decidable.not_not] at hb18_11
                       refine WN.calm _ rfl rfl rfl rfl rfl (fun _ => r_move rfl (ev_t rfl)) ?_
                       refine WN.calm _ rfl rfl rfl rfl rfl (fun _ => r_move rfl (ev_t rfl)) ?_
                       refine WN.step _ rfl (SO.call (funs_ok hfa (by omega) (fun f hf => by have := h100 f hf; omega)) rfl body_10 ⟨(ev_t rfl), trivial⟩ rfl rfl rfl rfl ?_)
                       rintro v w20 ⟨hf2, hu20⟩
                       have hs20 := hu20.size
                       replace hU := hU.transA hu20
                       replace ho := ho.upd hu20 (by first | exact (fun _ _ _ h => h) | (intro k hk hl hS; have := hFo k hk; simp only [At, No] at hS; omega))
                       replace hR := hR.upd hu20 (fun h => h.elim) (fun _ _ _ h => h.elim)
                       replace hfa := hfa.upd hu20 (fun _ _ _ h => h.elim)
                       refine ⟨trivial, ?_⟩
                       refine WN.step _ rfl (SO.call (funs_ok (hall.upd hU (fun _ _ _ h => h)) (by omega) (fun f hf => by have := h100 f hf; omega)) rfl body_10 ⟨(ev_t rfl), trivial⟩ rfl rfl rfl rfl ?_)
                       rintro v w21 ⟨hf3, hu21⟩
                       have hs21 := hu21.size
                       replace hU := hU.transA hu21
                       replace ho := ho.upd hu21 (by first | exact (fun _ _ _ h => h) | (intro k hk hl hS; have := hFo k hk; simp only [At, No] at hS; omega))
                       replace hR := hR.upd hu21 (fun h => h.elim) (fun _ _ _ h => h.elim)
                       replace hfa := hfa.upd hu21 (fun _ _ _ h => h.elim)
                       replace hf2 := hf2.upd hu21 (fun _ _ _ h => h.elim)
                       refine ⟨trivial, ?_⟩
                       refine WN.step _ rfl (SO.call (same_ok hf2 hf3) rfl body_15 ⟨(ev_t rfl), (ev_t rfl), trivial⟩ rfl rfl rfl rfl ?_)
                       rintro v w22 ⟨rfl, hu22⟩
                       have hs22 := hu22.size
                       replace hU := hU.transA hu22
                       replace ho := ho.upd hu22 (by first | exact (fun _ _ _ h => h) | (intro k hk hl hS; have := hFo k hk; simp only [At, No] at hS; omega))
                       replace hR := hR.upd hu22 (fun h => h.elim) (fun _ _ _ h => h.elim)
                       replace hfa := hfa.upd hu22 (fun _ _ _ h => h.elim)
                       replace hf2 := hf2.upd hu22 (fun _ _ _ h => h.elim)
                       refine ⟨trivial, ?_⟩
                       refine WN.calm _ rfl rfl rfl rfl rfl (fun _ => r_pickT rfl (ev_t rfl) (ev_t rfl)) ?_
                       refine WN.calm _ rfl rfl rfl rfl rfl (fun _ => r_assign rfl (ev_t rfl)) ?_
                       refine WN.done ?_
                       refine WX.keep [(2, _)] ⟨rfl, trivial⟩ ?_
                       refine WX.next ?_
                       refine WC.ret ?_
                       refine WX.retE1 rfl rfl ?_
                       refine ⟨?_, hU⟩
                       first
                         | rfl
                         | simp
                         | (simp_all; done)
                    · try (exfalso; first | (simp at hb18_11; done) | (simp only [decide_eq_true_eq, decide_eq_false_iff_not, Bool.not_eq_true', Bool.not_eq_false', Bool.not_eq_true, Bool.not_eq_false] at hb18_11; omega) | omega)
                      all_goals
                       try simp only [decide_eq_true_eq, decide_eq_false_iff_not, Bool.not_eq_true', Bool.not_eq_false', Bool.not_eq_true, Bool.not_eq_false, Option.isNone_none, Option.isNone_some, Option.isSome_none, Option.isSome_some, ne_eq, Decidable.not_not] at hb18_11
                       refine WN.skip _ rfl rfl rfl rfl ?_
                       refine WN.skip _ rfl rfl rfl rfl ?_
                       refine WN.step _ rfl (SO.skip rfl rfl rfl ?_)
                       refine ⟨trivial, ?_⟩
                       refine WN.step _ rfl (SO.skip rfl rfl rfl ?_)
                       refine ⟨trivial, ?_⟩
                       refine WN.step _ rfl (SO.skip rfl rfl rfl ?_)
                       refine ⟨trivial, ?_⟩
                       refine WN.calm _ rfl rfl rfl rfl rfl (fun _ => r_pickF rfl (ev_t rfl) ev_c) ?_
                       refine WN.calm _ rfl rfl rfl rfl rfl (fun _ => r_assign rfl (ev_t rfl)) ?_
                       refine WN.done ?_
                       refine WX.keep [(2, _)] ⟨rfl, trivial⟩ ?_
                       refine WX.next ?_
                       refine WC.ret ?_
                       refine WX.retE1 rfl rfl ?_
                       refine ⟨?_, hU⟩
                       first
                         | rfl
                         | simp
                         | (simp_all; done)
                 · try (exfalso; first | (simp at hb18_7; done) | (simp only [decide_eq_true_eq, decide_eq_false_iff_not, Bool.not_eq_true', Bool.not_eq_false', Bool.not_eq_true, Bool.not_eq_false] at hb18_7; omega) | omega)
                   all_goals
                    try simp only [decide_eq_true_eq, decide_eq_false_iff_not, Bool.not_eq_true', Bool.not_eq_false', Bool.not_eq_true, Bool.not_eq_false, Option.isNone_none, Option.isNone_some, Option.isSome_none, Option.isSome_some, ne_eq, Decidable.not_not] at hb18_7
                    refine WN.skip _ rfl rfl rfl rfl ?_
                    refine WN.step _ rfl (SO.skip rfl rfl rfl ?_)
                    refine ⟨trivial, ?_⟩
                    refine WN.calm _ rfl rfl rfl rfl rfl (fun _ => r_pickF rfl (ev_t rfl) ev_c) ?_
                    refine WN.calm _ rfl rfl rfl rfl rfl (fun _ => r_move rfl (ev_t rfl)) ?_
                    refine WN.skip _ rfl rfl rfl rfl ?_
                    refine WN.skip _ rfl rfl rfl rfl ?_
                    refine WN.step _ rfl (SO.skip rfl rfl rfl ?_)
                    refine ⟨trivial, ?_⟩
                    refine WN.step _ rfl (SO.skip rfl rfl rfl ?_)
                    refine ⟨trivial, ?_⟩
                    refine WN.step _ rfl (SO.skip rfl rfl rfl ?_)
                    refine ⟨trivial, ?_⟩
                    refine WN.calm _ rfl rfl rfl rfl rfl (fun _ => r_pickF rfl (ev_t rfl) ev_c) ?_
                    refine WN.calm _ rfl rfl rfl rfl rfl (fun _ => r_assign rfl (ev_t rfl)) ?_
                    refine WN.done ?_
                    refine WX.keep [(2, _)] ⟨rfl, trivial⟩ ?_
                    refine WX.next ?_
                    refine WC.ret ?_
                    refine WX.retE1 rfl rfl ?_
                    refine ⟨?_, hU⟩
                    first
                      | rfl
                      | simp
                      | (simp_all; done)
               · refine SO.call (rEncode_ok hf1 hs h20) rfl body_19 ⟨(ev_t rfl), trivial⟩ rfl rfl rfl rfl ?_
                 rintro v w23 ⟨hoe, hu23⟩
                 obtain ⟨Ae, ce, rfl, hce⟩ := Own.form hoe
                 have hs23 := hu23.size
                 replace hU := hU.transA hu23
                 replace ho := ho.upd hu23 (by first | exact (fun _ _ _ h => h) | (intro k hk hl hS; have := hFo k hk; simp only [At, No] at hS; omega))
                 replace hR := hR.upd hu23 (fun h => h.elim) (fun _ _ _ h => h.elim)
                 replace hfa := hfa.upd hu23 (fun _ _ _ h => h.elim)
                 refine ⟨trivial, ?_⟩
                 refine WN.fork _ _ rfl rfl ?_ ?_
                 · refine SO.val rfl rfl rfl rfl (r_toStr rfl (ev_t rfl) ho elem_30 int_5 str_9) ?_
                   refine ⟨trivial, ?_⟩
                   refine WN.step _ rfl (SO.val rfl rfl rfl rfl (r_toStr rfl (ev_t rfl) (hoe.rd (by omega)) elem_30 int_5 str_9) ?_)
                   refine ⟨trivial, ?_⟩
                   refine WN.calm _ rfl rfl rfl rfl rfl (fun _ => r_eqlStr rfl (ev_t rfl) (ev_t rfl)) ?_
                   refine WN.calm _ rfl rfl rfl rfl rfl (fun _ => r_move rfl (ev_t rfl)) ?_
                   refine WN.cases 99 rfl (fun hb18_7 => ?_) (fun hb18_7 => ?_)
                   · try (exfalso; first | (simp at hb18_7; done) | (simp only [decide_eq_true_eq, decide_eq_false_iff_not, Bool.not_eq_true', Bool.not_eq_false', Bool.not_eq_true, Bool.not_eq_false] at hb18_7; omega) | omega)
                     all_goals
                      try simp only [decide_eq_true_eq, decide_eq_false_iff_not, Bool.not_eq_true', Bool.not_eq_false', Bool.not_eq_true, Bool.not_eq_false, Option.isNone_none, Option.isNone_some, Option.isSome_none, Option.isSome_some, ne_eq, Decidable.not_not] at hb18_7
                      refine WN.calm _ rfl rfl rfl rfl rfl (fun _ => r_move rfl (ev_t rfl)) ?_
                      refine WN.step _ rfl (SO.call (end_ok hR) rfl body_16 ⟨(ev_t rfl), trivial⟩ rfl rfl rfl rfl ?_)
                      rintro v w24 ⟨rfl, he⟩
                      obtain rfl := he.symm
                      refine ⟨trivial, ?_⟩
                      refine WN.calm _ rfl rfl rfl rfl rfl (fun _ => r_pickT rfl (ev_t rfl) (ev_t rfl)) ?_
                      refine WN.calm _ rfl rfl rfl rfl rfl (fun _ => r_move rfl (ev_t rfl)) ?_
                      refine WN.cases 103 rfl (fun hb18_11 => ?_) (fun hb18_11 => ?_)
                      · try (exfalso; first | (simp at hb18_11; done) | (simp only [decide_eq_true_eq, decide_eq_false_iff_not, Bool.not_eq_true', Bool.not_eq_false', Bool.not_eq_true, Bool.not_eq_false] at hb18_11; omega) | omega)
                        all_goals
                         try simp only [decide_eq_true_eq, decide_eq_false_iff_not, Bool.not_eq_true', Bool.not_eq_false', Bool.not_eq_true, Bool.not_eq_false, Option.isNone_none, Option.isNone_some, Option.isSome_none, Option.isSome_some, ne_eq, Decidable.not_not] at hb18_11
                         refine WN.calm _ rfl rfl rfl rfl rfl (fun _ => r_move rfl (ev_t rfl)) ?_
                         refine WN.calm _ rfl rfl rfl rfl rfl (fun _ => r_move rfl (ev_t rfl)) ?_
                         refine WN.step _ rfl (SO.call (funs_ok hfa (by omega) (fun f hf => by have := h100 f hf; omega)) rfl body_10 ⟨(ev_t rfl), trivial⟩ rfl rfl rfl rfl ?_)
                         rintro v w25 ⟨hf2, hu25⟩
                         have hs25 := hu25.size
                         replace hU := hU.transA hu25
                         replace ho := ho.upd hu25 (by first | exact (fun _ _ _ h => h) | (intro k hk hl hS; have := hFo k hk; simp only [At, No] at hS; omega))
                         replace hR := hR.upd hu25 (fun h => h.elim) (fun _ _ _ h => h.elim)
                         replace hfa := hfa.upd hu25 (fun _ _ _ h => h.elim)
                         refine ⟨trivial, ?_⟩
                         refine WN.step _ rfl (SO.call (funs_ok (hall.upd hU (fun _ _ _ h => h)) (by omega) (fun f hf => by have := h100 f hf; omega)) rfl body_10 ⟨(ev_t rfl), trivial⟩ rfl rfl rfl rfl ?_)
                         rintro v w26 ⟨hf3, hu26⟩
                         have hs26 := hu26.size
                         replace hU := hU.transA hu26
                         replace ho := ho.upd hu26 (by first | exact (fun _ _ _ h => h) | (intro k hk hl hS; have := hFo k hk; simp only [At, No] at hS; omega))
                         replace hR := hR.upd hu26 (fun h => h.elim) (fun _ _ _ h => h.elim)
                         replace hfa := hfa.upd hu26 (fun _ _ _ h => h.elim)
                         replace hf2 := hf2.upd hu26 (fun _ _ _ h => h.elim)
                         refine ⟨trivial, ?_⟩
                         refine WN.step _ rfl (SO.call (same_ok hf2 hf3) rfl body_15 ⟨(ev_t rfl), (ev_t rfl), trivial⟩ rfl rfl rfl rfl ?_)
                         rintro v w27 ⟨rfl, hu27⟩
                         have hs27 := hu27.size
                         replace hU := hU.transA hu27
                         replace ho := ho.upd hu27 (by first | exact (fun _ _ _ h => h) | (intro k hk hl hS; have := hFo k hk; simp only [At, No] at hS; omega))
                         replace hR := hR.upd hu27 (fun h => h.elim) (fun _ _ _ h => h.elim)
                         replace hfa := hfa.upd hu27 (fun _ _ _ h => h.elim)
                         replace hf2 := hf2.upd hu27 (fun _ _ _ h => h.elim)
                         refine ⟨trivial, ?_⟩
                         refine WN.calm _ rfl rfl rfl rfl rfl (fun _ => r_pickT rfl (ev_t rfl) (ev_t rfl)) ?_
                         refine WN.calm _ rfl rfl rfl rfl rfl (fun _ => r_assign rfl (ev_t rfl)) ?_
                         refine WN.done ?_
                         refine WX.keep [(2, _)] ⟨rfl, trivial⟩ ?_
                         refine WX.next ?_
                         refine WC.ret ?_
                         refine WX.retE1 rfl rfl ?_
                         refine ⟨?_, hU⟩
                         first
                           | rfl
                           | simp
                           | (simp_all; done)
                      · try (exfalso; first | (simp at hb18_11; done) | (simp only [decide_eq_true_eq, decide_eq_false_iff_not, Bool.not_eq_true', Bool.not_eq_false', Bool.not_eq_true, Bool.not_eq_false] at hb18_11; omega) | omega)
                        all_goals
                         try simp only [decide_eq_true_eq, decide_eq_false_iff_not, Bool.not_eq_true', Bool.not_eq_false', Bool.not_eq_true, Bool.not_eq_false, Option.isNone_none, Option.isNone_some, Option.isSome_none, Option.isSome_some, ne_eq, Decidable.not_not] at hb18_11
                         refine WN.skip _ rfl rfl rfl rfl ?_
                         refine WN.skip _ rfl rfl rfl rfl ?_
                         refine WN.step _ rfl (SO.skip rfl rfl rfl ?_)
                         refine ⟨trivial, ?_⟩
                         refine WN.step _ rfl (SO.skip rfl rfl rfl ?_)
                         refine ⟨trivial, ?_⟩
                         refine WN.step _ rfl (SO.skip rfl rfl rfl ?_)
                         refine ⟨trivial, ?_⟩
                         refine WN.calm _ rfl rfl rfl rfl rfl (fun _ => r_pickF rfl (ev_t rfl) ev_c) ?_
                         refine WN.calm _ rfl rfl rfl rfl rfl (fun _ => r_assign rfl (ev_t rfl)) ?_
                         refine WN.done ?_
                         refine WX.keep [(2, _)] ⟨rfl, trivial⟩ ?_
                         refine WX.next ?_
                         refine WC.ret ?_
                         refine WX.retE1 rfl rfl ?_
                         refine ⟨?_, hU⟩
                         first
                           | rfl
                           | simp
                           | (simp_all; done)
                   · try (exfalso; first | (simp at hb18_7; done) | (simp only [decide_eq_true_eq, decide_eq_false_iff_not, Bool.not_eq_true', Bool.not_eq_false', Bool.not_eq_true, Bool.not_eq_false] at hb18_7; omega) | omega)
                     all_goals
                      try simp only [decide_eq_true_eq, decide_eq_false_iff_not, Bool.not_eq_true', Bool.not_eq_false', Bool.not_eq_true, Bool.not_eq_false, Option.isNone_none, Option.isNone_some, Option.isSome_none, Option.isSome_some, ne_eq, Decidable.not_not] at hb18_7
                      refine WN.skip _ rfl rfl rfl rfl ?_
                      refine WN.step _ rfl (SO.skip rfl rfl rfl ?_)
                      refine ⟨trivial, ?_⟩
                      refine WN.calm _ rfl rfl rfl rfl rfl (fun _ => r_pickF rfl (ev_t rfl) ev_c) ?_
                      refine WN.calm _ rfl rfl rfl rfl rfl (fun _ => r_move rfl (ev_t rfl)) ?_
                      refine WN.skip _ rfl rfl rfl rfl ?_
                      refine WN.skip _ rfl rfl rfl rfl ?_
                      refine WN.step _ rfl (SO.skip rfl rfl rfl ?_)
                      refine ⟨trivial, ?_⟩
                      refine WN.step _ rfl (SO.skip rfl rfl rfl ?_)
                      refine ⟨trivial, ?_⟩
                      refine WN.step _ rfl (SO.skip rfl rfl rfl ?_)
                      refine ⟨trivial, ?_⟩
                      refine WN.calm _ rfl rfl rfl rfl rfl (fun _ => r_pickF rfl (ev_t rfl) ev_c) ?_
                      refine WN.calm _ rfl rfl rfl rfl rfl (fun _ => r_assign rfl (ev_t rfl)) ?_
                      refine WN.done ?_
                      refine WX.keep [(2, _)] ⟨rfl, trivial⟩ ?_
                      refine WX.next ?_
                      refine WC.ret ?_
                      refine WX.retE1 rfl rfl ?_
                      refine ⟨?_, hU⟩
                      first
                        | rfl
                        | simp
                        | (simp_all; done)
                 · refine SO.val rfl rfl rfl rfl (r_toStr rfl (ev_t rfl) (hoe.rd (by omega)) elem_30 int_5 str_9) ?_
                   refine ⟨trivial, ?_⟩
                   refine WN.step _ rfl (SO.val rfl rfl rfl rfl (r_toStr rfl (ev_t rfl) ho elem_30 int_5 str_9) ?_)
                   refine ⟨trivial, ?_⟩
                   refine WN.calm _ rfl rfl rfl rfl rfl (fun _ => r_eqlStr rfl (ev_t rfl) (ev_t rfl)) ?_
                   refine WN.calm _ rfl rfl rfl rfl rfl (fun _ => r_move rfl (ev_t rfl)) ?_
                   refine WN.cases 99 rfl (fun hb18_7 => ?_) (fun hb18_7 => ?_)
                   · try (exfalso; first | (simp at hb18_7; done) | (simp only [decide_eq_true_eq, decide_eq_false_iff_not, Bool.not_eq_true', Bool.not_eq_false', Bool.not_eq_true, Bool.not_eq_false] at hb18_7; omega) | omega)
                     all_goals
                      try simp only [decide_eq_true_eq, decide_eq_false_iff_not, Bool.not_eq_true', Bool.not_eq_false', Bool.not_eq_true, Bool.not_eq_false, Option.isNone_none, Option.isNone_some, Option.isSome_none, Option.isSome_some, ne_eq, Decidable.not_not] at hb18_7
                      refine WN.calm _ rfl rfl rfl rfl rfl (fun _ => r_move rfl (ev_t rfl)) ?_
                      refine WN.step _ rfl (SO.call (end_ok hR) rfl body_16 ⟨(ev_t rfl), trivial⟩ rfl rfl rfl rfl ?_)
                      rintro v w28 ⟨rfl, he⟩
                      obtain rfl := he.symm
                      refine ⟨trivial, ?_⟩
                      refine WN.calm _ rfl rfl rfl rfl rfl (fun _ => r_pickT rfl (ev_t rfl) (ev_t rfl)) ?_
                      refine WN.calm _ rfl rfl rfl rfl rfl (fun _ => r_move rfl (ev_t rfl)) ?_
                      refine WN.cases 103 rfl (fun hb18_11 => ?_) (fun hb18_11 => ?_)
                      · try (exfalso; first | (simp at hb18_11; done) | (simp only [decide_eq_true_eq, decide_eq_false_iff_not, Bool.not_eq_true', Bool.not_eq_false', Bool.not_eq_true, Bool.not_eq_false] at hb18_11; omega) | omega)
                        all_goals
                         try simp only [decide_eq_true_eq, decide_eq_false_iff_not, Bool.not_eq_true', Bool.not_eq_false', Bool.not_eq_true, Bool.not_eq_false, Option.isNone_none, Option.isNone_some, Option.isSome_none, Option.isSome_some, ne_eq, Decidable.not_not] at hb18_11
                         refine WN.calm _ rfl rfl rfl rfl rfl (fun _ => r_move rfl (ev_t rfl)) ?_
                         refine WN.calm _ rfl rfl rfl rfl rfl (fun _ => r_move rfl (ev_t rfl)) ?_
                         refine WN.step _ rfl (SO.call (funs_ok hfa (by omega) (fun f hf => by have := h100 f hf; omega)) rfl body_10 ⟨(ev_t rfl), trivial⟩ rfl rfl rfl rfl ?_)
                         rintro v w29 ⟨hf2, hu29⟩
                         have hs29 := hu29.size
                         replace hU := hU.transA hu29
                         replace ho := ho.upd hu29 (by first | exact (fun _ _ _ h => h) | (intro k hk hl hS; have := hFo k hk; simp only [At, No] at hS; omega))
                         replace hR := hR.upd hu29 (fun h => h.elim) (fun _ _ _ h => h.elim)
                         replace hfa := hfa.upd hu29 (fun _ _ _ h => h.elim)
                         refine ⟨trivial, ?_⟩
                         refine WN.step _ rfl (SO.call (funs_ok (hall.upd hU (fun _ _ _ h => h)) (by omega) (fun f hf => by have := h100 f hf; omega)) rfl body_10 ⟨(ev_t rfl), trivial⟩ rfl rfl rfl rfl ?_)
                         rintro v w30 ⟨hf3, hu30⟩
                         have hs30 := hu30.size
                         replace hU := hU.transA hu30
                         replace ho := ho.upd hu30 (by first | exact (fun _ _ _ h => h) | (intro k hk hl hS; have := hFo k hk; simp only [At, No] at hS; omega))
                         replace hR := hR.upd hu30 (fun h => h.elim) (fun _ _ _ h => h.elim)
                         replace hfa := hfa.upd hu30 (fun _ _ _ h => h.elim)
                         replace hf2 := hf2.upd hu30 (fun _ _ _ h => h.elim)
                         refine ⟨trivial, ?_⟩
                         refine WN.step _ rfl (SO.call (same_ok hf2 hf3) rfl body_15 ⟨(ev_t rfl), (ev_t rfl), trivial⟩ rfl rfl rfl rfl ?_)
                         rintro v w31 ⟨rfl, hu31⟩
                         have hs31 := hu31.size
                         replace hU := hU.transA hu31
                         replace ho := ho.upd hu31 (by first | exact (fun _ _ _ h => h) | (intro k hk hl hS; have := hFo k hk; simp only [At, No] at hS; omega))
                         replace hR := hR.upd hu31 (fun h => h.elim) (fun _ _ _ h => h.elim)
                         replace hfa := hfa.upd hu31 (fun _ _ _ h => h.elim)
                         replace hf2 := hf2.upd hu31 (fun _ _ _ h => h.elim)
                         refine ⟨trivial, ?_⟩
                         refine WN.calm _ rfl rfl rfl rfl rfl (fun _ => r_pickT rfl (ev_t rfl) (ev_t rfl)) ?_
                         refine WN.calm _ rfl rfl rfl rfl rfl (fun _ => r_assign rfl (ev_t rfl)) ?_
                         refine WN.done ?_
                         refine WX.keep [(2, _)] ⟨rfl, trivial⟩ ?_
                         refine WX.next ?_
                         refine WC.ret ?_
                         refine WX.retE1 rfl rfl ?_
                         refine ⟨?_, hU⟩
                         first
                           | rfl
                           | simp
                           | (simp_all; done)
                      · try (exfalso; first | (simp at hb18_11; done) | (simp only [decide_eq_true_eq, decide_eq_false_iff_not, Bool.not_eq_true', Bool.not_eq_false', Bool.not_eq_true, Bool.not_eq_false] at hb18_11; omega) | omega)
                        all_goals
                         try simp only [decide_eq_true_eq, decide_eq_false_iff_not, Bool.not_eq_true', Bool.not_eq_false', Bool.not_eq_true, Bool.not_eq_false, Option.isNone_none, Option.isNone_some, Option.isSome_none, Option.isSome_some, ne_eq, Decidable.not_not] at hb18_11
                         refine WN.skip _ rfl rfl rfl rfl ?_
                         refine WN.skip _ rfl rfl rfl rfl ?_
                         refine WN.step _ rfl (SO.skip rfl rfl rfl ?_)
                         refine ⟨trivial, ?_⟩
                         refine WN.step _ rfl (SO.skip rfl rfl rfl ?_)
                         refine ⟨trivial, ?_⟩
                         refine WN.step _ rfl (SO.skip rfl rfl rfl ?_)
                         refine ⟨trivial, ?_⟩
                         refine WN.calm _ rfl rfl rfl rfl rfl (fun _ => r_pickF rfl (ev_t rfl) ev_c) ?_
                         refine WN.calm _ rfl rfl rfl rfl rfl (fun _ => r_assign rfl (ev_t rfl)) ?_
                         refine WN.done ?_
                         refine WX.keep [(2, _)] ⟨rfl, trivial⟩ ?_
                         refine WX.next ?_
                         refine WC.ret ?_
                         refine WX.retE1 rfl rfl ?_
                         refine ⟨?_, hU⟩
                         first
                           | rfl
                           | simp
                           | (simp_all; done)
                   · try (exfalso; first | (simp at hb18_7; done) | (simp only [decide_eq_true_eq, decide_eq_false_iff_not, Bool.not_eq_true', Bool.not_eq_false', Bool.not_eq_true, Bool.not_eq_false] at hb18_7; omega) | omega)
                     all_goals
                      try simp only [decide_eq_true_eq, decide_eq_false_iff_not, Bool.not_eq_true', Bool.not_eq_false', Bool.not_eq_true, Bool.not_eq_false, Option.isNone_none, Option.isNone_some, Option.isSome_none, Option.isSome_some, ne_eq, Decidable.not_not] at hb18_7
                      refine WN.skip _ rfl rfl rfl rfl ?_
                      refine WN.step _ rfl (SO.skip rfl rfl rfl ?_)
                      refine ⟨trivial, ?_⟩
                      refine WN.calm _ rfl rfl rfl rfl rfl (fun _ => r_pickF rfl (ev_t rfl) ev_c) ?_
                      refine WN.calm _ rfl rfl rfl rfl rfl (fun _ => r_move rfl (ev_t rfl)) ?_
                      refine WN.skip _ rfl rfl rfl rfl ?_
                      refine WN.skip _ rfl rfl rfl rfl ?_
                      refine WN.step _ rfl (SO.skip rfl rfl rfl ?_)
                      refine ⟨trivial, ?_⟩
                      refine WN.step _ rfl (SO.skip rfl rfl rfl ?_)
                      refine ⟨trivial, ?_⟩
                      refine WN.step _ rfl (SO.skip rfl rfl rfl ?_)
                      refine ⟨trivial, ?_⟩
                      refine WN.calm _ rfl rfl rfl rfl rfl (fun _ => r_pickF rfl (ev_t rfl) ev_c) ?_
                      refine WN.calm _ rfl rfl rfl rfl rfl (fun _ => r_assign rfl (ev_t rfl)) ?_
                      refine WN.done ?_
                      refine WX.keep [(2, _)] ⟨rfl, trivial⟩ ?_
                      refine WX.next ?_
                      refine WC.ret ?_
                      refine WX.retE1 rfl rfl ?_
                      refine ⟨?_, hU⟩
                      first
                        | rfl
                        | simp
                        | (simp_all; done)
end Go.Proofs.YtipabhbnljadfaaDoor
