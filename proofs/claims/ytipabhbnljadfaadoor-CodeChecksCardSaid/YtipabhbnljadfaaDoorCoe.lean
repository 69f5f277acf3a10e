/-
  law 08: too many instructions? functions as the reference has them.
-/
import Derived.Test.YtipabhbnljadfaaDoorCod
namespace Go.Proofs.YtipabhbnljadfaaDoor
open Go
set_option linter.unusedSimpArgs false
set_option linter.unusedVariables false

theorem great_ok {w : World} {H : Nat → Prop} {v : Value} {l : List Fn} (hall : IsFs w H v l) :
    Ret Tryd.prog 7 #[v] w fun u w' => (∃ b, u = .bool b ∧ (b = false → l.length ≤ 20 ∧ ∀ f ∈ l, f.code.length ≤ 100)) ∧ Upd No w w' := by
  obtain ⟨V, hV, hVc, hVl⟩ := hall
  obtain ⟨Aa, ca, rfl, hca⟩ := hV.slice_form
  have hVm := hV.le
  have hVn : V.length = l.length := by rw [← hVl, List.length_map]
  refine enterRet (vs := [_]) (N := 20) Tryd.func7 rfl rfl rfl ?_
  have hU := Upd.refl No w
  refine WC.keep [(0, _)] ⟨rfl, trivial⟩ ?_
  refine WC.seq ?_
  refine WC.region ?_
  refine WL.val rfl rfl rfl rfl (r_assign rfl ev_c) ?_
  refine WL.nil ?_
  refine WX.keep [(0, _)] ⟨rfl, trivial⟩ ?_
  refine WX.next ?_
  refine WC.seq ?_
  refine WC.seq ?_
  refine WC.region ?_
  refine WL.val rfl rfl rfl rfl (r_move rfl (ev_t rfl)) ?_
  refine WL.val rfl rfl rfl rfl (r_lenSlice (ts := #[]) rfl (ev_t rfl) elem_22) ?_
  refine WL.val rfl rfl rfl rfl (r_gtr rfl (ev_t rfl) ev_c) ?_
  refine WL.nil ?_
  refine WX.keep [(0, _), (6, _)] ⟨rfl, rfl, trivial⟩ ?_
  refine WX.next ?_
  refine WC.cond rfl (ev_t rfl) (fun hc1 => ?_) (fun hc1 => ?_)
  · try (exfalso; first | (simp at hc1; done) | (simp only [decide_eq_true_eq, decide_eq_false_iff_not, Bool.not_eq_true', Bool.not_eq_false', Bool.not_eq_true, Bool.not_eq_false] at hc1; omega) | omega)
    all_goals
     try simp only [decide_eq_true_eq, decide_eq_false_iff_not, Bool.not_eq_true', Bool.not_eq_false', Bool.not_eq_true, Bool.not_eq_false, Option.isNone_none, Option.isNone_some, Option.isSome_none, Option.isSome_some, ne_eq, Decidable.not_not] at hc1
     refine WC.seq ?_
     refine WC.region ?_
     refine WL.val rfl rfl rfl rfl (r_assign rfl ev_c) ?_
     refine WL.nil ?_
     refine WX.keep [(2, _)] ⟨rfl, trivial⟩ ?_
     refine WX.next ?_
     refine WC.ret ?_
     refine WX.thenRet ?_
     refine WX.retE1 rfl rfl ?_
     exact ⟨⟨true, rfl, fun h => by cases h⟩, hU⟩
  · try (exfalso; first | (simp at hc1; done) | (simp only [decide_eq_true_eq, decide_eq_false_iff_not, Bool.not_eq_true', Bool.not_eq_false', Bool.not_eq_true, Bool.not_eq_false] at hc1; omega) | omega)
    all_goals
     try simp only [decide_eq_true_eq, decide_eq_false_iff_not, Bool.not_eq_true', Bool.not_eq_false', Bool.not_eq_true, Bool.not_eq_false, Option.isNone_none, Option.isNone_some, Option.isSome_none, Option.isSome_some, ne_eq, Decidable.not_not] at hc1
     refine WC.skip ?_
     refine WX.next ?_
     refine WC.seq ?_
     refine WC.seq ?_
     refine WC.region ?_
     refine WL.val rfl rfl rfl rfl (r_assign rfl ev_c) ?_
     refine WL.nil ?_
     refine WX.keep [(0, _), (3, _)] ⟨rfl, rfl, trivial⟩ ?_
     refine WX.next ?_
     refine WC.block ?_
     -- loop 1: live [0, 3]
     refine WC.keep [(0, _), (3, _)] ⟨rfl, rfl, trivial⟩ ?_
     refine WC.loop (fun q E w' => ∃ i : Nat, i ≤ V.length ∧ q = V.length - i ∧ Upd No w w' ∧ V.length ≤ 20 ∧ (∀ (k : Nat) (f : Fn), l[k]? = some f → k < i → f.code.length ≤ 100) ∧   E = [(0, .slice Aa V.length ca), (3, .int .i64 (i : Int))]) (V.length) ?_ ?_
     · exact ⟨0, by omega, by omega, hU, by omega, (fun k f _ h => by omega), rfl⟩
     · clear hU
       rintro q E w' ⟨i, hi, rfl, hU, h20, hdone, rfl⟩
       refine WC.seq ?_
       refine WC.seq ?_
       refine WC.region ?_
       refine WL.val rfl rfl rfl rfl (r_move rfl (ev_t rfl)) ?_
       refine WL.val rfl rfl rfl rfl (r_move rfl (ev_t rfl)) ?_
       refine WL.val rfl rfl rfl rfl (r_lenSlice (ts := #[]) rfl (ev_t rfl) elem_22) ?_
       refine WL.val rfl rfl rfl rfl (r_lss rfl (ev_t rfl) (ev_t rfl)) ?_
       refine WL.nil ?_
       refine WX.keep [(0, _), (3, _), (10, _)] ⟨rfl, rfl, rfl, trivial⟩ ?_
       refine WX.next ?_
       refine WC.cond rfl (ev_t rfl) (fun hc4 => ?_) (fun hc4 => ?_)
       · try (exfalso; first | (simp at hc4; done) | (simp only [decide_eq_true_eq, decide_eq_false_iff_not, Bool.not_eq_true', Bool.not_eq_false', Bool.not_eq_true, Bool.not_eq_false] at hc4; omega) | omega)
         all_goals
          try simp only [decide_eq_true_eq, decide_eq_false_iff_not, Bool.not_eq_true', Bool.not_eq_false', Bool.not_eq_true, Bool.not_eq_false, Option.isNone_none, Option.isNone_some, Option.isSome_none, Option.isSome_some, ne_eq, Decidable.not_not] at hc4
          obtain ⟨x, hx⟩ : ∃ x, V[i]? = some x := ⟨_, List.getElem?_eq_getElem (by omega)⟩
          have hcell := flatMap_get FnV.cells_len hx
          have hxa : l[i]? = some x.f := by rw [← hVl, List.getElem?_map, hx]; rfl
          have hxc := hVc x (List.mem_of_getElem? hx)
          obtain ⟨ba, oa, rfl, _⟩ := hV.open (by omega)
          rcases x with ⟨F, fv⟩
          simp only [FnV.cells] at hcell hxa hxc
          obtain ⟨Af, cf, rfl, hcf⟩ := hxc.slice_form
          refine WC.skip ?_
          refine WX.next ?_
          refine WC.seq ?_
          refine WC.block ?_
          refine WC.seq ?_
          refine WC.region ?_
          refine WL.val rfl rfl rfl rfl (r_move rfl (ev_t rfl)) ?_
          refine WL.val rfl rfl rfl rfl (r_move rfl (ev_t rfl)) ?_
          refine WL.val rfl rfl rfl rfl (r_indexAddr rfl (ev_t rfl) (ev_t rfl) elem_22 size_42 (by omega) (by omega)) ?_
          first | refine WL.val rfl rfl rfl rfl (r_field0 rfl (ev_t rfl) fld_42_1) ?_ | refine WL.val rfl rfl rfl rfl (r_fieldAt rfl (ev_t rfl) fld_42_1) ?_
          refine WL.val rfl rfl rfl rfl (r_load rfl (ev_t rfl) flat_40 (Rd.cell (hV.upd hU (fun _ _ _ h => h)) (j := i * 2 + 1) (by omega) (hcell 1 _ rfl))) ?_
          refine WL.val rfl rfl rfl rfl (r_lenSlice (ts := #[]) rfl (ev_t rfl) elem_40) ?_
          refine WL.val rfl rfl rfl rfl (r_gtr rfl (ev_t rfl) ev_c) ?_
          refine WL.nil ?_
          refine WX.keep [(0, _), (3, _), (19, _)] ⟨rfl, rfl, rfl, trivial⟩ ?_
          refine WX.next ?_
          refine WC.cond rfl (ev_t rfl) (fun hc6 => ?_) (fun hc6 => ?_)
          · try (exfalso; first | (simp at hc6; done) | (simp only [decide_eq_true_eq, decide_eq_false_iff_not, Bool.not_eq_true', Bool.not_eq_false', Bool.not_eq_true, Bool.not_eq_false] at hc6; omega) | omega)
            all_goals
             try simp only [decide_eq_true_eq, decide_eq_false_iff_not, Bool.not_eq_true', Bool.not_eq_false', Bool.not_eq_true, Bool.not_eq_false, Option.isNone_none, Option.isNone_some, Option.isSome_none, Option.isSome_some, ne_eq, Decidable.not_not] at hc6
             refine WC.seq ?_
             refine WC.region ?_
             refine WL.val rfl rfl rfl rfl (r_assign rfl ev_c) ?_
             refine WL.nil ?_
             refine WX.keep [(2, _)] ⟨rfl, trivial⟩ ?_
             refine WX.next ?_
             refine WC.ret ?_
             refine WX.blockRet ?_
             refine WX.thenRet ?_
             refine WX.thenRet ?_
             refine WX.blockRet ?_
             refine WX.thenRet ?_
             refine WX.retE1 rfl rfl ?_
             exact ⟨⟨true, rfl, fun h => by cases h⟩, hU⟩
          · try (exfalso; first | (simp at hc6; done) | (simp only [decide_eq_true_eq, decide_eq_false_iff_not, Bool.not_eq_true', Bool.not_eq_false', Bool.not_eq_true, Bool.not_eq_false] at hc6; omega) | omega)
            all_goals
             try simp only [decide_eq_true_eq, decide_eq_false_iff_not, Bool.not_eq_true', Bool.not_eq_false', Bool.not_eq_true, Bool.not_eq_false, Option.isNone_none, Option.isNone_some, Option.isSome_none, Option.isSome_some, ne_eq, Decidable.not_not] at hc6
             refine WC.skip ?_
             refine WX.blockNormal ?_
             refine WX.next ?_
             refine WC.region ?_
             refine WL.val rfl rfl rfl rfl (r_move rfl (ev_t rfl)) ?_
             first | refine WL.val rfl rfl rfl rfl (r_addN rfl (ev_t rfl) ev_c (by simp only [inK]; omega)) ?_ | refine WL.val rfl rfl rfl rfl (r_add rfl (ev_t rfl) ev_c) ?_
             refine WL.val rfl rfl rfl rfl (r_assign rfl (ev_t rfl)) ?_
             refine WL.nil ?_
             refine WX.keep [(0, _), (3, _)] ⟨rfl, rfl, trivial⟩ ?_
             refine WX.meet [(0, _), (3, _)] ⟨rfl, rfl, trivial⟩ ?_
             refine ⟨V.length - (i + 1), by omega, i + 1, by omega, rfl, hU, h20, fun k f hk hki => ?_, rfl⟩
             rcases Nat.lt_or_ge k i with h | h
             · exact hdone k f hk h
             · obtain rfl : k = i := by omega
               rw [hxa] at hk
               have := Option.some.inj hk
               subst this
               omega
       · try (exfalso; first | (simp at hc4; done) | (simp only [decide_eq_true_eq, decide_eq_false_iff_not, Bool.not_eq_true', Bool.not_eq_false', Bool.not_eq_true, Bool.not_eq_false] at hc4; omega) | omega)
         all_goals
          try simp only [decide_eq_true_eq, decide_eq_false_iff_not, Bool.not_eq_true', Bool.not_eq_false', Bool.not_eq_true, Bool.not_eq_false, Option.isNone_none, Option.isNone_some, Option.isSome_none, Option.isSome_some, ne_eq, Decidable.not_not] at hc4
          refine WC.exit ?_
          refine WX.thenExit ?_
          refine WX.thenExit ?_
          refine WX.blockHere ?_
          refine WX.next ?_
          refine WC.seq ?_
          refine WC.region ?_
          refine WL.val rfl rfl rfl rfl (r_assign rfl ev_c) ?_
          refine WL.nil ?_
          refine WX.keep [(2, _)] ⟨rfl, trivial⟩ ?_
          refine WX.next ?_
          refine WC.ret ?_
          refine WX.retE1 rfl rfl ?_
          refine ⟨⟨false, rfl, fun _ => ⟨by omega, fun f hf => ?_⟩⟩, hU⟩
          obtain ⟨k, hk⟩ := List.mem_iff_getElem?.1 hf
          exact hdone k f hk (by have := (List.getElem?_eq_some_iff.1 hk).1; omega)

theorem Own.cast {w : World} {F : Nat → Prop} {T : TypeId} {sz n : Nat} {v : Value} {xs ys : List Value} (h : Own w F T sz v n xs) (e : xs = ys) : Own w F T sz v n ys := e ▸ h
theorem take_ins {l : List In} {j : Nat} {i : In} (h : l[j]? = some i) : (l.take (j + 1)).flatMap insC = (l.take j).flatMap insC ++ insC i := by
  rw [List.take_add_one, h]
  simp

set_option maxHeartbeats 4000000 in
theorem funs_ok {w : World} {H : Nat → Prop} {v : Value} {l : List Fn} (hall : IsFs w H v l) (h20 : l.length ≤ 20) (h100 : ∀ f ∈ l, f.code.length ≤ 100) :
    Ret Tryd.prog 10 #[v] w fun u w' => IsFs w' (New w w') u l ∧ Upd No w w' := by
  obtain ⟨V, hV, hVc, hVl⟩ := hall
  obtain ⟨Aa, ca, rfl, hca⟩ := hV.slice_form
  have hVm := hV.le
  have hVn : V.length = l.length := by rw [← hVl, List.length_map]
  refine enterRet (vs := [_]) (N := 57) Tryd.func10 rfl rfl rfl ?_
  have hU := Upd.refl No w
  refine WC.keep [(0, _)] ⟨rfl, trivial⟩ ?_
  refine WC.seq ?_
  refine WC.region ?_
  refine WL.val rfl rfl rfl rfl (r_assign rfl ev_c) ?_
  refine WL.nil ?_
  refine WX.keep [(0, _)] ⟨rfl, trivial⟩ ?_
  refine WX.next ?_
  refine WC.seq ?_
  refine WC.region ?_
  refine WL.val rfl rfl rfl rfl (r_assign rfl ev_c) ?_
  refine WL.nil ?_
  refine WX.keep [(0, _), (3, _)] ⟨rfl, rfl, trivial⟩ ?_
  refine WX.next ?_
  refine WC.seq ?_
  refine WC.seq ?_
  refine WC.region ?_
  refine WL.val rfl rfl rfl rfl (r_assign rfl ev_c) ?_
  refine WL.nil ?_
  refine WX.keep [(0, _), (3, _), (4, _)] ⟨rfl, rfl, rfl, trivial⟩ ?_
  refine WX.next ?_
  refine WC.block ?_
  -- loop 1: live [0, 3, 4]
  refine WC.keep [(0, _), (3, _), (4, _)] ⟨rfl, rfl, rfl, trivial⟩ ?_
  refine WC.loop (fun q E w' => ∃ (i : Nat) (V2 : List FnV) (A2 : Option Addr) (c2 : Nat) (G C : Nat → Prop), i ≤ V.length ∧ q = V.length - i ∧ Upd No w w' ∧ V2.length = i ∧ V2.map FnV.f = l.take i ∧ Own w' G 54 2 (.slice A2 V2.length c2) V2.length (V2.flatMap FnV.cells) ∧ (∀ x ∈ V2, Rd w' C x.v x.f.code.length 4 (x.f.code.flatMap insC)) ∧   (∀ k, G k → w.heap.size ≤ k ∧ k < w'.heap.size) ∧ (∀ k, C k → w.heap.size ≤ k ∧ k < w'.heap.size ∧ ¬ G k) ∧   E = [(0, .slice Aa V.length ca), (3, .slice A2 V2.length c2), (4, .int .i64 (i : Int))]) (V.length) ?_ ?_
  · exact ⟨0, [], none, 0, fun _ => False, fun _ => False, by omega, by omega, hU, rfl, rfl, Own.nil _ _ _ _, (fun x hx => by cases hx), (fun k h => h.elim), (fun k h => h.elim), rfl⟩
  · clear hU
    rintro q E wA ⟨i, V2, A2, c2, G, C, hi, rfl, hU, hV2, hV2l, hO, hD, hG, hC, rfl⟩
    have hw0 := hU.size
    have hW := Upd.refl No wA
    refine WC.seq ?_
    refine WC.seq ?_
    refine WC.region ?_
    refine WL.val rfl rfl rfl rfl (r_move rfl (ev_t rfl)) ?_
    refine WL.val rfl rfl rfl rfl (r_move rfl (ev_t rfl)) ?_
    refine WL.val rfl rfl rfl rfl (r_lenSlice (ts := #[]) rfl (ev_t rfl) elem_22) ?_
    refine WL.val rfl rfl rfl rfl (r_lss rfl (ev_t rfl) (ev_t rfl)) ?_
    refine WL.nil ?_
    refine WX.keep [(0, _), (3, _), (4, _), (11, _)] ⟨rfl, rfl, rfl, rfl, trivial⟩ ?_
    refine WX.next ?_
    refine WC.cond rfl (ev_t rfl) (fun hc3 => ?_) (fun hc3 => ?_)
    · try (exfalso; first | (simp at hc3; done) | (simp only [decide_eq_true_eq, decide_eq_false_iff_not, Bool.not_eq_true', Bool.not_eq_false', Bool.not_eq_true, Bool.not_eq_false] at hc3; omega) | omega)
      all_goals
       try simp only [decide_eq_true_eq, decide_eq_false_iff_not, Bool.not_eq_true', Bool.not_eq_false', Bool.not_eq_true, Bool.not_eq_false, Option.isNone_none, Option.isNone_some, Option.isSome_none, Option.isSome_some, ne_eq, Decidable.not_not] at hc3
       obtain ⟨x, hx⟩ : ∃ x, V[i]? = some x := ⟨_, List.getElem?_eq_getElem (by omega)⟩
       have hcell := flatMap_get FnV.cells_len hx
       have hxa : l[i]? = some x.f := by rw [← hVl, List.getElem?_map, hx]; rfl
       have hxc := hVc x (List.mem_of_getElem? hx)
       have hx1 := h100 _ (List.mem_of_getElem? hxa)
       obtain ⟨ba, oa, rfl, _⟩ := hV.open (by omega)
       rcases x with ⟨F, fv⟩
       simp only [FnV.cells] at hcell hxa hxc hx1
       obtain ⟨Af, cf, rfl, hcf⟩ := hxc.slice_form
       refine WC.skip ?_
       refine WX.next ?_
       refine WC.seq ?_
       refine WC.block ?_
       refine WC.seq ?_
       refine WC.region ?_
       refine WL.val rfl rfl rfl rfl (r_move rfl (ev_t rfl)) ?_
       refine WL.val rfl rfl rfl rfl (r_move rfl (ev_t rfl)) ?_
       refine WL.val rfl rfl rfl rfl (r_indexAddr rfl (ev_t rfl) (ev_t rfl) elem_22 size_42 (by omega) (by omega)) ?_
       first | refine WL.val rfl rfl rfl rfl (r_field0 rfl (ev_t rfl) fld_42_0) ?_ | refine WL.val rfl rfl rfl rfl (r_fieldAt rfl (ev_t rfl) fld_42_0) ?_
       refine WL.val rfl rfl rfl rfl (r_load rfl (ev_t rfl) flat_3 (Rd.cell (hV.upd hU (fun _ _ _ h => h)) (j := i * 2) (by omega) (hcell 0 _ rfl))) ?_
       refine WL.val rfl rfl rfl rfl (r_build (cs := #[_, _]) (vs := [(0, _)]) rfl ⟨⟨rfl, (ev_t rfl)⟩, trivial⟩ plc_54 zero_54 rfl) ?_
       refine WL.cons (SO.alloc rfl rfl rfl rfl (r_alloc rfl zero_54) ?_)
       intro w1 hu1 hB1 hz1
       have hs1 := hu1.size
       replace hU := hU.trans hu1 (by first | exact (fun _ _ h => h) | exact (fun _ _ h => h.elim) | (intro k hl hk; (try simp only [At, New, Grow, From, No] at hk ⊢); omega) | (intro k hl hk; first | (simp only [At, No] at hk; omega) | (have := hGc k hk; omega) | (have := hG k hk; omega)))
       replace hO := hO.upd hu1 (by first | exact (fun _ _ _ h => h) | (intro k hk hl hS; have := hG k hk; first | (simp only [At, No] at hS; omega) | (have := hGc k hS; omega)))
       replace hW := hW.upd hu1 (by first | exact (fun _ _ h => h.elim) | (intro k hl hk; first | (simp only [At, No] at hk; omega) | (have := hGc k hk; omega)))
       refine WL.cons (SO.store2 rfl (ev_t rfl) (ev_t rfl) size_54 hB1 rfl rfl rfl rfl rfl rfl ?_)
       intro w2 hu2 hB1 hz2
       have hs2 := hu2.size
       replace hU := hU.trans hu2 (by first | exact (fun _ _ h => h) | exact (fun _ _ h => h.elim) | (intro k hl hk; (try simp only [At, New, Grow, From, No] at hk ⊢); omega) | (intro k hl hk; first | (simp only [At, No] at hk; omega) | (have := hGc k hk; omega) | (have := hG k hk; omega)))
       replace hO := hO.upd hu2 (by first | exact (fun _ _ _ h => h) | (intro k hk hl hS; have := hG k hk; first | (simp only [At, No] at hS; omega) | (have := hGc k hS; omega)))
       replace hW := hW.upd hu2 (by first | exact (fun _ _ h => h.elim) | (intro k hl hk; first | (simp only [At, No] at hk; omega) | (have := hGc k hk; omega)))
       refine WL.nil ?_
       refine WX.keep [(0, _), (3, _), (4, _), (5, _)] ⟨rfl, rfl, rfl, rfl, trivial⟩ ?_
       have hbf : Blk w2 wA.heap.size #[.int .i64 F.caps, .slice none 0 0] 54 := hB1
       refine WX.next ?_
       refine WC.seq ?_
       refine WC.seq ?_
       refine WC.region ?_
       refine WL.val rfl rfl rfl rfl (r_assign rfl ev_c) ?_
       refine WL.nil ?_
       refine WX.keep [(0, _), (3, _), (4, _), (5, _), (6, _)] ⟨rfl, rfl, rfl, rfl, rfl, trivial⟩ ?_
       refine WX.next ?_
       refine WC.block ?_
       -- loop 2: live [0, 3, 4, 5, 6]
       refine WC.keep [(0, _), (3, _), (4, _), (5, _), (6, _)] ⟨rfl, rfl, rfl, rfl, rfl, trivial⟩ ?_
       refine WC.loop (fun q E wB => ∃ (j : Nat) (Ac : Option Addr) (cc : Nat) (Gc : Nat → Prop), j ≤ F.code.length ∧ q = F.code.length - j ∧ Upd No w wB ∧ Upd No wA wB ∧ wA.heap.size < wB.heap.size ∧ Blk wB wA.heap.size #[.int .i64 F.caps, .slice Ac j cc] 54 ∧ Own wB Gc 55 4 (.slice Ac j cc) j ((F.code.take j).flatMap insC) ∧ (∀ k, Gc k → wA.heap.size < k ∧ k < wB.heap.size) ∧ Own wB G 54 2 (.slice A2 V2.length c2) V2.length (V2.flatMap FnV.cells) ∧   E = [(0, .slice (some ⟨ba, oa, none⟩) V.length ca), (3, .slice A2 V2.length c2), (4, .int .i64 (i : Int)), (5, .pointer (some ⟨wA.heap.size, 0, none⟩)), (6, .int .i64 (j : Int))]) (F.code.length) ?_ ?_
       · exact ⟨0, none, 0, fun _ => False, by omega, by omega, hU, hW, by omega, hbf, Own.nil _ _ _ _, (fun k h => h.elim), hO, rfl⟩
       · clear hU hW hbf hO
         rintro q E wB ⟨j, Ac, cc, Gc, hj, rfl, hU, hW, hwb, hbf, hc, hGc, hO, rfl⟩
         have hwb2 := hU.size
         refine WC.seq ?_
         refine WC.seq ?_
         refine WC.region ?_
         refine WL.val rfl rfl rfl rfl (r_move rfl (ev_t rfl)) ?_
         refine WL.val rfl rfl rfl rfl (r_move rfl (ev_t rfl)) ?_
         refine WL.val rfl rfl rfl rfl (r_move rfl (ev_t rfl)) ?_
         refine WL.val rfl rfl rfl rfl (r_indexAddr rfl (ev_t rfl) (ev_t rfl) elem_22 size_42 (by omega) (by omega)) ?_
         first | refine WL.val rfl rfl rfl rfl (r_field0 rfl (ev_t rfl) fld_42_1) ?_ | refine WL.val rfl rfl rfl rfl (r_fieldAt rfl (ev_t rfl) fld_42_1) ?_
         refine WL.val rfl rfl rfl rfl (r_load rfl (ev_t rfl) flat_40 (Rd.cell (hV.upd hU (fun _ _ _ h => h)) (j := i * 2 + 1) (by omega) (hcell 1 _ rfl))) ?_
         refine WL.val rfl rfl rfl rfl (r_lenSlice (ts := #[]) rfl (ev_t rfl) elem_40) ?_
         refine WL.val rfl rfl rfl rfl (r_lss rfl (ev_t rfl) (ev_t rfl)) ?_
         refine WL.nil ?_
         refine WX.keep [(0, _), (3, _), (4, _), (5, _), (6, _), (27, _)] ⟨rfl, rfl, rfl, rfl, rfl, rfl, trivial⟩ ?_
         refine WX.next ?_
         refine WC.cond rfl (ev_t rfl) (fun hc7 => ?_) (fun hc7 => ?_)
         · try (exfalso; first | (simp at hc7; done) | (simp only [decide_eq_true_eq, decide_eq_false_iff_not, Bool.not_eq_true', Bool.not_eq_false', Bool.not_eq_true, Bool.not_eq_false] at hc7; omega) | omega)
           all_goals
            try simp only [decide_eq_true_eq, decide_eq_false_iff_not, Bool.not_eq_true', Bool.not_eq_false', Bool.not_eq_true, Bool.not_eq_false, Option.isNone_none, Option.isNone_some, Option.isSome_none, Option.isSome_some, ne_eq, Decidable.not_not] at hc7
            obtain ⟨y, hy⟩ : ∃ y, F.code[j]? = some y := ⟨_, List.getElem?_eq_getElem (by omega)⟩
            have hyc := flatMap_get insC_len hy
            obtain ⟨bc, oc, rfl, _⟩ := hxc.open (by omega)
            refine WC.skip ?_
            refine WX.next ?_
            refine WC.seq ?_
            refine WC.block ?_
            refine WC.seq ?_
            refine WC.region ?_
            refine WL.val rfl rfl rfl rfl (r_move rfl (ev_t rfl)) ?_
            refine WL.val rfl rfl rfl rfl (r_move rfl (ev_t rfl)) ?_
            refine WL.val rfl rfl rfl rfl (r_indexAddr rfl (ev_t rfl) (ev_t rfl) elem_22 size_42 (by omega) (by omega)) ?_
            first | refine WL.val rfl rfl rfl rfl (r_field0 rfl (ev_t rfl) fld_42_1) ?_ | refine WL.val rfl rfl rfl rfl (r_fieldAt rfl (ev_t rfl) fld_42_1) ?_
            refine WL.val rfl rfl rfl rfl (r_load rfl (ev_t rfl) flat_40 (Rd.cell (hV.upd hU (fun _ _ _ h => h)) (j := i * 2 + 1) (by omega) (hcell 1 _ rfl))) ?_
            refine WL.val rfl rfl rfl rfl (r_move rfl (ev_t rfl)) ?_
            refine WL.val rfl rfl rfl rfl (r_indexAddr rfl (ev_t rfl) (ev_t rfl) elem_40 size_44 (by omega) (by omega)) ?_
            refine WL.val rfl rfl rfl rfl (r_loadAgg (vs := [_, _, _, _]) rfl (ev_t rfl) agg_44 size_44 (Rd.cellsL (us := [.int .u8 (y.op : Int), .int .i64 y.n, .int .i64 y.a, .string ⟨y.s.toArray⟩]) (hxc.upd hU (fun _ _ _ h => h)) (i := j * 4) (by omega) hyc)) ?_
            refine WL.cons (SO.alloc rfl rfl rfl rfl (r_alloc rfl zero_44) ?_)
            intro w3 hu3 hB3 hz3
            have hs3 := hu3.size
            replace hU := hU.trans hu3 (by first | exact (fun _ _ h => h) | exact (fun _ _ h => h.elim) | (intro k hl hk; (try simp only [At, New, Grow, From, No] at hk ⊢); omega) | (intro k hl hk; first | (simp only [At, No] at hk; omega) | (have := hGc k hk; omega) | (have := hG k hk; omega)))
            replace hO := hO.upd hu3 (by first | exact (fun _ _ _ h => h) | (intro k hk hl hS; have := hG k hk; first | (simp only [At, No] at hS; omega) | (have := hGc k hS; omega)))
            replace hW := hW.upd hu3 (by first | exact (fun _ _ h => h.elim) | (intro k hl hk; first | (simp only [At, No] at hk; omega) | (have := hGc k hk; omega)))
            replace hbf := hbf.upd hu3 (by first | exact (fun h => h) | (simp only [At, No]; omega) | (exact fun h => by have := hGc _ h; omega) | (exact fun h => by have := hG _ h; omega))
            replace hc := hc.upd hu3 (by first | exact (fun _ _ _ h => h) | (intro k hk hl hS; have := hGc k hk; simp only [At, No] at hS; omega))
            refine WL.cons (SO.storeAll (us := [_, _, _, _]) rfl (ev_t rfl) (ev_t rfl) size_44 hB3 rfl rfl rfl rfl rfl ?_)
            intro w4 hu4 hB3 hz4
            have hs4 := hu4.size
            replace hU := hU.trans hu4 (by first | exact (fun _ _ h => h) | exact (fun _ _ h => h.elim) | (intro k hl hk; (try simp only [At, New, Grow, From, No] at hk ⊢); omega) | (intro k hl hk; first | (simp only [At, No] at hk; omega) | (have := hGc k hk; omega) | (have := hG k hk; omega)))
            replace hO := hO.upd hu4 (by first | exact (fun _ _ _ h => h) | (intro k hk hl hS; have := hG k hk; first | (simp only [At, No] at hS; omega) | (have := hGc k hS; omega)))
            replace hW := hW.upd hu4 (by first | exact (fun _ _ h => h.elim) | (intro k hl hk; first | (simp only [At, No] at hk; omega) | (have := hGc k hk; omega)))
            replace hbf := hbf.upd hu4 (by first | exact (fun h => h) | (simp only [At, No]; omega) | (exact fun h => by have := hGc _ h; omega) | (exact fun h => by have := hG _ h; omega))
            replace hc := hc.upd hu4 (by first | exact (fun _ _ _ h => h) | (intro k hk hl hS; have := hGc k hk; simp only [At, No] at hS; omega))
            refine WL.nil ?_
            refine WX.keep [(0, _), (3, _), (4, _), (5, _), (6, _), (7, _)] ⟨rfl, rfl, rfl, rfl, rfl, rfl, trivial⟩ ?_
            have hby : Blk w4 wB.heap.size #[.int .u8 (y.op : Int), .int .i64 y.n, .int .i64 y.a, .string ⟨y.s.toArray⟩] 44 := hB3
            refine WX.next ?_
            refine WC.region ?_
            first | refine WL.val rfl rfl rfl rfl (r_field0 rfl (ev_t rfl) fld_54_1) ?_ | refine WL.val rfl rfl rfl rfl (r_fieldAt rfl (ev_t rfl) fld_54_1) ?_
            refine WL.val rfl rfl rfl rfl (r_load rfl (ev_t rfl) flat_52 (Blk.cell hbf rfl)) ?_
            first | refine WL.val rfl rfl rfl rfl (r_field0 rfl (ev_t rfl) fld_44_0) ?_ | refine WL.val rfl rfl rfl rfl (r_fieldAt rfl (ev_t rfl) fld_44_0) ?_
            refine WL.val rfl rfl rfl rfl (r_load rfl (ev_t rfl) flat_5 (Blk.cell hby rfl)) ?_
            first | refine WL.val rfl rfl rfl rfl (r_field0 rfl (ev_t rfl) fld_44_1) ?_ | refine WL.val rfl rfl rfl rfl (r_fieldAt rfl (ev_t rfl) fld_44_1) ?_
            refine WL.val rfl rfl rfl rfl (r_load rfl (ev_t rfl) flat_2 (Blk.cell hby rfl)) ?_
            first | refine WL.val rfl rfl rfl rfl (r_field0 rfl (ev_t rfl) fld_44_2) ?_ | refine WL.val rfl rfl rfl rfl (r_fieldAt rfl (ev_t rfl) fld_44_2) ?_
            refine WL.val rfl rfl rfl rfl (r_load rfl (ev_t rfl) flat_3 (Blk.cell hby rfl)) ?_
            first | refine WL.val rfl rfl rfl rfl (r_field0 rfl (ev_t rfl) fld_44_3) ?_ | refine WL.val rfl rfl rfl rfl (r_fieldAt rfl (ev_t rfl) fld_44_3) ?_
            refine WL.val rfl rfl rfl rfl (r_load rfl (ev_t rfl) flat_9 (Blk.cell hby rfl)) ?_
            refine WL.val rfl rfl rfl rfl (r_build (cs := #[_, _, _, _]) (vs := [(0, _), (1, _), (2, _), (3, _)]) rfl ⟨⟨rfl, (ev_t rfl)⟩, ⟨rfl, (ev_t rfl)⟩, ⟨rfl, (ev_t rfl)⟩, ⟨rfl, (ev_t rfl)⟩, trivial⟩ plc_55 zero_55 rfl) ?_
            refine WL.cons (SO.alloc rfl rfl rfl rfl (r_buildSlice (cs := #[_, _, _, _]) (vs := [(0, _)]) rfl ⟨⟨rfl, (ev_t rfl)⟩, trivial⟩ row_52 rfl rfl) ?_)
            intro w5 hu5 hB5 hz5
            have hs5 := hu5.size
            replace hU := hU.trans hu5 (by first | exact (fun _ _ h => h) | exact (fun _ _ h => h.elim) | (intro k hl hk; (try simp only [At, New, Grow, From, No] at hk ⊢); omega) | (intro k hl hk; first | (simp only [At, No] at hk; omega) | (have := hGc k hk; omega) | (have := hG k hk; omega)))
            replace hO := hO.upd hu5 (by first | exact (fun _ _ _ h => h) | (intro k hk hl hS; have := hG k hk; first | (simp only [At, No] at hS; omega) | (have := hGc k hS; omega)))
            replace hW := hW.upd hu5 (by first | exact (fun _ _ h => h.elim) | (intro k hl hk; first | (simp only [At, No] at hk; omega) | (have := hGc k hk; omega)))
            replace hbf := hbf.upd hu5 (by first | exact (fun h => h) | (simp only [At, No]; omega) | (exact fun h => by have := hGc _ h; omega) | (exact fun h => by have := hG _ h; omega))
            replace hc := hc.upd hu5 (by first | exact (fun _ _ _ h => h) | (intro k hk hl hS; have := hGc k hk; simp only [At, No] at hS; omega))
            replace hby := hby.upd hu5 (by first | exact (fun h => h) | (simp only [At, No]; omega) | (exact fun h => by have := hGc _ h; omega))
            refine WL.cons (SO.append hc (Rd.of_blk (F := At _) (n := 1) (sz := 4) hB5 rfl rfl (by omega)) row_52 (by intro u hu; simp only [List.mem_cons, List.not_mem_nil, or_false, Array.toList] at hu; rcases hu with rfl | rfl | rfl | rfl <;> rfl) (le_maxLen (by omega)) (by omega) rfl (ev_t rfl) (ev_t rfl) rfl rfl rfl rfl ?_)
            intro v6 w6 hc2 hu6
            have hs6 := hu6.size
            replace hU := hU.trans hu6 (by first | exact (fun _ _ h => h) | exact (fun _ _ h => h.elim) | (intro k hl hk; (try simp only [At, New, Grow, From, No] at hk ⊢); omega) | (intro k hl hk; first | (simp only [At, No] at hk; omega) | (have := hGc k hk; omega) | (have := hG k hk; omega)))
            replace hO := hO.upd hu6 (by first | exact (fun _ _ _ h => h) | (intro k hk hl hS; have := hG k hk; first | (simp only [At, No] at hS; omega) | (have := hGc k hS; omega)))
            replace hW := hW.upd hu6 (by first | exact (fun _ _ h => h.elim) | (intro k hl hk; first | (simp only [At, No] at hk; omega) | (have := hGc k hk; omega)))
            replace hbf := hbf.upd hu6 (by first | exact (fun h => h) | (simp only [At, No]; omega) | (exact fun h => by have := hGc _ h; omega) | (exact fun h => by have := hG _ h; omega))
            replace hby := hby.upd hu6 (by first | exact (fun h => h) | (simp only [At, No]; omega) | (exact fun h => by have := hGc _ h; omega))
            obtain ⟨A6, c6, rfl, hc6⟩ := Own.form hc2
            first | refine WL.val rfl rfl rfl rfl (r_field0 rfl (ev_t rfl) fld_54_1) ?_ | refine WL.val rfl rfl rfl rfl (r_fieldAt rfl (ev_t rfl) fld_54_1) ?_
            refine WL.cons (SO.store rfl (ev_t rfl) (ev_t rfl) size_52 hbf rfl rfl rfl rfl rfl ?_)
            intro w7 hu7 hbf hz7
            have hs7 := hu7.size
            replace hU := hU.trans hu7 (by first | exact (fun _ _ h => h) | exact (fun _ _ h => h.elim) | (intro k hl hk; (try simp only [At, New, Grow, From, No] at hk ⊢); omega) | (intro k hl hk; first | (simp only [At, No] at hk; omega) | (have := hGc k hk; omega) | (have := hG k hk; omega)))
            replace hO := hO.upd hu7 (by first | exact (fun _ _ _ h => h) | (intro k hk hl hS; have := hG k hk; first | (simp only [At, No] at hS; omega) | (have := hGc k hS; omega)))
            replace hW := hW.upd hu7 (by first | exact (fun _ _ h => h.elim) | (intro k hl hk; first | (simp only [At, No] at hk; omega) | (have := hGc k hk; omega)))
            replace hby := hby.upd hu7 (by first | exact (fun h => h) | (simp only [At, No]; omega) | (exact fun h => by have := hGc _ h; omega))
            replace hc2 := hc2.upd hu7 (by first | exact (fun _ _ _ h => h) | (intro k hk hl hS; simp only [At, No] at hS; rcases hk with hk | hk; (have := hGc k hk; omega); omega))
            refine WL.nil ?_
            refine WX.keep [(0, _), (3, _), (4, _), (5, _), (6, _)] ⟨rfl, rfl, rfl, rfl, rfl, trivial⟩ ?_
            refine WX.blockNormal ?_
            refine WX.next ?_
            refine WC.region ?_
            refine WL.val rfl rfl rfl rfl (r_move rfl (ev_t rfl)) ?_
            first | refine WL.val rfl rfl rfl rfl (r_addN rfl (ev_t rfl) ev_c (by simp only [inK]; omega)) ?_ | refine WL.val rfl rfl rfl rfl (r_add rfl (ev_t rfl) ev_c) ?_
            refine WL.val rfl rfl rfl rfl (r_assign rfl (ev_t rfl)) ?_
            refine WL.nil ?_
            refine WX.keep [(0, _), (3, _), (4, _), (5, _), (6, _)] ⟨rfl, rfl, rfl, rfl, rfl, trivial⟩ ?_
            refine WX.meet [(0, _), (3, _), (4, _), (5, _), (6, _)] ⟨rfl, rfl, rfl, rfl, rfl, trivial⟩ ?_
            refine ⟨F.code.length - (j + 1), by omega, j + 1, _, _, _, by omega, rfl, hU, hW, by omega, hbf, Own.cast hc2 (show (F.code.take j).flatMap insC ++ insC y = _ from (take_ins hy).symm), fun k hk => ?_, hO, rfl⟩
            rcases hk with hk | hk
            · have := hGc k hk; omega
            · omega
         · try (exfalso; first | (simp at hc7; done) | (simp only [decide_eq_true_eq, decide_eq_false_iff_not, Bool.not_eq_true', Bool.not_eq_false', Bool.not_eq_true, Bool.not_eq_false] at hc7; omega) | omega)
           all_goals
            try simp only [decide_eq_true_eq, decide_eq_false_iff_not, Bool.not_eq_true', Bool.not_eq_false', Bool.not_eq_true, Bool.not_eq_false, Option.isNone_none, Option.isNone_some, Option.isSome_none, Option.isSome_some, ne_eq, Decidable.not_not] at hc7
            obtain rfl : j = F.code.length := by omega
            rw [List.take_length] at hc
            refine WC.exit ?_
            refine WX.thenExit ?_
            refine WX.thenExit ?_
            refine WX.blockHere ?_
            refine WX.next ?_
            refine WC.region ?_
            refine WL.val rfl rfl rfl rfl (r_move rfl (ev_t rfl)) ?_
            refine WL.val rfl rfl rfl rfl (r_loadAgg (vs := [_, _]) rfl (ev_t rfl) agg_54 size_54 (Blk.cellsL hbf)) ?_
            refine WL.cons (SO.alloc rfl rfl rfl rfl (r_buildSlice (cs := #[_, _]) (vs := [(0, _)]) rfl ⟨⟨rfl, (ev_t rfl)⟩, trivial⟩ row_27 rfl rfl) ?_)
            intro w8 hu8 hB8 hz8
            have hs8 := hu8.size
            replace hU := hU.trans hu8 (by first | exact (fun _ _ h => h) | exact (fun _ _ h => h.elim) | (intro k hl hk; (try simp only [At, New, Grow, From, No] at hk ⊢); omega) | (intro k hl hk; first | (simp only [At, No] at hk; omega) | (have := hGc k hk; omega) | (have := hG k hk; omega)))
            replace hO := hO.upd hu8 (by first | exact (fun _ _ _ h => h) | (intro k hk hl hS; have := hG k hk; first | (simp only [At, No] at hS; omega) | (have := hGc k hS; omega)))
            replace hW := hW.upd hu8 (by first | exact (fun _ _ h => h.elim) | (intro k hl hk; first | (simp only [At, No] at hk; omega) | (have := hGc k hk; omega)))
            replace hbf := hbf.upd hu8 (by first | exact (fun h => h) | (simp only [At, No]; omega) | (exact fun h => by have := hGc _ h; omega) | (exact fun h => by have := hG _ h; omega))
            replace hc := hc.upd hu8 (by first | exact (fun _ _ _ h => h) | (intro k hk hl hS; have := hGc k hk; simp only [At, No] at hS; omega))
            have hcr := hc.rd (by omega)
            have hW8 := hW
            have hs8 := hW8.size
            refine WL.cons (SO.append hO (Rd.of_blk (F := At _) (n := 1) (sz := 2) hB8 rfl rfl (by omega)) row_27 (by intro u hu; simp only [List.mem_cons, List.not_mem_nil, or_false, Array.toList] at hu; rcases hu with rfl | rfl <;> rfl) (le_maxLen (by omega)) (by omega) rfl (ev_t rfl) (ev_t rfl) rfl rfl rfl rfl ?_)
            intro v9 w9 hO2 hu9
            have hs9 := hu9.size
            replace hU := hU.trans hu9 (by first | exact (fun _ _ h => h) | exact (fun _ _ h => h.elim) | (intro k hl hk; (try simp only [At, New, Grow, From, No] at hk ⊢); omega) | (intro k hl hk; first | (simp only [At, No] at hk; omega) | (have := hGc k hk; omega) | (have := hG k hk; omega)))
            replace hbf := hbf.upd hu9 (by first | exact (fun h => h) | (simp only [At, No]; omega) | (exact fun h => by have := hGc _ h; omega) | (exact fun h => by have := hG _ h; omega))
            replace hcr := hcr.upd hu9 (by first | exact (fun _ _ _ h => h) | (intro k hk hl hS; have := hGc k hk; have := hG k hS; omega))
            obtain ⟨A9, c9, rfl, hc9⟩ := Own.form hO2
            have hap := hu9
            refine WL.val rfl rfl rfl rfl (r_assign rfl (ev_t rfl)) ?_
            refine WL.nil ?_
            refine WX.keep [(0, _), (3, _), (4, _)] ⟨rfl, rfl, rfl, trivial⟩ ?_
            refine WX.blockNormal ?_
            refine WX.next ?_
            refine WC.region ?_
            refine WL.val rfl rfl rfl rfl (r_move rfl (ev_t rfl)) ?_
            first | refine WL.val rfl rfl rfl rfl (r_addN rfl (ev_t rfl) ev_c (by simp only [inK]; omega)) ?_ | refine WL.val rfl rfl rfl rfl (r_add rfl (ev_t rfl) ev_c) ?_
            refine WL.val rfl rfl rfl rfl (r_assign rfl (ev_t rfl)) ?_
            refine WL.nil ?_
            refine WX.keep [(0, _), (3, _), (4, _)] ⟨rfl, rfl, rfl, trivial⟩ ?_
            refine WX.meet [(0, _), (3, _), (4, _)] ⟨rfl, rfl, rfl, trivial⟩ ?_
            have hs9 := hap.size
            obtain ⟨nx, hnx⟩ : ∃ nx : FnV, nx = ⟨F, .slice Ac F.code.length cc⟩ := ⟨_, rfl⟩
            have hml : (V2 ++ [nx]).map FnV.f = l.take (i + 1) := by rw [List.map_append, hV2l, List.take_add_one, hxa, hnx]; rfl
            have hfl : V2.flatMap FnV.cells ++ nx.cells = (V2 ++ [nx]).flatMap FnV.cells := by rw [List.flatMap_append, List.flatMap_singleton]
            have hO3 := Own.cast hO2 (show V2.flatMap FnV.cells ++ FnV.cells ⟨F, .slice Ac F.code.length cc⟩ = (V2 ++ [nx]).flatMap FnV.cells from by rw [← hnx]; exact hfl)
            refine ⟨V.length - (i + 1), by omega, i + 1, V2 ++ [nx], A9, c9, _, fun k => C k ∨ Gc k, by omega, rfl, hU, by simp [hV2], hml, by rw [List.length_append]; exact hO3, fun x hx => ?_, fun k hk => ?_, fun k hk => ?_, by rw [List.length_append]; rfl⟩
            · rcases List.mem_append.1 hx with hx | hx
              · exact (((hD x hx).upd hW8 (fun _ _ _ h => h)).upd hap (fun k hk _ hS => (hC k hk).2.2 hS)).mono fun k hk => .inl hk
              · rw [List.mem_singleton] at hx
                subst hx
                rw [hnx]
                exact hcr.mono fun k hk => .inr hk
            · rcases hk with hk | hk
              · have := hG k hk; omega
              · omega
            · rcases hk with hk | hk
              · have := hC k hk
                exact ⟨by omega, by omega, fun h => h.elim this.2.2 (fun h => by omega)⟩
              · have := hGc k hk
                exact ⟨by omega, by omega, fun h => h.elim (fun h => by have := hG k h; omega) (fun h => by omega)⟩
    · try (exfalso; first | (simp at hc3; done) | (simp only [decide_eq_true_eq, decide_eq_false_iff_not, Bool.not_eq_true', Bool.not_eq_false', Bool.not_eq_true, Bool.not_eq_false] at hc3; omega) | omega)
      all_goals
       try simp only [decide_eq_true_eq, decide_eq_false_iff_not, Bool.not_eq_true', Bool.not_eq_false', Bool.not_eq_true, Bool.not_eq_false, Option.isNone_none, Option.isNone_some, Option.isSome_none, Option.isSome_some, ne_eq, Decidable.not_not] at hc3
       obtain rfl : i = V.length := by omega
       refine WC.exit ?_
       refine WX.thenExit ?_
       refine WX.thenExit ?_
       refine WX.blockHere ?_
       refine WX.next ?_
       refine WC.seq ?_
       refine WC.region ?_
       refine WL.val rfl rfl rfl rfl (r_move rfl (ev_t rfl)) ?_
       refine WL.val rfl rfl rfl rfl (r_assign rfl (ev_t rfl)) ?_
       refine WL.nil ?_
       refine WX.keep [(2, _)] ⟨rfl, trivial⟩ ?_
       refine WX.next ?_
       refine WC.ret ?_
       refine WX.retE1 rfl rfl ?_
       refine ⟨⟨V2, (hO.rd (by omega)).mono (fun k hk => by have := hG k hk; exact ⟨by omega, by omega⟩), fun x hx => (hD x hx).mono fun k hk => by have := hC k hk; exact ⟨by omega, by omega⟩, by rw [hV2l, hVn, List.take_length]⟩, hU⟩
end Go.Proofs.YtipabhbnljadfaaDoor
