/-
  code: can functions run? law 08: the example; too many instructions; functions as the reference has them.
-/
import Derived.Test.YtipabhbnljadfaaDoorCoc
namespace Go.Proofs.YtipabhbnljadfaaDoor
open Go
set_option linter.unusedSimpArgs false
set_option linter.unusedVariables false

set_option maxHeartbeats 1000000 in
theorem Check_ok {w : World} {H : Nat → Prop} {allv : Value} {all : List Fn} {globs : Int} (hTk : Tk w) (hall : IsFs w H allv all) (hok : OKs all) (hlen : ∀ f ∈ all, f.code.length ≤ 1000) :
    Ret Tryd.prog 8 #[allv, .int .i64 globs] w fun u w' => (∃ b, u = .bool b ∧ (b = true ↔ (PosAll all ∧ ∀ f ∈ all, GoodF f all globs))) ∧ Upd No w w' := by
  have hall' := hall
  obtain ⟨V, hV, hVc, hVl⟩ := hall'
  obtain ⟨Aa, ca, rfl, hca⟩ := hV.slice_form
  have hVm := hV.le
  have hVn : V.length = all.length := by rw [← hVl, List.length_map]
  refine enterRet (vs := [_, _]) (N := 19) Tryd.func8 rfl rfl rfl ?_
  have hU := Upd.refl No w
  refine WC.keep [(0, _), (1, _)] ⟨rfl, rfl, trivial⟩ ?_
  refine WC.seq ?_
  refine WC.region ?_
  refine WL.val rfl rfl rfl rfl (r_assign rfl ev_c) ?_
  refine WL.nil ?_
  refine WX.keep [(0, _), (1, _)] ⟨rfl, rfl, trivial⟩ ?_
  refine WX.next ?_
  refine WC.seq ?_
  refine WC.seq ?_
  refine WC.region ?_
  refine WL.val rfl rfl rfl rfl (r_move rfl (ev_t rfl)) ?_
  refine WL.val rfl rfl rfl rfl (r_lenSlice (ts := #[]) rfl (ev_t rfl) elem_22) ?_
  refine WL.val rfl rfl rfl rfl (r_move rfl ev_c) ?_
  refine WL.nil ?_
  refine WX.keep [(0, _), (1, _), (7, _), (8, _), (9, _)] ⟨rfl, rfl, rfl, rfl, rfl, trivial⟩ ?_
  refine WX.next ?_
  refine WC.block ?_
  -- loop 1: live [0, 1, 7, 8, 9]
  refine WC.keep [(0, _), (1, _), (7, _), (8, _), (9, _)] ⟨rfl, rfl, rfl, rfl, rfl, trivial⟩ ?_
  refine WC.loop (fun q E w' => ∃ i : Nat, i ≤ V.length ∧ q = V.length - i ∧ Upd No w w' ∧ (∀ (k : Nat) (f : Fn), all[k]? = some f → k < i → 0 ≤ f.caps ∧ (PosAll all → GoodF f all globs)) ∧   E = [(0, .slice Aa V.length ca), (1, .int .i64 globs), (7, .slice Aa V.length ca), (8, .int .i64 (V.length : Int)), (9, .int .i64 (i : Int))]) (V.length) ?_ ?_
  · exact ⟨0, by omega, by omega, hU, (fun k f _ h => by omega), rfl⟩
  · clear hU
    rintro q E w' ⟨i, hi, rfl, hU, hdone, rfl⟩
    have hw0 := hU.size
    refine WC.seq ?_
    refine WC.region ?_
    refine WL.val rfl rfl rfl rfl (r_lss rfl (ev_t rfl) (ev_t rfl)) ?_
    refine WL.nil ?_
    refine WX.keep [(0, _), (1, _), (7, _), (8, _), (9, _), (10, _)] ⟨rfl, rfl, rfl, rfl, rfl, rfl, trivial⟩ ?_
    refine WX.next ?_
    refine WC.seq ?_
    refine WC.cond rfl (ev_t rfl) (fun hc2 => ?_) (fun hc2 => ?_)
    · try (exfalso; first | (simp at hc2; done) | (simp only [decide_eq_true_eq, decide_eq_false_iff_not, Bool.not_eq_true', Bool.not_eq_false', Bool.not_eq_true, Bool.not_eq_false] at hc2; omega) | omega)
      all_goals
       try simp only [decide_eq_true_eq, decide_eq_false_iff_not, Bool.not_eq_true', Bool.not_eq_false', Bool.not_eq_true, Bool.not_eq_false, Option.isNone_none, Option.isNone_some, Option.isSome_none, Option.isSome_some, ne_eq, Decidable.not_not] at hc2
       obtain ⟨x, hx⟩ : ∃ x, V[i]? = some x := ⟨_, List.getElem?_eq_getElem (by omega)⟩
       have hcell := flatMap_get FnV.cells_len hx
       have hxa : all[i]? = some x.f := by rw [← hVl, List.getElem?_map, hx]; rfl
       have hxc := hVc x (List.mem_of_getElem? hx)
       have hxo := hok _ (List.mem_of_getElem? hxa)
       have hxl := hlen _ (List.mem_of_getElem? hxa)
       obtain ⟨ba, oa, rfl, _⟩ := hV.open (by omega)
       rcases x with ⟨F, fv⟩
       simp only [FnV.cells] at hcell hxa hxc hxo hxl
       obtain ⟨Af, cf, rfl, hcf⟩ := hxc.slice_form
       refine WC.skip ?_
       refine WX.next ?_
       refine WC.seq ?_
       refine WC.block ?_
       refine WC.seq ?_
       refine WC.region ?_
       refine WL.val rfl rfl rfl rfl (r_indexAddr rfl (ev_t rfl) (ev_t rfl) elem_22 size_42 (by omega) (by omega)) ?_
       refine WL.val rfl rfl rfl rfl (r_loadAgg (vs := [_, _]) rfl (ev_t rfl) agg_42 size_42 (Rd.cellsL (us := [.int .i64 F.caps, .slice Af F.code.length cf]) (hV.upd hU (fun _ _ _ h => h)) (i := i * 2) (by omega) hcell)) ?_
       refine WL.cons (SO.alloc rfl rfl rfl rfl (r_alloc rfl zero_42) ?_)
       intro w1 hu1 hB1 hz1
       have hs1 := hu1.size
       replace hU := hU.trans hu1 (by first | exact (fun _ _ h => h) | exact (fun _ _ h => h.elim) | (intro k hl hk; (try simp only [At, New, Grow, From, No] at hk ⊢); omega) | (intro k hl hk; simp only [At, No] at hk; omega))
       refine WL.cons (SO.store2 rfl (ev_t rfl) (ev_t rfl) size_42 hB1 rfl rfl rfl rfl rfl rfl ?_)
       intro w2 hu2 hB1 hz2
       have hs2 := hu2.size
       replace hU := hU.trans hu2 (by first | exact (fun _ _ h => h) | exact (fun _ _ h => h.elim) | (intro k hl hk; (try simp only [At, New, Grow, From, No] at hk ⊢); omega) | (intro k hl hk; simp only [At, No] at hk; omega))
       refine WL.nil ?_
       refine WX.keep [(0, _), (1, _), (6, _), (7, _), (8, _), (9, _)] ⟨rfl, rfl, rfl, rfl, rfl, rfl, trivial⟩ ?_
       refine WX.next ?_
       refine WC.seq ?_
       refine WC.region ?_
       refine WL.val rfl rfl rfl rfl (r_loadAgg (vs := [_, _]) rfl (ev_t rfl) agg_42 size_42 (Blk.cellsL hB1)) ?_
       refine WL.val rfl rfl rfl rfl (r_move rfl (ev_t rfl)) ?_
       refine WL.val rfl rfl rfl rfl (r_move rfl (ev_t rfl)) ?_
       refine WL.cons (SO.call (check_ok (F := F) (hTk.upd hU) hxo.1 hxo.2 (hxc.upd hU (fun _ _ _ h => h)) (hall.upd hU (fun _ _ _ h => h)) hxl) rfl body_20 ⟨(ev_t rfl), (ev_t rfl), (ev_t rfl), trivial⟩ rfl rfl rfl rfl ?_)
       rintro v w3 ⟨⟨b, rfl, hb1, hb2⟩, hu3⟩
       have hs3 := hu3.size
       replace hU := hU.trans hu3 (by first | exact (fun _ _ h => h) | exact (fun _ _ h => h.elim) | (intro k hl hk; (try simp only [At, New, Grow, From, No] at hk ⊢); omega) | (intro k hl hk; simp only [At, No] at hk; omega))
       replace hB1 := hB1.updA hu3
       refine WL.val rfl rfl rfl rfl (r_not rfl (ev_t rfl)) ?_
       refine WL.nil ?_
       refine WX.keep [(0, _), (1, _), (7, _), (8, _), (9, _), (17, _)] ⟨rfl, rfl, rfl, rfl, rfl, rfl, trivial⟩ ?_
       refine WX.next ?_
       refine WC.cond rfl (ev_t rfl) (fun hc4 => ?_) (fun hc4 => ?_)
       · try (exfalso; first | (simp at hc4; done) | (simp only [decide_eq_true_eq, decide_eq_false_iff_not, Bool.not_eq_true', Bool.not_eq_false', Bool.not_eq_true, Bool.not_eq_false] at hc4; omega) | omega)
         all_goals
          try simp only [decide_eq_true_eq, decide_eq_false_iff_not, Bool.not_eq_true', Bool.not_eq_false', Bool.not_eq_true, Bool.not_eq_false, Option.isNone_none, Option.isNone_some, Option.isSome_none, Option.isSome_some, ne_eq, Decidable.not_not] at hc4
          refine WC.seq ?_
          refine WC.region ?_
          refine WL.val rfl rfl rfl rfl (r_assign rfl ev_c) ?_
          refine WL.nil ?_
          refine WX.keep [(4, _)] ⟨rfl, trivial⟩ ?_
          refine WX.next ?_
          refine WC.ret ?_
          refine WX.blockRet ?_
          refine WX.thenRet ?_
          refine WX.thenRet ?_
          refine WX.blockRet ?_
          refine WX.thenRet ?_
          refine WX.retE1 rfl rfl ?_
          refine ⟨⟨false, rfl, (fun h => by cases h), fun ⟨hp, hg⟩ => ?_⟩, hU⟩
          have h1 := hp F (List.mem_of_getElem? hxa)
          rw [hc4] at hb2
          exact (hb2 hp h1).2 (hg F (List.mem_of_getElem? hxa))
       · try (exfalso; first | (simp at hc4; done) | (simp only [decide_eq_true_eq, decide_eq_false_iff_not, Bool.not_eq_true', Bool.not_eq_false', Bool.not_eq_true, Bool.not_eq_false] at hc4; omega) | omega)
         all_goals
          try simp only [decide_eq_true_eq, decide_eq_false_iff_not, Bool.not_eq_true', Bool.not_eq_false', Bool.not_eq_true, Bool.not_eq_false, Option.isNone_none, Option.isNone_some, Option.isSome_none, Option.isSome_some, ne_eq, Decidable.not_not] at hc4
          refine WC.skip ?_
          refine WX.blockNormal ?_
          refine WX.next ?_
          refine WC.region ?_
          first | refine WL.val rfl rfl rfl rfl (r_addN rfl (ev_t rfl) ev_c (by simp only [inK]; omega)) ?_ | refine WL.val rfl rfl rfl rfl (r_add rfl (ev_t rfl) ev_c) ?_
          refine WL.val rfl rfl rfl rfl (r_move rfl (ev_t rfl)) ?_
          refine WL.nil ?_
          refine WX.keep [(0, _), (1, _), (7, _), (8, _), (9, _)] ⟨rfl, rfl, rfl, rfl, rfl, trivial⟩ ?_
          refine WX.meet [(0, _), (1, _), (7, _), (8, _), (9, _)] ⟨rfl, rfl, rfl, rfl, rfl, trivial⟩ ?_
          refine ⟨V.length - (i + 1), by omega, i + 1, by omega, rfl, hU, fun k f hk hki => ?_, rfl⟩
          rcases Nat.lt_or_ge k i with h | h
          · exact hdone k f hk h
          · obtain rfl : k = i := by omega
            rw [hxa] at hk
            have := Option.some.inj hk
            subst this
            have hc0 : 0 ≤ F.caps := Int.not_lt.1 fun h => by rw [hb1 h] at hc4; cases hc4
            exact ⟨hc0, fun hp => (hb2 hp hc0).1 hc4⟩
    · try (exfalso; first | (simp at hc2; done) | (simp only [decide_eq_true_eq, decide_eq_false_iff_not, Bool.not_eq_true', Bool.not_eq_false', Bool.not_eq_true, Bool.not_eq_false] at hc2; omega) | omega)
      all_goals
       try simp only [decide_eq_true_eq, decide_eq_false_iff_not, Bool.not_eq_true', Bool.not_eq_false', Bool.not_eq_true, Bool.not_eq_false, Option.isNone_none, Option.isNone_some, Option.isSome_none, Option.isSome_some, ne_eq, Decidable.not_not] at hc2
       refine WC.exit ?_
       refine WX.thenExit ?_
       refine WX.thenExit ?_
       refine WX.blockHere ?_
       refine WX.next ?_
       refine WC.seq ?_
       refine WC.region ?_
       refine WL.val rfl rfl rfl rfl (r_assign rfl ev_c) ?_
       refine WL.nil ?_
       refine WX.keep [(4, _)] ⟨rfl, trivial⟩ ?_
       refine WX.next ?_
       refine WC.ret ?_
       refine WX.retE1 rfl rfl ?_
       have hp : PosAll all := fun f hf => by
         obtain ⟨k, hk⟩ := List.mem_iff_getElem?.1 hf
         exact (hdone k f hk (by have := (List.getElem?_eq_some_iff.1 hk).1; omega)).1
       refine ⟨⟨true, rfl, fun _ => ⟨hp, fun f hf => ?_⟩, fun _ => rfl⟩, hU⟩
       obtain ⟨k, hk⟩ := List.mem_iff_getElem?.1 hf
       exact (hdone k f hk (by have := (List.getElem?_eq_some_iff.1 hk).1; omega)).2 hp

def exA : List Fn := [⟨0, [⟨2, 0, 0, []⟩, ⟨8, 0, 0, []⟩]⟩]
def exB : List Fn := [⟨0, [⟨8, 0, 0, []⟩]⟩]
theorem exA_good : PosAll exA ∧ ∀ f ∈ exA, GoodF f exA 0 := by
  refine ⟨fun g hg => by simp [exA] at hg; subst hg; decide, fun f hf => ?_⟩
  simp only [exA, List.mem_singleton] at hf
  subst hf
  refine ⟨fun k => if k = 0 then some (1, 0) else if k = 1 then some (2, 0) else none, rfl, fun k d t hk => ?_⟩
  by_cases h0 : k = 0
  · subst h0
    simp at hk
    obtain ⟨rfl, rfl⟩ := hk
    refine ⟨_, rfl, by decide, fun x hx => ?_⟩
    have e : succsI ⟨2, 0, 0, []⟩ 0 1 0 = [(1, 2, 0)] := by decide
    rw [e, List.mem_singleton] at hx
    subst hx
    exact ⟨by decide, by decide, rfl⟩
  · by_cases h1 : k = 1
    · subst h1
      simp at hk
      obtain ⟨rfl, rfl⟩ := hk
      refine ⟨_, rfl, by decide, fun x hx => ?_⟩
      have e : succsI ⟨8, 0, 0, []⟩ 1 2 0 = [] := by decide
      rw [e] at hx
      cases hx
    · simp [h0, h1] at hk
theorem exB_bad : ¬ (PosAll exB ∧ ∀ f ∈ exB, GoodF f exB 0) := by
  rintro ⟨_, h⟩
  obtain ⟨L, hL⟩ := h ⟨0, [⟨8, 0, 0, []⟩]⟩ (by simp [exB])
  obtain ⟨i, hi, hf, _⟩ := hL.2 0 1 0 hL.1
  simp at hi
  subst hi
  revert hf
  decide
theorem exA_ok : OKs exA ∧ OKs exB := by
  refine ⟨fun f hf => ?_, fun f hf => ?_⟩
  · simp only [exA, List.mem_singleton] at hf
    subst hf
    refine ⟨by simp [inK], fun i hi => ?_⟩
    simp only [List.mem_cons, List.not_mem_nil, or_false] at hi
    rcases hi with rfl | rfl <;> exact ⟨by simp, by simp [inK], by simp [inK], by simp⟩
  · simp only [exB, List.mem_singleton] at hf
    subst hf
    refine ⟨by simp [inK], fun i hi => ?_⟩
    simp only [List.mem_cons, List.not_mem_nil, or_false] at hi
    subst hi
    exact ⟨by simp, by simp [inK], by simp [inK], by simp⟩

set_option maxHeartbeats 1000000 in
theorem awake08_ok {w : World} (hTk : Tk w) : Ret Tryd.prog 6 #[] w fun v w' => v = .bool true ∧ Upd No w w' := by
  refine enterRet (vs := []) (N := 25) Tryd.func6 rfl rfl rfl ?_
  have hU := Upd.refl No w
  refine WC.keep [] trivial ?_
  refine WC.seq ?_
  refine WC.region ?_
  refine WL.val rfl rfl rfl rfl (r_assign rfl ev_c) ?_
  refine WL.nil ?_
  refine WX.keep [] trivial ?_
  refine WX.next ?_
  refine WC.seq ?_
  refine WC.region ?_
  refine WL.val rfl rfl rfl rfl (r_build (cs := #[_, _, _, _]) (vs := [(0, _)]) rfl ⟨⟨rfl, ev_c⟩, trivial⟩ plc_44 zero_44 rfl) ?_
  refine WL.val rfl rfl rfl rfl (r_build (cs := #[_, _, _, _]) (vs := [(0, _)]) rfl ⟨⟨rfl, ev_c⟩, trivial⟩ plc_44 zero_44 rfl) ?_
  refine WL.cons (SO.alloc rfl rfl rfl rfl (r_buildSlice (cs := #[_, _, _, _, _, _, _, _]) (vs := [(0, _), (1, _)]) rfl ⟨⟨rfl, (ev_t rfl)⟩, ⟨rfl, (ev_t rfl)⟩, trivial⟩ row_40 rfl rfl) ?_)
  intro w1 hu1 hB1 hz1
  have hs1 := hu1.size
  replace hU := hU.transA hu1
  skip
  refine WL.val rfl rfl rfl rfl (r_build (cs := #[_, _]) (vs := [(1, _)]) rfl ⟨⟨rfl, (ev_t rfl)⟩, trivial⟩ plc_42 zero_42 rfl) ?_
  refine WL.cons (SO.alloc rfl rfl rfl rfl (r_buildSlice (cs := #[_, _]) (vs := [(0, _)]) rfl ⟨⟨rfl, (ev_t rfl)⟩, trivial⟩ row_22 rfl rfl) ?_)
  intro w2 hu2 hB2 hz2
  have hs2 := hu2.size
  replace hU := hU.transA hu2
  replace hB1 := hB1.upd hu2 (fun h => h)
  refine WL.val rfl rfl rfl rfl (r_assign rfl (ev_t rfl)) ?_
  refine WL.nil ?_
  refine WX.keep [(1, _)] ⟨rfl, trivial⟩ ?_
  have hA : IsFs w2 (fun _ => True) (.slice (some ⟨w1.heap.size, 0, none⟩) 1 1) exA := ⟨[⟨⟨0, [⟨2, 0, 0, []⟩, ⟨8, 0, 0, []⟩]⟩, .slice (some ⟨w.heap.size, 0, none⟩) 2 2⟩], Rd.of_blk (F := fun _ => True) (n := 1) (sz := 2) hB2 trivial rfl (by omega), (fun x hx => by
    simp only [List.mem_singleton] at hx
    subst hx
    exact Rd.of_blk (F := fun _ => True) (n := 2) (sz := 4) hB1 trivial rfl (by omega)), rfl⟩
  refine WX.next ?_
  refine WC.seq ?_
  refine WC.region ?_
  refine WL.val rfl rfl rfl rfl (r_build (cs := #[_, _, _, _]) (vs := [(0, _)]) rfl ⟨⟨rfl, ev_c⟩, trivial⟩ plc_44 zero_44 rfl) ?_
  refine WL.cons (SO.alloc rfl rfl rfl rfl (r_buildSlice (cs := #[_, _, _, _]) (vs := [(0, _)]) rfl ⟨⟨rfl, (ev_t rfl)⟩, trivial⟩ row_40 rfl rfl) ?_)
  intro w3 hu3 hB3 hz3
  have hs3 := hu3.size
  replace hU := hU.transA hu3
  replace hA := hA.upd hu3 (fun _ _ _ h => h)
  skip
  refine WL.val rfl rfl rfl rfl (r_build (cs := #[_, _]) (vs := [(1, _)]) rfl ⟨⟨rfl, (ev_t rfl)⟩, trivial⟩ plc_42 zero_42 rfl) ?_
  refine WL.cons (SO.alloc rfl rfl rfl rfl (r_buildSlice (cs := #[_, _]) (vs := [(0, _)]) rfl ⟨⟨rfl, (ev_t rfl)⟩, trivial⟩ row_22 rfl rfl) ?_)
  intro w4 hu4 hB4 hz4
  have hs4 := hu4.size
  replace hU := hU.transA hu4
  replace hA := hA.upd hu4 (fun _ _ _ h => h)
  replace hB3 := hB3.upd hu4 (fun h => h)
  refine WL.val rfl rfl rfl rfl (r_assign rfl (ev_t rfl)) ?_
  refine WL.nil ?_
  refine WX.keep [(1, _), (2, _)] ⟨rfl, rfl, trivial⟩ ?_
  have hBB : IsFs w4 (fun _ => True) (.slice (some ⟨w3.heap.size, 0, none⟩) 1 1) exB := ⟨[⟨⟨0, [⟨8, 0, 0, []⟩]⟩, .slice (some ⟨w2.heap.size, 0, none⟩) 1 1⟩], Rd.of_blk (F := fun _ => True) (n := 1) (sz := 2) hB4 trivial rfl (by omega), (fun x hx => by
    simp only [List.mem_singleton] at hx
    subst hx
    exact Rd.of_blk (F := fun _ => True) (n := 1) (sz := 4) hB3 trivial rfl (by omega)), rfl⟩
  refine WX.next ?_
  refine WC.seq ?_
  refine WC.region ?_
  refine WL.val rfl rfl rfl rfl (r_move rfl (ev_t rfl)) ?_
  refine WL.cons (SO.call (Check_ok (all := exA) (hTk.upd hU) hA exA_ok.1 (fun f hf => by simp only [exA, List.mem_singleton] at hf; subst hf; simp)) rfl body_8 ⟨(ev_t rfl), ev_c, trivial⟩ rfl rfl rfl rfl ?_)
  rintro v w5 ⟨⟨b, rfl, hb⟩, hu5⟩
  obtain rfl := hb.2 exA_good
  have hs5 := hu5.size
  replace hU := hU.transA hu5
  replace hA := hA.upd hu5 (fun _ _ _ h => h)
  replace hBB := hBB.upd hu5 (fun _ _ _ h => h)
  refine WL.val rfl rfl rfl rfl (r_move rfl (ev_t rfl)) ?_
  refine WL.cases 14 rfl (fun hb3_2 => ?_) (fun hb3_2 => ?_)
  · try (exfalso; first | (simp at hb3_2; done) | (simp only [decide_eq_true_eq, decide_eq_false_iff_not, Bool.not_eq_true', Bool.not_eq_false', Bool.not_eq_true, Bool.not_eq_false] at hb3_2; omega) | omega)
    all_goals
     try simp only [decide_eq_true_eq, decide_eq_false_iff_not, Bool.not_eq_true', Bool.not_eq_false', Bool.not_eq_true, Bool.not_eq_false, Option.isNone_none, Option.isNone_some, Option.isSome_none, Option.isSome_some, ne_eq, Decidable.not_not] at hb3_2
     refine WL.val rfl rfl rfl rfl (r_move rfl (ev_t rfl)) ?_
     refine WL.cons (SO.call (Check_ok (all := exB) (hTk.upd hU) hBB exA_ok.2 (fun f hf => by simp only [exB, List.mem_singleton] at hf; subst hf; simp)) rfl body_8 ⟨(ev_t rfl), ev_c, trivial⟩ rfl rfl rfl rfl ?_)
     rintro v w6 ⟨⟨b, rfl, hb⟩, hu6⟩
     obtain rfl : b = false := Bool.eq_false_iff.2 fun h => exB_bad (hb.1 h)
     have hs6 := hu6.size
     replace hU := hU.transA hu6
     replace hA := hA.upd hu6 (fun _ _ _ h => h)
     replace hBB := hBB.upd hu6 (fun _ _ _ h => h)
     refine WL.val rfl rfl rfl rfl (r_not rfl (ev_t rfl)) ?_
     refine WL.val rfl rfl rfl rfl (r_pickT rfl (ev_t rfl) (ev_t rfl)) ?_
     refine WL.val rfl rfl rfl rfl (r_move rfl (ev_t rfl)) ?_
     first | refine WL.val rfl rfl rfl rfl (r_pickT rfl (ev_t rfl) ev_c) ?_ | refine WL.val rfl rfl rfl rfl (r_pickF rfl (ev_t rfl) ev_c) ?_
     refine WL.val rfl rfl rfl rfl (r_move rfl (ev_t rfl)) ?_
     first | refine WL.val rfl rfl rfl rfl (r_pickT rfl (ev_t rfl) ev_c) ?_ | refine WL.val rfl rfl rfl rfl (r_pickF rfl (ev_t rfl) ev_c) ?_
     refine WL.val rfl rfl rfl rfl (r_move rfl (ev_t rfl)) ?_
     first | refine WL.val rfl rfl rfl rfl (r_pickT rfl (ev_t rfl) ev_c) ?_ | refine WL.val rfl rfl rfl rfl (r_pickF rfl (ev_t rfl) ev_c) ?_
     refine WL.val rfl rfl rfl rfl (r_assign rfl (ev_t rfl)) ?_
     refine WL.nil ?_
     refine WX.keep [(0, _)] ⟨rfl, trivial⟩ ?_
     refine WX.next ?_
     refine WC.ret ?_
     refine WX.retE1 rfl rfl ?_
     exact ⟨rfl, hU⟩
  · try (exfalso; first | (simp at hb3_2; done) | (simp only [decide_eq_true_eq, decide_eq_false_iff_not, Bool.not_eq_true', Bool.not_eq_false', Bool.not_eq_true, Bool.not_eq_false] at hb3_2; omega) | omega)
    all_goals
     try simp only [decide_eq_true_eq, decide_eq_false_iff_not, Bool.not_eq_true', Bool.not_eq_false', Bool.not_eq_true, Bool.not_eq_false, Option.isNone_none, Option.isNone_some, Option.isSome_none, Option.isSome_some, ne_eq, Decidable.not_not] at hb3_2
     refine WL.skip rfl rfl rfl ?_
     refine WL.skip rfl rfl rfl ?_
     refine WL.skip rfl rfl rfl ?_
     refine WL.val rfl rfl rfl rfl (r_pickF rfl (ev_t rfl) ev_c) ?_
     refine WL.val rfl rfl rfl rfl (r_move rfl (ev_t rfl)) ?_
     refine WL.val rfl rfl rfl rfl (r_pickF rfl (ev_t rfl) ev_c) ?_
     refine WL.val rfl rfl rfl rfl (r_move rfl (ev_t rfl)) ?_
     refine WL.val rfl rfl rfl rfl (r_pickF rfl (ev_t rfl) ev_c) ?_
     refine WL.val rfl rfl rfl rfl (r_move rfl (ev_t rfl)) ?_
     refine WL.val rfl rfl rfl rfl (r_pickF rfl (ev_t rfl) ev_c) ?_
     refine WL.val rfl rfl rfl rfl (r_assign rfl (ev_t rfl)) ?_
     refine WL.nil ?_
     refine WX.keep [(0, _)] ⟨rfl, trivial⟩ ?_
     refine WX.next ?_
     refine WC.ret ?_
     refine WX.retE1 rfl rfl ?_
     exact ⟨rfl, hU⟩
end Go.Proofs.YtipabhbnljadfaaDoor
