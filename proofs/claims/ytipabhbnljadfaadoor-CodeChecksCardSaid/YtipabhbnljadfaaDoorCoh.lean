/-
  The reference's check of functions; law 08's CodeChecks walked.
-/
import Derived.Test.YtipabhbnljadfaaDoorCog
namespace Go.Proofs.YtipabhbnljadfaaDoor
open Go
set_option linter.unusedSimpArgs false
set_option linter.unusedVariables false

set_option maxHeartbeats 1000000 in
theorem rCheck_ok {w : World} {H : Nat → Prop} {allv : Value} {all : List Fn} {globs : Int} (hall : IsFs w H allv all) (hok : OKs all) (hlen : ∀ f ∈ all, f.code.length ≤ 1000) :
    Ret Tryd.prog 9 #[allv, .int .i64 globs] w fun u w' => (∃ b, u = .bool b ∧ (b = true ↔ (PosAll all ∧ ∀ f ∈ all, GoodF f all globs))) ∧ Upd No w w' := by
  have hall' := hall
  obtain ⟨V, hV, hVc, hVl⟩ := hall'
  obtain ⟨Aa, ca, rfl, hca⟩ := hV.slice_form
  have hVm := hV.le
  have hVn : V.length = all.length := by rw [← hVl, List.length_map]
  refine enterRet (vs := [_, _]) (N := 20) Tryd.func9 rfl rfl rfl ?_
  have hU := Upd.refl No w
  refine WC.keep [(0, _), (1, _)] ⟨rfl, rfl, trivial⟩ ?_
  refine WC.seq ?_
  refine WC.region ?_
  refine WL.val rfl rfl rfl rfl (r_assign rfl ev_c) ?_
  refine WL.nil ?_
  refine WX.keep [(0, _), (1, _)] ⟨rfl, rfl, trivial⟩ ?_
  refine WX.next ?_
  refine WC.seq ?_
  refine WC.seq ?_
  refine WC.region ?_
  refine WL.val rfl rfl rfl rfl (r_assign rfl ev_c) ?_
  refine WL.nil ?_
  refine WX.keep [(0, _), (1, _), (5, _)] ⟨rfl, rfl, rfl, trivial⟩ ?_
  refine WX.next ?_
  refine WC.block ?_
  -- loop 1: live [0, 1, 5]
  refine WC.keep [(0, _), (1, _), (5, _)] ⟨rfl, rfl, rfl, trivial⟩ ?_
  refine WC.loop (fun q E w' => ∃ i : Nat, i ≤ V.length ∧ q = V.length - i ∧ Upd No w w' ∧ (∀ (k : Nat) (f : Fn), all[k]? = some f → k < i → 0 ≤ f.caps ∧ (PosAll all → GoodF f all globs)) ∧   E = [(0, .slice Aa V.length ca), (1, .int .i64 globs), (5, .int .i64 (i : Int))]) (V.length) ?_ ?_
  · exact ⟨0, by omega, by omega, hU, (fun k f _ h => by omega), rfl⟩
  · clear hU
    rintro q E w' ⟨i, hi, rfl, hU, hdone, rfl⟩
    have hw0 := hU.size
    refine WC.seq ?_
    refine WC.seq ?_
    refine WC.region ?_
    refine WL.val rfl rfl rfl rfl (r_move rfl (ev_t rfl)) ?_
    refine WL.val rfl rfl rfl rfl (r_move rfl (ev_t rfl)) ?_
    refine WL.val rfl rfl rfl rfl (r_lenSlice (ts := #[]) rfl (ev_t rfl) elem_27) ?_
    refine WL.val rfl rfl rfl rfl (r_lss rfl (ev_t rfl) (ev_t rfl)) ?_
    refine WL.nil ?_
    refine WX.keep [(0, _), (1, _), (5, _), (9, _)] ⟨rfl, rfl, rfl, rfl, trivial⟩ ?_
    refine WX.next ?_
    refine WC.cond rfl (ev_t rfl) (fun hc2 => ?_) (fun hc2 => ?_)
    · try (exfalso; first | (simp at hc2; done) | (simp only [decide_eq_true_eq, decide_eq_false_iff_not, Bool.not_eq_true', Bool.not_eq_false', Bool.not_eq_true, Bool.not_eq_false] at hc2; omega) | omega)
      all_goals
       try simp only [decide_eq_true_eq, decide_eq_false_iff_not, Bool.not_eq_true', Bool.not_eq_false', Bool.not_eq_true, Bool.not_eq_false, Option.isNone_none, Option.isNone_some, Option.isSome_none, Option.isSome_some, ne_eq, Decidable.not_not] at hc2
       obtain ⟨x, hx⟩ : ∃ x, V[i]? = some x := ⟨_, List.getElem?_eq_getElem (by omega)⟩
       have hcell := flatMap_get FnV.cells_len hx
       have hxa : all[i]? = some x.f := by rw [← hVl, List.getElem?_map, hx]; rfl
       have hxc := hVc x (List.mem_of_getElem? hx)
       have hxo := hok _ (List.mem_of_getElem? hxa)
       have hxl := hlen _ (List.mem_of_getElem? hxa)
       obtain ⟨ba, oa, rfl, _⟩ := hV.open (by omega)
       rcases x with ⟨F, fv⟩
       simp only [FnV.cells] at hcell hxa hxc hxo hxl
       obtain ⟨Af, cf, rfl, hcf⟩ := hxc.slice_form
       refine WC.skip ?_
       refine WX.next ?_
       refine WC.seq ?_
       refine WC.block ?_
       refine WC.seq ?_
       refine WC.region ?_
       refine WL.val rfl rfl rfl rfl (r_move rfl (ev_t rfl)) ?_
       refine WL.val rfl rfl rfl rfl (r_move rfl (ev_t rfl)) ?_
       refine WL.val rfl rfl rfl rfl (r_indexAddr rfl (ev_t rfl) (ev_t rfl) elem_27 size_54 (by omega) (by omega)) ?_
       refine WL.val rfl rfl rfl rfl (r_loadAgg (vs := [_, _]) rfl (ev_t rfl) agg_54 size_54 (Rd.cellsL (us := [.int .i64 F.caps, .slice Af F.code.length cf]) (hV.upd hU (fun _ _ _ h => h)) (i := i * 2) (by omega) hcell)) ?_
       refine WL.val rfl rfl rfl rfl (r_move rfl (ev_t rfl)) ?_
       refine WL.val rfl rfl rfl rfl (r_move rfl (ev_t rfl)) ?_
       refine WL.cons (SO.call (right_ok (F := F) hxo.1 hxo.2 (hxc.upd hU (fun _ _ _ h => h)) (hall.upd hU (fun _ _ _ h => h)) hxl) rfl body_21 ⟨(ev_t rfl), (ev_t rfl), (ev_t rfl), trivial⟩ rfl rfl rfl rfl ?_)
       rintro v w1 ⟨⟨b, rfl, hb1, hb2⟩, hu1⟩
       have hs1 := hu1.size
       replace hU := hU.trans hu1 (by first | exact (fun _ _ h => h) | exact (fun _ _ h => h.elim) | (intro k hl hk; (try simp only [At, New, Grow, From, No] at hk ⊢); omega) | (intro k hl hk; simp only [At, No] at hk; omega))
       refine WL.val rfl rfl rfl rfl (r_not rfl (ev_t rfl)) ?_
       refine WL.nil ?_
       refine WX.keep [(0, _), (1, _), (5, _), (19, _)] ⟨rfl, rfl, rfl, rfl, trivial⟩ ?_
       refine WX.next ?_
       refine WC.cond rfl (ev_t rfl) (fun hc4 => ?_) (fun hc4 => ?_)
       · try (exfalso; first | (simp at hc4; done) | (simp only [decide_eq_true_eq, decide_eq_false_iff_not, Bool.not_eq_true', Bool.not_eq_false', Bool.not_eq_true, Bool.not_eq_false] at hc4; omega) | omega)
         all_goals
          try simp only [decide_eq_true_eq, decide_eq_false_iff_not, Bool.not_eq_true', Bool.not_eq_false', Bool.not_eq_true, Bool.not_eq_false, Option.isNone_none, Option.isNone_some, Option.isSome_none, Option.isSome_some, ne_eq, Decidable.not_not] at hc4
          refine WC.seq ?_
          refine WC.region ?_
          refine WL.val rfl rfl rfl rfl (r_assign rfl ev_c) ?_
          refine WL.nil ?_
          refine WX.keep [(4, _)] ⟨rfl, trivial⟩ ?_
          refine WX.next ?_
          refine WC.ret ?_
          refine WX.blockRet ?_
          refine WX.thenRet ?_
          refine WX.thenRet ?_
          refine WX.blockRet ?_
          refine WX.thenRet ?_
          refine WX.retE1 rfl rfl ?_
          refine ⟨⟨false, rfl, (fun h => by cases h), fun ⟨hp, hg⟩ => ?_⟩, hU⟩
          have h1 := hp F (List.mem_of_getElem? hxa)
          rw [hc4] at hb2
          exact (hb2 hp h1).2 (hg F (List.mem_of_getElem? hxa))
       · try (exfalso; first | (simp at hc4; done) | (simp only [decide_eq_true_eq, decide_eq_false_iff_not, Bool.not_eq_true', Bool.not_eq_false', Bool.not_eq_true, Bool.not_eq_false] at hc4; omega) | omega)
         all_goals
          try simp only [decide_eq_true_eq, decide_eq_false_iff_not, Bool.not_eq_true', Bool.not_eq_false', Bool.not_eq_true, Bool.not_eq_false, Option.isNone_none, Option.isNone_some, Option.isSome_none, Option.isSome_some, ne_eq, Decidable.not_not] at hc4
          refine WC.skip ?_
          refine WX.blockNormal ?_
          refine WX.next ?_
          refine WC.region ?_
          refine WL.val rfl rfl rfl rfl (r_move rfl (ev_t rfl)) ?_
          first | refine WL.val rfl rfl rfl rfl (r_addN rfl (ev_t rfl) ev_c (by simp only [inK]; omega)) ?_ | refine WL.val rfl rfl rfl rfl (r_add rfl (ev_t rfl) ev_c) ?_
          refine WL.val rfl rfl rfl rfl (r_assign rfl (ev_t rfl)) ?_
          refine WL.nil ?_
          refine WX.keep [(0, _), (1, _), (5, _)] ⟨rfl, rfl, rfl, trivial⟩ ?_
          refine WX.meet [(0, _), (1, _), (5, _)] ⟨rfl, rfl, rfl, trivial⟩ ?_
          refine ⟨V.length - (i + 1), by omega, i + 1, by omega, rfl, hU, fun k f hk hki => ?_, rfl⟩
          rcases Nat.lt_or_ge k i with h | h
          · exact hdone k f hk h
          · obtain rfl : k = i := by omega
            rw [hxa] at hk
            have := Option.some.inj hk
            subst this
            have hc0 : 0 ≤ F.caps := Int.not_lt.1 fun h => by rw [hb1 h] at hc4; cases hc4
            exact ⟨hc0, fun hp => (hb2 hp hc0).1 hc4⟩
    · try (exfalso; first | (simp at hc2; done) | (simp only [decide_eq_true_eq, decide_eq_false_iff_not, Bool.not_eq_true', Bool.not_eq_false', Bool.not_eq_true, Bool.not_eq_false] at hc2; omega) | omega)
      all_goals
       try simp only [decide_eq_true_eq, decide_eq_false_iff_not, Bool.not_eq_true', Bool.not_eq_false', Bool.not_eq_true, Bool.not_eq_false, Option.isNone_none, Option.isNone_some, Option.isSome_none, Option.isSome_some, ne_eq, Decidable.not_not] at hc2
       refine WC.exit ?_
       refine WX.thenExit ?_
       refine WX.thenExit ?_
       refine WX.blockHere ?_
       refine WX.next ?_
       refine WC.seq ?_
       refine WC.region ?_
       refine WL.val rfl rfl rfl rfl (r_assign rfl ev_c) ?_
       refine WL.nil ?_
       refine WX.keep [(4, _)] ⟨rfl, trivial⟩ ?_
       refine WX.next ?_
       refine WC.ret ?_
       refine WX.retE1 rfl rfl ?_
       have hp : PosAll all := fun f hf => by
         obtain ⟨k, hk⟩ := List.mem_iff_getElem?.1 hf
         exact (hdone k f hk (by have := (List.getElem?_eq_some_iff.1 hk).1; omega)).1
       refine ⟨⟨true, rfl, fun _ => ⟨hp, fun f hf => ?_⟩, fun _ => rfl⟩, hU⟩
       obtain ⟨k, hk⟩ := List.mem_iff_getElem?.1 hf
       exact (hdone k f hk (by have := (List.getElem?_eq_some_iff.1 hk).1; omega)).2 hp

set_option maxHeartbeats 1000000 in
theorem codeChecks.walk {w : World} {H : Nat → Prop} {v : Value} {l : List Fn} {g : Nat} (hg : g < 256) (hTk : Tk w) (hall : IsFs w H v l) (hok : OKs l) :
    Ret Tryd.prog 3 #[v, .int .u8 (g : Int)] w fun u w' => u = .bool true ∧ Upd No w w' := by
  refine enterRet (vs := [_, _]) (N := 22) Tryd.func3 rfl rfl rfl ?_
  have hU := Upd.refl No w
  refine WC.keep [(0, _), (1, _)] ⟨rfl, rfl, trivial⟩ ?_
  refine WC.seq ?_
  refine WC.region ?_
  refine WL.val rfl rfl rfl rfl (r_assign rfl ev_c) ?_
  refine WL.nil ?_
  refine WX.keep [(0, _), (1, _)] ⟨rfl, rfl, trivial⟩ ?_
  refine WX.next ?_
  refine WC.seq ?_
  refine WC.seq ?_
  refine WC.region ?_
  refine WL.cons (SO.call (awake08_ok (hTk.upd hU)) rfl body_6 trivial rfl rfl rfl rfl ?_)
  rintro v w1 ⟨rfl, hu1⟩
  have hs1 := hu1.size
  replace hU := hU.transA hu1
  refine WL.val rfl rfl rfl rfl (r_not rfl (ev_t rfl)) ?_
  refine WL.val rfl rfl rfl rfl (r_move rfl (ev_t rfl)) ?_
  refine WL.cases 7 rfl (fun hb1_2 => ?_) (fun hb1_2 => ?_)
  · try (exfalso; first | (simp at hb1_2; done) | (simp only [decide_eq_true_eq, decide_eq_false_iff_not, Bool.not_eq_true', Bool.not_eq_false', Bool.not_eq_true, Bool.not_eq_false] at hb1_2; omega) | omega)
    all_goals
     try simp only [decide_eq_true_eq, decide_eq_false_iff_not, Bool.not_eq_true', Bool.not_eq_false', Bool.not_eq_true, Bool.not_eq_false, Option.isNone_none, Option.isNone_some, Option.isSome_none, Option.isSome_some, ne_eq, Decidable.not_not] at hb1_2
     refine WL.skip rfl rfl rfl ?_
     refine WL.skip rfl rfl rfl ?_
     refine WL.val rfl rfl rfl rfl (r_pickT rfl (ev_t rfl) ev_c) ?_
     refine WL.nil ?_
     refine WX.keep [(0, _), (1, _), (10, _)] ⟨rfl, rfl, rfl, trivial⟩ ?_
     refine WX.next ?_
     refine WC.cond_true rfl (ev_t rfl) ?_
     refine WC.seq ?_
     refine WC.region ?_
     refine WL.cons (SO.call (awake08_ok (hTk.upd hU)) rfl body_6 trivial rfl rfl rfl rfl ?_)
     rintro v w2 ⟨rfl, hu2⟩
     have hs2 := hu2.size
     replace hU := hU.transA hu2
     refine WL.val rfl rfl rfl rfl (r_assign rfl (ev_t rfl)) ?_
     refine WL.nil ?_
     refine WX.keep [(4, _)] ⟨rfl, trivial⟩ ?_
     refine WX.next ?_
     refine WC.ret ?_
     refine WX.thenRet ?_
     refine WX.retE1 rfl rfl ?_
     exact ⟨rfl, hU⟩
  · try (exfalso; first | (simp at hb1_2; done) | (simp only [decide_eq_true_eq, decide_eq_false_iff_not, Bool.not_eq_true', Bool.not_eq_false', Bool.not_eq_true, Bool.not_eq_false] at hb1_2; omega) | omega)
    all_goals
     try simp only [decide_eq_true_eq, decide_eq_false_iff_not, Bool.not_eq_true', Bool.not_eq_false', Bool.not_eq_true, Bool.not_eq_false, Option.isNone_none, Option.isNone_some, Option.isSome_none, Option.isSome_some, ne_eq, Decidable.not_not] at hb1_2
     refine WL.val rfl rfl rfl rfl (r_move rfl (ev_t rfl)) ?_
     refine WL.cons (SO.call (great_ok (hall.upd hU (fun _ _ _ h => h))) rfl body_7 ⟨(ev_t rfl), trivial⟩ rfl rfl rfl rfl ?_)
     rintro v w3 ⟨⟨b, rfl, hb⟩, hu3⟩
     have hs3 := hu3.size
     replace hU := hU.transA hu3
     refine WL.val rfl rfl rfl rfl (r_pickF rfl (ev_t rfl) (ev_t rfl)) ?_
     refine WL.nil ?_
     refine WX.keep [(0, _), (1, _), (10, _)] ⟨rfl, rfl, rfl, trivial⟩ ?_
     refine WX.next ?_
     refine WC.cond rfl (ev_t rfl) (fun hc1 => ?_) (fun hc1 => ?_)
     · try (exfalso; first | (simp at hc1; done) | (simp only [decide_eq_true_eq, decide_eq_false_iff_not, Bool.not_eq_true', Bool.not_eq_false', Bool.not_eq_true, Bool.not_eq_false] at hc1; omega) | omega)
       all_goals
        try simp only [decide_eq_true_eq, decide_eq_false_iff_not, Bool.not_eq_true', Bool.not_eq_false', Bool.not_eq_true, Bool.not_eq_false, Option.isNone_none, Option.isNone_some, Option.isSome_none, Option.isSome_some, ne_eq, Decidable.not_not] at hc1
        refine WC.seq ?_
        refine WC.region ?_
        refine WL.cons (SO.call (awake08_ok (hTk.upd hU)) rfl body_6 trivial rfl rfl rfl rfl ?_)
        rintro v w4 ⟨rfl, hu4⟩
        have hs4 := hu4.size
        replace hU := hU.transA hu4
        refine WL.val rfl rfl rfl rfl (r_assign rfl (ev_t rfl)) ?_
        refine WL.nil ?_
        refine WX.keep [(4, _)] ⟨rfl, trivial⟩ ?_
        refine WX.next ?_
        refine WC.ret ?_
        refine WX.thenRet ?_
        refine WX.retE1 rfl rfl ?_
        exact ⟨rfl, hU⟩
     · try (exfalso; first | (simp at hc1; done) | (simp only [decide_eq_true_eq, decide_eq_false_iff_not, Bool.not_eq_true', Bool.not_eq_false', Bool.not_eq_true, Bool.not_eq_false] at hc1; omega) | omega)
       all_goals
        try simp only [decide_eq_true_eq, decide_eq_false_iff_not, Bool.not_eq_true', Bool.not_eq_false', Bool.not_eq_true, Bool.not_eq_false, Option.isNone_none, Option.isNone_some, Option.isSome_none, Option.isSome_some, ne_eq, Decidable.not_not] at hc1
        subst hc1
        obtain ⟨h20, h100⟩ := hb rfl
        refine WC.skip ?_
        refine WX.next ?_
        refine WC.seq ?_
        refine WC.region ?_
        refine WL.val rfl rfl rfl rfl (r_move rfl (ev_t rfl)) ?_
        refine WL.val rfl rfl rfl rfl (r_move rfl (ev_t rfl)) ?_
        first | refine WL.val rfl rfl rfl rfl (r_convN rfl (ev_t rfl) some_5 int_3 (by simp only [inK]; omega)) ?_ | refine WL.val rfl rfl rfl rfl (r_conv rfl (ev_t rfl) some_5 int_3) ?_
        refine WL.cons (SO.call (Check_ok (hTk.upd hU) (hall.upd hU (fun _ _ _ h => h)) hok (fun f hf => by have := h100 f hf; omega)) rfl body_8 ⟨(ev_t rfl), (ev_t rfl), trivial⟩ rfl rfl rfl rfl ?_)
        rintro v w5 ⟨⟨b1, rfl, hb1⟩, hu5⟩
        have hs5 := hu5.size
        replace hU := hU.transA hu5
        refine WL.val rfl rfl rfl rfl (r_move rfl (ev_t rfl)) ?_
        refine WL.cons (SO.call (funs_ok (hall.upd hU (fun _ _ _ h => h)) h20 h100) rfl body_10 ⟨(ev_t rfl), trivial⟩ rfl rfl rfl rfl ?_)
        rintro v w6 ⟨hfs, hu6⟩
        have hs6 := hu6.size
        replace hU := hU.transA hu6
        refine WL.val rfl rfl rfl rfl (r_move rfl (ev_t rfl)) ?_
        first | refine WL.val rfl rfl rfl rfl (r_convN rfl (ev_t rfl) some_5 int_3 (by simp only [inK]; omega)) ?_ | refine WL.val rfl rfl rfl rfl (r_conv rfl (ev_t rfl) some_5 int_3) ?_
        refine WL.cons (SO.call (rCheck_ok hfs hok (fun f hf => by have := h100 f hf; omega)) rfl body_9 ⟨(ev_t rfl), (ev_t rfl), trivial⟩ rfl rfl rfl rfl ?_)
        rintro v w7 ⟨⟨b2, rfl, hb2⟩, hu7⟩
        have hs7 := hu7.size
        replace hU := hU.transA hu7
        refine WL.val rfl rfl rfl rfl (r_eqlBool rfl (ev_t rfl) (ev_t rfl) bool_4) ?_
        refine WL.val rfl rfl rfl rfl (r_assign rfl (ev_t rfl)) ?_
        refine WL.nil ?_
        refine WX.keep [(4, _)] ⟨rfl, trivial⟩ ?_
        refine WX.next ?_
        refine WC.ret ?_
        refine WX.retE1 rfl rfl ?_
        obtain rfl : b1 = b2 := by rw [Bool.eq_iff_iff, hb1, hb2]
        exact ⟨by simp, hU⟩
end Go.Proofs.YtipabhbnljadfaaDoor
