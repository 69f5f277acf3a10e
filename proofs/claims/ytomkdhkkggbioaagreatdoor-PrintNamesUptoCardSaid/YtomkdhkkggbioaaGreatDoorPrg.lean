/-
  Law 05: the document's examples.
-/
import Derived.Test.YtomkdhkkggbioaaGreatDoorPre
import Derived.Test.YtomkdhkkggbioaaGreatDoorPrf
namespace Go.Proofs.YtomkdhkkggbioaaGreatDoor
open Go
set_option linter.unusedSimpArgs false
set_option linter.unusedVariables false

theorem Type_ok {W : World} {x0 x1 x2 : Value} {s : List UInt8} (h : TPr W [x0, x1, x2] 0 s) (ho : [x0, x1, x2].all Value.oneCell' = true) : Ret Tryz.prog 13 #[.agg #[x0, x1, x2]] W fun u w' => u = Sv s ∧ Upd No W w' := by
  refine enterRet (vs := [_]) (N := 5) Tryz.func13 rfl rfl rfl ?_
  have hU := Upd.refl No W
  refine WC.keep [(0, _)] ⟨rfl, trivial⟩ ?_
  refine WC.seq ?_
  refine WC.region ?_
  refine WL.cons (SO.alloc rfl rfl rfl rfl (r_boxAgg rfl (ev_t rfl)) ?_)
  intro w1 hu1 hB1 hz1
  have hs1 := hu1.size
  replace hU := hU.transA hu1
  refine WL.val rfl rfl rfl rfl (r_assign rfl ev_c) ?_
  refine WL.nil ?_
  refine WX.keep [(1, _)] ⟨rfl, trivial⟩ ?_
  have hb := hB1
  change Blk _ _ #[x0, x1, x2] _ at hb
  refine WX.next ?_
  refine WC.seq ?_
  refine WC.region ?_
  refine WL.val rfl rfl rfl rfl (r_loadAgg (vs := [_, _, _]) rfl (ev_t rfl) agg_24 size_24 (Blk.cellsL hb)) ?_
  refine WL.cons (SO.call (h _ hU) rfl body_29 ⟨(ev_t rfl), ev_c, trivial⟩ rfl rfl rfl rfl ?_)
  rintro v9 w2 ⟨rfl, hu2⟩
  have hs2 := hu2.size
  replace hU := hU.transA hu2
  replace hB1 := hB1.updA hu2
  refine WL.val rfl rfl rfl rfl (r_assign rfl (ev_t rfl)) ?_
  refine WL.nil ?_
  refine WX.keep [(2, _)] ⟨rfl, trivial⟩ ?_
  refine WX.next ?_
  refine WC.ret ?_
  refine WX.retE1 rfl rfl ?_
  exact ⟨rfl, hU⟩

def exN : Value := .slice none 0 0
set_option maxHeartbeats 4000000 in
theorem awake05_ok (w : World) (hP : Pow10 w) : Ret Tryz.prog 12 #[] w fun v w' => v = .bool true ∧ Upd No w w' := by
  refine enterRet (vs := []) (N := 27) Tryz.func12 rfl rfl rfl ?_
  have hU := Upd.refl No w
  refine WC.keep [] trivial ?_
  refine WC.seq ?_
  refine WC.region ?_
  refine WL.val rfl rfl rfl rfl (r_assign rfl ev_c) ?_
  refine WL.nil ?_
  refine WX.keep [] trivial ?_
  refine WX.next ?_
  refine WC.seq ?_
  refine WC.region ?_
  refine WL.val rfl rfl rfl rfl (r_build (cs := #[_, _, _, _, _, _]) (vs := [(0, _), (1, _)]) rfl ⟨⟨rfl, ev_c⟩, ⟨rfl, ev_c⟩, trivial⟩ plc_36 zero_36 rfl) ?_
  refine WL.val rfl rfl rfl rfl (r_build (cs := #[_, _, _, _, _, _]) (vs := [(0, _), (1, _)]) rfl ⟨⟨rfl, ev_c⟩, ⟨rfl, ev_c⟩, trivial⟩ plc_36 zero_36 rfl) ?_
  refine WL.cons (SO.alloc rfl rfl rfl rfl (r_buildSlice66 rfl (ev_t rfl) (ev_t rfl) row_34) ?_)
  intro w1 hu1 hk1 hz9
  change Blk _ _ #[.int .u8 5, Sv [102], .int .i64 0, .bool false, .slice none 0 0, .slice none 0 0, .int .u8 5, Sv [120], .int .i64 0, .bool false, .slice none 0 0, .slice none 0 0] _ at hk1
  have hs1 := hu1.size
  replace hU := hU.transA hu1
  refine WL.val rfl rfl rfl rfl (r_build (cs := #[_, _, _, _, _, _]) (vs := [(0, _), (5, _)]) rfl ⟨⟨rfl, ev_c⟩, ⟨rfl, (ev_t rfl)⟩, trivial⟩ plc_36 zero_36 rfl) ?_
  refine WL.val rfl rfl rfl rfl (r_build (cs := #[_, _, _, _, _, _]) (vs := [(0, _), (2, _)]) rfl ⟨⟨rfl, ev_c⟩, ⟨rfl, ev_c⟩, trivial⟩ plc_36 zero_36 rfl) ?_
  refine WL.cons (SO.alloc rfl rfl rfl rfl (r_buildSlice66 rfl (ev_t rfl) (ev_t rfl) row_34) ?_)
  intro w2 hu2 hk2 hz9
  change Blk _ _ #[.int .u8 11, Sv [], .int .i64 0, .bool false, .slice none 0 0, .slice (some ⟨w.heap.size, 0, none⟩) 2 2, .int .u8 1, Sv [], .int .i64 1, .bool false, .slice none 0 0, .slice none 0 0] _ at hk2
  have hs2 := hu2.size
  replace hU := hU.transA hu2
  replace hk1 := hk1.upd hu2 (by first | exact (fun h => h) | (simp only [At]; omega))
  refine WL.val rfl rfl rfl rfl (r_build (cs := #[_, _, _, _, _, _]) (vs := [(0, _), (1, _), (5, _)]) rfl ⟨⟨rfl, ev_c⟩, ⟨rfl, ev_c⟩, ⟨rfl, (ev_t rfl)⟩, trivial⟩ plc_36 zero_36 rfl) ?_
  refine WL.cons (SO.alloc rfl rfl rfl rfl (r_alloc rfl zero_36) ?_)
  intro w3 hu3 hB3 hz3
  have hs3 := hu3.size
  replace hU := hU.transA hu3
  replace hk1 := hk1.upd hu3 (by first | exact (fun h => h) | (simp only [At]; omega))
  replace hk2 := hk2.upd hu3 (by first | exact (fun h => h) | (simp only [At]; omega))
  refine WL.cons (SO.storeAll (us := [_, _, _, _, _, _]) rfl (ev_t rfl) (ev_t rfl) size_36 hB3 rfl rfl rfl rfl rfl ?_)
  intro w4 hu4 hB3 hz4
  have hs4 := hu4.size
  replace hU := hU.transA hu4
  replace hk1 := hk1.upd hu4 (by first | exact (fun h => h) | (simp only [At]; omega))
  replace hk2 := hk2.upd hu4 (by first | exact (fun h => h) | (simp only [At]; omega))
  refine WL.nil ?_
  refine WX.keep [(1, _)] ⟨rfl, trivial⟩ ?_
  have hx := hB3
  change Blk _ _ #[.int .u8 17, Sv [43], .int .i64 0, .bool false, .slice none 0 0, .slice (some ⟨w1.heap.size, 0, none⟩) 2 2] _ at hx
  refine WX.next ?_
  refine WC.seq ?_
  refine WC.region ?_
  refine WL.val rfl rfl rfl rfl (r_build (cs := #[_, _, _]) (vs := [(1, _)]) rfl ⟨⟨rfl, ev_c⟩, trivial⟩ plc_24 zero_24 rfl) ?_
  refine WL.val rfl rfl rfl rfl (r_build (cs := #[_, _, _]) (vs := [(1, _)]) rfl ⟨⟨rfl, ev_c⟩, trivial⟩ plc_24 zero_24 rfl) ?_
  refine WL.cons (SO.alloc rfl rfl rfl rfl (r_buildSlice33 rfl (ev_t rfl) (ev_t rfl) row_22) ?_)
  intro w5 hu5 ht1 hz9
  obtain ⟨q1, hq1⟩ : ∃ q, w4.heap.size = q := ⟨_, rfl⟩
  rw [hq1] at ht1 ⊢
  change Blk _ _ #[Sv [], .int .i64 1, .slice none 0 0, Sv [], .int .i64 2, .slice none 0 0] _ at ht1
  have hs5 := hu5.size
  replace hU := hU.transA hu5
  replace hk1 := hk1.upd hu5 (by first | exact (fun h => h) | (simp only [At]; omega))
  replace hk2 := hk2.upd hu5 (by first | exact (fun h => h) | (simp only [At]; omega))
  replace hx := hx.upd hu5 (by first | exact (fun h => h) | (simp only [At]; omega))
  refine WL.val rfl rfl rfl rfl (r_build (cs := #[_, _, _]) (vs := [(0, _), (2, _)]) rfl ⟨⟨rfl, ev_c⟩, ⟨rfl, (ev_t rfl)⟩, trivial⟩ plc_24 zero_24 rfl) ?_
  refine WL.val rfl rfl rfl rfl (r_build (cs := #[_, _, _]) (vs := [(1, _)]) rfl ⟨⟨rfl, ev_c⟩, trivial⟩ plc_24 zero_24 rfl) ?_
  refine WL.cons (SO.alloc rfl rfl rfl rfl (r_buildSlice (cs := #[_, _, _]) (vs := [(0, _)]) rfl ⟨⟨rfl, (ev_t rfl)⟩, trivial⟩ row_22 rfl rfl) ?_)
  intro w6 hu6 hB6 hz6
  have hs6 := hu6.size
  replace hU := hU.transA hu6
  replace hk1 := hk1.upd hu6 (by first | exact (fun h => h) | (simp only [At]; omega))
  replace hk2 := hk2.upd hu6 (by first | exact (fun h => h) | (simp only [At]; omega))
  replace hx := hx.upd hu6 (by first | exact (fun h => h) | (simp only [At]; omega))
  replace ht1 := ht1.upd hu6 (by first | exact (fun h => h) | (simp only [At]; omega))
  refine WL.val rfl rfl rfl rfl (r_build (cs := #[_, _, _]) (vs := [(0, _), (2, _)]) rfl ⟨⟨rfl, ev_c⟩, ⟨rfl, (ev_t rfl)⟩, trivial⟩ plc_24 zero_24 rfl) ?_
  have ht2 := hB6
  change Blk _ _ #[Sv [], .int .i64 1, .slice none 0 0] _ at ht2
  refine WL.cons (SO.alloc rfl rfl rfl rfl (r_buildSlice33 rfl (ev_t rfl) (ev_t rfl) row_22) ?_)
  intro w7 hu7 ht3 hz9
  obtain ⟨q3, hq3⟩ : ∃ q, w6.heap.size = q := ⟨_, rfl⟩
  rw [hq3] at ht3 ⊢
  change Blk _ _ #[Sv [45, 62], .int .i64 0, .slice (some ⟨q1, 0, none⟩) 2 2, Sv [108, 105, 115, 116], .int .i64 0, .slice (some ⟨w5.heap.size, 0, none⟩) 1 1] _ at ht3
  have hs7 := hu7.size
  replace hU := hU.transA hu7
  replace hk1 := hk1.upd hu7 (by first | exact (fun h => h) | (simp only [At]; omega))
  replace hk2 := hk2.upd hu7 (by first | exact (fun h => h) | (simp only [At]; omega))
  replace hx := hx.upd hu7 (by first | exact (fun h => h) | (simp only [At]; omega))
  replace ht1 := ht1.upd hu7 (by first | exact (fun h => h) | (simp only [At]; omega))
  replace ht2 := ht2.upd hu7 (by first | exact (fun h => h) | (simp only [At]; omega))
  refine WL.val rfl rfl rfl rfl (r_build (cs := #[_, _, _]) (vs := [(0, _), (2, _)]) rfl ⟨⟨rfl, ev_c⟩, ⟨rfl, (ev_t rfl)⟩, trivial⟩ plc_24 zero_24 rfl) ?_
  refine WL.cons (SO.alloc rfl rfl rfl rfl (r_alloc rfl zero_24) ?_)
  intro w8 hu8 hB8 hz8
  have hs8 := hu8.size
  replace hU := hU.transA hu8
  replace hk1 := hk1.upd hu8 (by first | exact (fun h => h) | (simp only [At]; omega))
  replace hk2 := hk2.upd hu8 (by first | exact (fun h => h) | (simp only [At]; omega))
  replace hx := hx.upd hu8 (by first | exact (fun h => h) | (simp only [At]; omega))
  replace ht1 := ht1.upd hu8 (by first | exact (fun h => h) | (simp only [At]; omega))
  replace ht2 := ht2.upd hu8 (by first | exact (fun h => h) | (simp only [At]; omega))
  replace ht3 := ht3.upd hu8 (by first | exact (fun h => h) | (simp only [At]; omega))
  refine WL.cons (SO.storeAll (us := [_, _, _]) rfl (ev_t rfl) (ev_t rfl) size_24 hB8 rfl rfl rfl rfl rfl ?_)
  intro w9 hu9 hB8 hz9
  have hs9 := hu9.size
  replace hU := hU.transA hu9
  replace hk1 := hk1.upd hu9 (by first | exact (fun h => h) | (simp only [At]; omega))
  replace hk2 := hk2.upd hu9 (by first | exact (fun h => h) | (simp only [At]; omega))
  replace hx := hx.upd hu9 (by first | exact (fun h => h) | (simp only [At]; omega))
  replace ht1 := ht1.upd hu9 (by first | exact (fun h => h) | (simp only [At]; omega))
  replace ht2 := ht2.upd hu9 (by first | exact (fun h => h) | (simp only [At]; omega))
  replace ht3 := ht3.upd hu9 (by first | exact (fun h => h) | (simp only [At]; omega))
  refine WL.nil ?_
  refine WX.keep [(1, _), (2, _)] ⟨rfl, rfl, trivial⟩ ?_
  have hy := hB8
  change Blk _ _ #[Sv [45, 62], .int .i64 0, .slice (some ⟨q3, 0, none⟩) 2 2] _ at hy
  refine WX.next ?_
  refine WC.seq ?_
  refine WC.region ?_
  refine WL.val rfl rfl rfl rfl (r_loadAgg (vs := [_, _, _, _, _, _]) rfl (ev_t rfl) agg_36 size_36 (Blk.cellsL hx)) ?_
  have hPw := hP.upd hU (fun k _ h => h)
  have hX0 : EP w9 [.int .u8 11, Sv [], .int .i64 0, .bool false, .slice none 0 0, .slice (some ⟨w.heap.size, 0, none⟩) 2 2] ([40] ++ ([102] ++ [32] ++ [120]) ++ [41]) :=
    EP.wide (.inl rfl) (WP.app (x1 := [.int .u8 5, Sv [120], .int .i64 0, .bool false, .slice none 0 0, .slice none 0 0]) (Rd.of_blk (F := At _) (n := 2) (sz := 6) hk1 rfl rfl (by omega)) ⟨rfl, rfl⟩ EP.var EP.var (by simp) (by simp)) (by simp)
  have hX1 : EP w9 [.int .u8 1, Sv [], .int .i64 1, .bool false, .slice none 0 0, .slice none 0 0] [49] := by
    have h := EP.int (W := w9) (n := 1) (a1 := Sv []) (a3 := .bool false) (a4 := .slice none 0 0) (a5 := .slice none 0 0) (by simp only [inK]; omega) hPw
    rw [show Lib.itoa 1 = [49] by unfold Lib.itoa; rw [if_neg (by decide)]; exact decD_small (u := 1) (by decide)] at h
    exact h
  have hX : EP w9 [.int .u8 17, Sv [43], .int .i64 0, .bool false, .slice none 0 0, .slice (some ⟨w1.heap.size, 0, none⟩) 2 2] [40, 40, 102, 32, 120, 41, 32, 43, 32, 49, 41] :=
    EP.wide (s := [40, 102, 32, 120, 41, 32, 43, 32, 49]) (.inr rfl) (WP.op (t := [43]) (X := [[.int .u8 11, Sv [], .int .i64 0, .bool false, .slice none 0 0, .slice (some ⟨w.heap.size, 0, none⟩) 2 2], [.int .u8 1, Sv [], .int .i64 1, .bool false, .slice none 0 0, .slice none 0 0]]) (S := [[40] ++ ([102] ++ [32] ++ [120]) ++ [41], [49]]) (Rd.of_blk (F := At _) (n := 2) (sz := 6) hk2 rfl rfl (by omega))
      (fun x hx => by simp only [List.mem_cons, List.not_mem_nil, or_false] at hx; rcases hx with rfl | rfl <;> exact ⟨rfl, rfl⟩) rfl (fun i x s h1 h2 => by
        match i, h1, h2 with
        | 0, h1, h2 => (injection h1 with h1; injection h2 with h2; subst h1 h2; exact hX0)
        | 1, h1, h2 => (injection h1 with h1; injection h2 with h2; subst h1 h2; exact hX1)
        | i + 2, h1, h2 => simp at h1) (by decide) (by simp) (by decide)) (by decide)
  refine WL.cons (SO.call (hX _ (Upd.refl _ _)) rfl body_28 ⟨(ev_t rfl), trivial⟩ rfl rfl rfl rfl ?_)
  rintro v9 w10 ⟨rfl, hu10⟩
  have hs10 := hu10.size
  replace hU := hU.transA hu10
  replace hk1 := hk1.upd hu10 (by first | exact (fun h => h) | (simp only [At]; omega))
  replace hk2 := hk2.upd hu10 (by first | exact (fun h => h) | (simp only [At]; omega))
  replace hx := hx.upd hu10 (by first | exact (fun h => h) | (simp only [At]; omega))
  replace ht1 := ht1.upd hu10 (by first | exact (fun h => h) | (simp only [At]; omega))
  replace ht2 := ht2.upd hu10 (by first | exact (fun h => h) | (simp only [At]; omega))
  replace ht3 := ht3.upd hu10 (by first | exact (fun h => h) | (simp only [At]; omega))
  replace hy := hy.upd hu10 (by first | exact (fun h => h) | (simp only [At]; omega))
  refine WL.val rfl rfl rfl rfl (r_eqlStrL rfl (ev_t rfl) ev_c) ?_
  refine WL.val rfl rfl rfl rfl (r_move rfl (ev_t rfl)) ?_
  refine WL.cases 22 rfl (fun hb3_3 => ?_) (fun hb3_3 => ?_)
  · try (exfalso; first | (simp at hb3_3; done) | (simp only [decide_eq_true_eq, decide_eq_false_iff_not, Bool.not_eq_true', Bool.not_eq_false', Bool.not_eq_true, Bool.not_eq_false] at hb3_3; omega) | omega)
    all_goals
     try simp only [decide_eq_true_eq, decide_eq_false_iff_not, Bool.not_eq_true', Bool.not_eq_false', Bool.not_eq_true, Bool.not_eq_false, Option.isNone_none, Option.isNone_some, Option.isSome_none, Option.isSome_some, ne_eq, Decidable.not_not] at hb3_3
     refine WL.val rfl rfl rfl rfl (r_loadAgg (vs := [_, _, _]) rfl (ev_t rfl) agg_24 size_24 (Blk.cellsL hy)) ?_
     have hPw := hP.upd hU (fun k _ h => h)
     have hT : TPr w10 [Sv [45, 62], .int .i64 0, .slice (some ⟨q3, 0, none⟩) 2 2] 0 [40, 39, 97, 32, 45, 62, 32, 39, 98, 41, 32, 45, 62, 32, 39, 97, 32, 108, 105, 115, 116] :=
       TPr.arrow (s0 := [40, 39, 97, 32, 45, 62, 32, 39, 98, 41]) (s1 := [39, 97, 32, 108, 105, 115, 116]) (x0 := [Sv [45, 62], .int .i64 0, .slice (some ⟨q1, 0, none⟩) 2 2]) (x1 := [Sv [108, 105, 115, 116], .int .i64 0, .slice (some ⟨w5.heap.size, 0, none⟩) 1 1]) (Rd.of_blk (F := At _) (n := 2) (sz := 3) ht3 rfl rfl (by omega)) rfl rfl
         (TPr.arrow (s0 := [39, 97]) (s1 := [39, 98]) (x0 := [Sv [], .int .i64 1, .slice none 0 0]) (x1 := [Sv [], .int .i64 2, .slice none 0 0]) (Rd.of_blk (F := At _) (n := 2) (sz := 3) ht1 rfl rfl (by omega)) rfl rfl (TPr.var (n := 1) (by simp only [inK]; omega) hPw) (TPr.var (n := 2) (by simp only [inK]; omega) hPw) (by decide) (by decide))
         (TPr.one (s0 := [39, 97]) (x0 := [Sv [], .int .i64 1, .slice none 0 0]) (Rd.of_blk (F := At _) (n := 1) (sz := 3) ht2 rfl rfl (by omega)) rfl (TPr.var (n := 1) (by simp only [inK]; omega) hPw) (by decide) (by decide) (by decide) (by decide)) (by decide) (by decide)
     refine WL.cons (SO.call (Type_ok hT rfl) rfl body_13 ⟨(ev_t rfl), trivial⟩ rfl rfl rfl rfl ?_)
     rintro v9 w11 ⟨rfl, hu11⟩
     have hs11 := hu11.size
     replace hU := hU.transA hu11
     replace hk1 := hk1.upd hu11 (by first | exact (fun h => h) | (simp only [At]; omega))
     replace hk2 := hk2.upd hu11 (by first | exact (fun h => h) | (simp only [At]; omega))
     replace hx := hx.upd hu11 (by first | exact (fun h => h) | (simp only [At]; omega))
     replace ht1 := ht1.upd hu11 (by first | exact (fun h => h) | (simp only [At]; omega))
     replace ht2 := ht2.upd hu11 (by first | exact (fun h => h) | (simp only [At]; omega))
     replace ht3 := ht3.upd hu11 (by first | exact (fun h => h) | (simp only [At]; omega))
     replace hy := hy.upd hu11 (by first | exact (fun h => h) | (simp only [At]; omega))
     refine WL.val rfl rfl rfl rfl (r_eqlStrL rfl (ev_t rfl) ev_c) ?_
     refine WL.val rfl rfl rfl rfl (r_pickT rfl (ev_t rfl) (ev_t rfl)) ?_
     refine WL.val rfl rfl rfl rfl (r_assign rfl (ev_t rfl)) ?_
     refine WL.nil ?_
     refine WX.keep [(0, _)] ⟨rfl, trivial⟩ ?_
     refine WX.next ?_
     refine WC.ret ?_
     refine WX.retE1 rfl rfl ?_
     exact ⟨by simp, hU⟩
  · try simp only [decide_eq_true_eq, decide_eq_false_iff_not, Bool.not_eq_true', Bool.not_eq_false', Bool.not_eq_true, Bool.not_eq_false, Option.isNone_none, Option.isNone_some, Option.isSome_none, Option.isSome_some, ne_eq, Decidable.not_not] at hb3_3
    exfalso
    simp at hb3_3
end Go.Proofs.YtomkdhkkggbioaaGreatDoor
