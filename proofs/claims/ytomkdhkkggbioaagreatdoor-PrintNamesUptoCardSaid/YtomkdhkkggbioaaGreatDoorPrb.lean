/-
  The reference's numbers in digits; its names of variables.
-/
import Derived.Test.YtomkdhkkggbioaaGreatDoorPra
namespace Go.Proofs.YtomkdhkkggbioaaGreatDoor
open Go
set_option linter.unusedSimpArgs false
set_option linter.unusedVariables false

theorem Num_ok {w : World} {n : Int} (hn : inK .i64 n) : Ret Tryz.prog 39 #[.int .i64 n] w fun v w' => v = Sv (Lib.itoa n) ∧ Upd No w w' := by
  have hn9 := hn
  simp only [inK] at hn9
  have hl := decD_len20 (u := n.natAbs) (by omega)
  refine enterRet (vs := [_]) (N := 15) Tryz.func39 rfl rfl rfl ?_
  have hU := Upd.refl No w
  refine WC.keep [(0, _)] ⟨rfl, trivial⟩ ?_
  refine WC.seq ?_
  refine WC.region ?_
  refine WL.val rfl rfl rfl rfl (r_assign rfl ev_c) ?_
  refine WL.nil ?_
  refine WX.keep [(0, _)] ⟨rfl, trivial⟩ ?_
  refine WX.next ?_
  refine WC.seq ?_
  refine WC.seq ?_
  refine WC.region ?_
  refine WL.val rfl rfl rfl rfl (r_move rfl (ev_t rfl)) ?_
  refine WL.val rfl rfl rfl rfl (r_lss rfl (ev_t rfl) ev_c) ?_
  refine WL.nil ?_
  refine WX.keep [(0, _), (4, _)] ⟨rfl, rfl, trivial⟩ ?_
  refine WX.next ?_
  refine WC.cond rfl (ev_t rfl) (fun hc1 => ?_) (fun hc1 => ?_)
  · try (exfalso; first | (simp at hc1; done) | (simp only [decide_eq_true_eq, decide_eq_false_iff_not, Bool.not_eq_true', Bool.not_eq_false', Bool.not_eq_true, Bool.not_eq_false] at hc1; omega) | omega)
    all_goals
     try simp only [decide_eq_true_eq, decide_eq_false_iff_not, Bool.not_eq_true', Bool.not_eq_false', Bool.not_eq_true, Bool.not_eq_false, Option.isNone_none, Option.isNone_some, Option.isSome_none, Option.isSome_some, ne_eq, Decidable.not_not] at hc1
     refine WC.seq ?_
     refine WC.region ?_
     refine WL.val rfl rfl rfl rfl (r_move rfl (ev_t rfl)) ?_
     first | refine WL.val rfl rfl rfl rfl (r_addN rfl (ev_t rfl) ev_c (by simp only [inK]; omega)) ?_ | refine WL.val rfl rfl rfl rfl (r_add rfl (ev_t rfl) ev_c) ?_
     first | refine WL.val rfl rfl rfl rfl (r_negN rfl (ev_t rfl) (by simp only [inK]; omega)) ?_ | refine WL.val rfl rfl rfl rfl (r_neg rfl (ev_t rfl)) ?_
     first | refine WL.val rfl rfl rfl rfl (r_convN rfl (ev_t rfl) some_2 int_103 (by simp only [inK]; omega)) ?_ | refine WL.val rfl rfl rfl rfl (r_conv rfl (ev_t rfl) some_2 int_103) ?_
     first | refine WL.val rfl rfl rfl rfl (r_addN rfl (ev_t rfl) ev_c (by simp only [inK]; omega)) ?_ | refine WL.val rfl rfl rfl rfl (r_add rfl (ev_t rfl) ev_c) ?_
     rw [show -(n + 1) + 1 = ((n.natAbs : Nat) : Int) by omega]
     refine WL.cons (SO.call (digits_ok n.natAbs _ (by omega)) rfl body_63 ⟨(ev_t rfl), trivial⟩ rfl rfl rfl rfl ?_)
     rintro v9 w1 ⟨rfl, hu1⟩
     have hs1 := hu1.size
     replace hU := hU.transA hu1
     refine WL.val rfl rfl rfl rfl (r_addStrL (s := [45]) (s' := Lib.decDigits n.natAbs) rfl ev_c (ev_t rfl) (by simp only [List.length_cons, List.length_nil]; omega)) ?_
     refine WL.val rfl rfl rfl rfl (r_assign rfl (ev_t rfl)) ?_
     refine WL.nil ?_
     refine WX.keep [(2, _)] ⟨rfl, trivial⟩ ?_
     refine WX.next ?_
     refine WC.ret ?_
     refine WX.thenRet ?_
     refine WX.retE1 rfl rfl ?_
     exact ⟨by unfold Lib.itoa Sv; rw [if_pos (by omega)]; rfl, hU⟩
  · try (exfalso; first | (simp at hc1; done) | (simp only [decide_eq_true_eq, decide_eq_false_iff_not, Bool.not_eq_true', Bool.not_eq_false', Bool.not_eq_true, Bool.not_eq_false] at hc1; omega) | omega)
    all_goals
     try simp only [decide_eq_true_eq, decide_eq_false_iff_not, Bool.not_eq_true', Bool.not_eq_false', Bool.not_eq_true, Bool.not_eq_false, Option.isNone_none, Option.isNone_some, Option.isSome_none, Option.isSome_some, ne_eq, Decidable.not_not] at hc1
     refine WC.skip ?_
     refine WX.next ?_
     refine WC.seq ?_
     refine WC.region ?_
     refine WL.val rfl rfl rfl rfl (r_move rfl (ev_t rfl)) ?_
     first | refine WL.val rfl rfl rfl rfl (r_convN rfl (ev_t rfl) some_2 int_103 (by simp only [inK]; omega)) ?_ | refine WL.val rfl rfl rfl rfl (r_conv rfl (ev_t rfl) some_2 int_103) ?_
     rw [show (n : Int) = ((n.toNat : Nat) : Int) by omega]
     refine WL.cons (SO.call (digits_ok n.toNat _ (by omega)) rfl body_63 ⟨(ev_t rfl), trivial⟩ rfl rfl rfl rfl ?_)
     rintro v9 w2 ⟨rfl, hu2⟩
     have hs2 := hu2.size
     replace hU := hU.transA hu2
     refine WL.val rfl rfl rfl rfl (r_assign rfl (ev_t rfl)) ?_
     refine WL.nil ?_
     refine WX.keep [(2, _)] ⟨rfl, trivial⟩ ?_
     refine WX.next ?_
     refine WC.ret ?_
     refine WX.retE1 rfl rfl ?_
     exact ⟨by unfold Lib.itoa; rw [if_neg (by omega), Int.toNat_natCast], hU⟩

theorem RVar_ok {w : World} {n : Int} (hn : inK .i64 n) : Ret Tryz.prog 20 #[.int .i64 n] w fun v w' => v = Sv (varS n) ∧ Upd No w w' := by
  have hn9 := hn
  simp only [inK] at hn9
  have hl := itoa_len hn
  refine enterRet (vs := [_]) (N := 21) Tryz.func20 rfl rfl rfl ?_
  have hU := Upd.refl No w
  refine WC.keep [(0, _)] ⟨rfl, trivial⟩ ?_
  refine WC.seq ?_
  refine WC.region ?_
  refine WL.val rfl rfl rfl rfl (r_assign rfl ev_c) ?_
  refine WL.nil ?_
  refine WX.keep [(0, _)] ⟨rfl, trivial⟩ ?_
  refine WX.next ?_
  refine WC.seq ?_
  refine WC.seq ?_
  refine WC.region ?_
  refine WL.val rfl rfl rfl rfl (r_move rfl (ev_t rfl)) ?_
  refine WL.val rfl rfl rfl rfl (r_geq rfl (ev_t rfl) ev_c) ?_
  refine WL.val rfl rfl rfl rfl (r_move rfl (ev_t rfl)) ?_
  refine WL.cases 5 rfl (fun hb1_2 => ?_) (fun hb1_2 => ?_)
  · try (exfalso; first | (simp at hb1_2; done) | (simp only [decide_eq_true_eq, decide_eq_false_iff_not, Bool.not_eq_true', Bool.not_eq_false', Bool.not_eq_true, Bool.not_eq_false] at hb1_2; omega) | omega)
    all_goals
     try simp only [decide_eq_true_eq, decide_eq_false_iff_not, Bool.not_eq_true', Bool.not_eq_false', Bool.not_eq_true, Bool.not_eq_false, Option.isNone_none, Option.isNone_some, Option.isSome_none, Option.isSome_some, ne_eq, Decidable.not_not] at hb1_2
     refine WL.val rfl rfl rfl rfl (r_move rfl (ev_t rfl)) ?_
     refine WL.val rfl rfl rfl rfl (r_leq rfl (ev_t rfl) ev_c) ?_
     refine WL.val rfl rfl rfl rfl (r_pickT rfl (ev_t rfl) (ev_t rfl)) ?_
     refine WL.nil ?_
     refine WX.keep [(0, _), (8, _)] ⟨rfl, rfl, trivial⟩ ?_
     refine WX.next ?_
     refine WC.cond rfl (ev_t rfl) (fun hc1 => ?_) (fun hc1 => ?_)
     · try (exfalso; first | (simp at hc1; done) | (simp only [decide_eq_true_eq, decide_eq_false_iff_not, Bool.not_eq_true', Bool.not_eq_false', Bool.not_eq_true, Bool.not_eq_false] at hc1; omega) | omega)
       all_goals
        try simp only [decide_eq_true_eq, decide_eq_false_iff_not, Bool.not_eq_true', Bool.not_eq_false', Bool.not_eq_true, Bool.not_eq_false, Option.isNone_none, Option.isNone_some, Option.isSome_none, Option.isSome_some, ne_eq, Decidable.not_not] at hc1
        refine WC.seq ?_
        refine WC.region ?_
        refine WL.val rfl rfl rfl rfl (r_move rfl (ev_t rfl)) ?_
        first | refine WL.val rfl rfl rfl rfl (r_addN rfl ev_c (ev_t rfl) (by simp only [inK]; omega)) ?_ | refine WL.val rfl rfl rfl rfl (r_add rfl ev_c (ev_t rfl)) ?_
        first | refine WL.val rfl rfl rfl rfl (r_subN rfl (ev_t rfl) ev_c (by simp only [inK]; omega)) ?_ | refine WL.val rfl rfl rfl rfl (r_sub rfl (ev_t rfl) ev_c) ?_
        first | refine WL.val rfl rfl rfl rfl (r_convN rfl (ev_t rfl) some_3 int_5 (by simp only [inK]; omega)) ?_ | refine WL.val rfl rfl rfl rfl (r_conv rfl (ev_t rfl) some_3 int_5) ?_
        rw [show (97 : Int) + n - 1 = ((UInt8.ofNat (96 + n.toNat)).toNat : Int) by (simp only [UInt8.toNat_ofNat']; omega)]
        refine WL.cons (SO.alloc rfl rfl rfl rfl (r_buildSlice1 (vs := [_, _]) rfl ⟨ev_c, (ev_t rfl), trivial⟩ rfl row_64 rfl rfl) ?_)
        intro w1 hu1 hB1 hz1
        have hs1 := hu1.size
        replace hU := hU.transA hu1
        refine WL.val rfl rfl rfl rfl (r_toStr rfl (ev_t rfl) (show Rd _ (At _) _ 2 1 ([39, UInt8.ofNat (96 + n.toNat)].map U8) from Rd.of_blk (F := At _) (n := 2) (sz := 1) hB1 rfl rfl (by omega)) elem_64 int_5 str_9) ?_
        refine WL.val rfl rfl rfl rfl (r_assign rfl (ev_t rfl)) ?_
        refine WL.nil ?_
        refine WX.keep [(2, _)] ⟨rfl, trivial⟩ ?_
        refine WX.next ?_
        refine WC.ret ?_
        refine WX.thenRet ?_
        refine WX.retE1 rfl rfl ?_
        exact ⟨by unfold varS Sv; rw [if_pos (by omega)], hU⟩
     · try (exfalso; first | (simp at hc1; done) | (simp only [decide_eq_true_eq, decide_eq_false_iff_not, Bool.not_eq_true', Bool.not_eq_false', Bool.not_eq_true, Bool.not_eq_false] at hc1; omega) | omega)
       all_goals
        try simp only [decide_eq_true_eq, decide_eq_false_iff_not, Bool.not_eq_true', Bool.not_eq_false', Bool.not_eq_true, Bool.not_eq_false, Option.isNone_none, Option.isNone_some, Option.isSome_none, Option.isSome_some, ne_eq, Decidable.not_not] at hc1
        refine WC.skip ?_
        refine WX.next ?_
        refine WC.seq ?_
        refine WC.draws' (fun u0_ u1_ => Upd No u0_ u1_) (fun j => [2, 2, 0, 0, 2, 0, 0].getD j 0) (.calm 3 (.two 0 4 (.two 1 4 (.calm 2 (.one 4 (.calm 5 (.calm 6 (.done))))) (.one 1 (.calm 2 (.calm 5 (.calm 6 (.done)))))) (.one 0 (.one 1 (.calm 2 (.calm 5 (.calm 6 (.done)))))))) mixed (by kernel_rfl) (by repeat (first | with_reducible exact Deaf.body | with_reducible apply Deaf.then | with_reducible apply Deaf.block)) ?_
        intro w2 hu2
        have hz2 := congrArg Array.size hu2.2.2.2
        replace hu2 := Upd.of_draw hu2
        have hs2 := hu2.size
        replace hU := hU.transA hu2
        refine WN.calm _ rfl rfl rfl rfl rfl (fun _ => r_move rfl (ev_t rfl)) ?_
        refine WN.fork _ _ rfl rfl ?_ ?_
        · refine SO.alloc rfl rfl rfl rfl (r_buildSlice1 (vs := [_]) rfl ⟨ev_c, trivial⟩ rfl row_64 rfl rfl) ?_
          intro w3 hu3 hb9 hz9
          have hs3 := hu3.size
          replace hU := hU.transA hu3
          refine ⟨trivial, ?_⟩
          refine WN.fork _ _ rfl rfl ?_ ?_
          · refine SO.val rfl rfl rfl rfl (r_toStr rfl (ev_t rfl) (show Rd _ (At _) _ 1 1 ([39].map U8) from Rd.of_blk (F := At _) (n := 1) (sz := 1) hb9 rfl rfl (by omega)) elem_64 int_5 str_9) ?_
            refine ⟨trivial, ?_⟩
            refine WN.calm _ rfl rfl rfl rfl rfl (fun _ => r_addStrL (s := [39]) (s' := [116]) rfl (ev_t rfl) ev_c (by simp)) ?_
            refine WN.step _ rfl (SO.call (Num_ok hn) rfl body_39 ⟨(ev_t rfl), trivial⟩ rfl rfl rfl rfl ?_)
            rintro v9 w4 ⟨rfl, hu4⟩
            have hs4 := hu4.size
            replace hU := hU.transA hu4
            replace hb9 := hb9.upd hu4 (fun h => h)
            refine ⟨trivial, ?_⟩
            refine WN.calm _ rfl rfl rfl rfl rfl (fun _ => r_addStrL (s := [39, 116]) (s' := Lib.itoa n) rfl (ev_t rfl) (ev_t rfl) (by simp only [List.length_cons, List.length_nil]; omega)) ?_
            refine WN.calm _ rfl rfl rfl rfl rfl (fun _ => r_assign rfl (ev_t rfl)) ?_
            refine WN.done ?_
            refine WX.keep [(2, _)] ⟨rfl, trivial⟩ ?_
            refine WX.next ?_
            refine WC.ret ?_
            refine WX.retE1 rfl rfl ?_
            exact ⟨by unfold varS Sv; rw [if_neg (by omega)]; rfl, hU⟩
          · refine SO.call (Num_ok hn) rfl body_39 ⟨(ev_t rfl), trivial⟩ rfl rfl rfl rfl ?_
            rintro v9 w5 ⟨rfl, hu5⟩
            have hs5 := hu5.size
            replace hU := hU.transA hu5
            replace hb9 := hb9.upd hu5 (fun h => h)
            refine ⟨trivial, ?_⟩
            refine WN.step _ rfl (SO.val rfl rfl rfl rfl (r_toStr rfl (ev_t rfl) (show Rd _ (At _) _ 1 1 ([39].map U8) from Rd.of_blk (F := At _) (n := 1) (sz := 1) hb9 rfl rfl (by omega)) elem_64 int_5 str_9) ?_)
            refine ⟨trivial, ?_⟩
            refine WN.calm _ rfl rfl rfl rfl rfl (fun _ => r_addStrL (s := [39]) (s' := [116]) rfl (ev_t rfl) ev_c (by simp)) ?_
            refine WN.calm _ rfl rfl rfl rfl rfl (fun _ => r_addStrL (s := [39, 116]) (s' := Lib.itoa n) rfl (ev_t rfl) (ev_t rfl) (by simp only [List.length_cons, List.length_nil]; omega)) ?_
            refine WN.calm _ rfl rfl rfl rfl rfl (fun _ => r_assign rfl (ev_t rfl)) ?_
            refine WN.done ?_
            refine WX.keep [(2, _)] ⟨rfl, trivial⟩ ?_
            refine WX.next ?_
            refine WC.ret ?_
            refine WX.retE1 rfl rfl ?_
            exact ⟨by unfold varS Sv; rw [if_neg (by omega)]; rfl, hU⟩
        · refine SO.call (Num_ok hn) rfl body_39 ⟨(ev_t rfl), trivial⟩ rfl rfl rfl rfl ?_
          rintro v9 w6 ⟨rfl, hu6⟩
          have hs6 := hu6.size
          replace hU := hU.transA hu6
          refine ⟨trivial, ?_⟩
          refine WN.step _ rfl (SO.alloc rfl rfl rfl rfl (r_buildSlice1 (vs := [_]) rfl ⟨ev_c, trivial⟩ rfl row_64 rfl rfl) ?_)
          intro w7 hu7 hb9 hz9
          have hs7 := hu7.size
          replace hU := hU.transA hu7
          refine ⟨trivial, ?_⟩
          refine WN.step _ rfl (SO.val rfl rfl rfl rfl (r_toStr rfl (ev_t rfl) (show Rd _ (At _) _ 1 1 ([39].map U8) from Rd.of_blk (F := At _) (n := 1) (sz := 1) hb9 rfl rfl (by omega)) elem_64 int_5 str_9) ?_)
          refine ⟨trivial, ?_⟩
          refine WN.calm _ rfl rfl rfl rfl rfl (fun _ => r_addStrL (s := [39]) (s' := [116]) rfl (ev_t rfl) ev_c (by simp)) ?_
          refine WN.calm _ rfl rfl rfl rfl rfl (fun _ => r_addStrL (s := [39, 116]) (s' := Lib.itoa n) rfl (ev_t rfl) (ev_t rfl) (by simp only [List.length_cons, List.length_nil]; omega)) ?_
          refine WN.calm _ rfl rfl rfl rfl rfl (fun _ => r_assign rfl (ev_t rfl)) ?_
          refine WN.done ?_
          refine WX.keep [(2, _)] ⟨rfl, trivial⟩ ?_
          refine WX.next ?_
          refine WC.ret ?_
          refine WX.retE1 rfl rfl ?_
          exact ⟨by unfold varS Sv; rw [if_neg (by omega)]; rfl, hU⟩
  · try (exfalso; first | (simp at hb1_2; done) | (simp only [decide_eq_true_eq, decide_eq_false_iff_not, Bool.not_eq_true', Bool.not_eq_false', Bool.not_eq_true, Bool.not_eq_false] at hb1_2; omega) | omega)
    all_goals
     try simp only [decide_eq_true_eq, decide_eq_false_iff_not, Bool.not_eq_true', Bool.not_eq_false', Bool.not_eq_true, Bool.not_eq_false, Option.isNone_none, Option.isNone_some, Option.isSome_none, Option.isSome_some, ne_eq, Decidable.not_not] at hb1_2
     refine WL.skip rfl rfl rfl ?_
     refine WL.skip rfl rfl rfl ?_
     refine WL.val rfl rfl rfl rfl (r_pickF rfl (ev_t rfl) ev_c) ?_
     refine WL.nil ?_
     refine WX.keep [(0, _), (8, _)] ⟨rfl, rfl, trivial⟩ ?_
     refine WX.next ?_
     refine WC.cond_false rfl (ev_t rfl) ?_
     refine WC.skip ?_
     refine WX.next ?_
     refine WC.seq ?_
     refine WC.draws' (fun u0_ u1_ => Upd No u0_ u1_) (fun j => [2, 2, 0, 0, 2, 0, 0].getD j 0) (.calm 3 (.two 0 4 (.two 1 4 (.calm 2 (.one 4 (.calm 5 (.calm 6 (.done))))) (.one 1 (.calm 2 (.calm 5 (.calm 6 (.done)))))) (.one 0 (.one 1 (.calm 2 (.calm 5 (.calm 6 (.done)))))))) mixed (by kernel_rfl) (by repeat (first | with_reducible exact Deaf.body | with_reducible apply Deaf.then | with_reducible apply Deaf.block)) ?_
     intro w8 hu8
     have hz8 := congrArg Array.size hu8.2.2.2
     replace hu8 := Upd.of_draw hu8
     have hs8 := hu8.size
     replace hU := hU.transA hu8
     refine WN.calm _ rfl rfl rfl rfl rfl (fun _ => r_move rfl (ev_t rfl)) ?_
     refine WN.fork _ _ rfl rfl ?_ ?_
     · refine SO.alloc rfl rfl rfl rfl (r_buildSlice1 (vs := [_]) rfl ⟨ev_c, trivial⟩ rfl row_64 rfl rfl) ?_
       intro w9 hu9 hb9 hz9
       have hs9 := hu9.size
       replace hU := hU.transA hu9
       refine ⟨trivial, ?_⟩
       refine WN.fork _ _ rfl rfl ?_ ?_
       · refine SO.val rfl rfl rfl rfl (r_toStr rfl (ev_t rfl) (show Rd _ (At _) _ 1 1 ([39].map U8) from Rd.of_blk (F := At _) (n := 1) (sz := 1) hb9 rfl rfl (by omega)) elem_64 int_5 str_9) ?_
         refine ⟨trivial, ?_⟩
         refine WN.calm _ rfl rfl rfl rfl rfl (fun _ => r_addStrL (s := [39]) (s' := [116]) rfl (ev_t rfl) ev_c (by simp)) ?_
         refine WN.step _ rfl (SO.call (Num_ok hn) rfl body_39 ⟨(ev_t rfl), trivial⟩ rfl rfl rfl rfl ?_)
         rintro v9 w10 ⟨rfl, hu10⟩
         have hs10 := hu10.size
         replace hU := hU.transA hu10
         replace hb9 := hb9.upd hu10 (fun h => h)
         refine ⟨trivial, ?_⟩
         refine WN.calm _ rfl rfl rfl rfl rfl (fun _ => r_addStrL (s := [39, 116]) (s' := Lib.itoa n) rfl (ev_t rfl) (ev_t rfl) (by simp only [List.length_cons, List.length_nil]; omega)) ?_
         refine WN.calm _ rfl rfl rfl rfl rfl (fun _ => r_assign rfl (ev_t rfl)) ?_
         refine WN.done ?_
         refine WX.keep [(2, _)] ⟨rfl, trivial⟩ ?_
         refine WX.next ?_
         refine WC.ret ?_
         refine WX.retE1 rfl rfl ?_
         exact ⟨by unfold varS Sv; rw [if_neg (by omega)]; rfl, hU⟩
       · refine SO.call (Num_ok hn) rfl body_39 ⟨(ev_t rfl), trivial⟩ rfl rfl rfl rfl ?_
         rintro v9 w11 ⟨rfl, hu11⟩
         have hs11 := hu11.size
         replace hU := hU.transA hu11
         replace hb9 := hb9.upd hu11 (fun h => h)
         refine ⟨trivial, ?_⟩
         refine WN.step _ rfl (SO.val rfl rfl rfl rfl (r_toStr rfl (ev_t rfl) (show Rd _ (At _) _ 1 1 ([39].map U8) from Rd.of_blk (F := At _) (n := 1) (sz := 1) hb9 rfl rfl (by omega)) elem_64 int_5 str_9) ?_)
         refine ⟨trivial, ?_⟩
         refine WN.calm _ rfl rfl rfl rfl rfl (fun _ => r_addStrL (s := [39]) (s' := [116]) rfl (ev_t rfl) ev_c (by simp)) ?_
         refine WN.calm _ rfl rfl rfl rfl rfl (fun _ => r_addStrL (s := [39, 116]) (s' := Lib.itoa n) rfl (ev_t rfl) (ev_t rfl) (by simp only [List.length_cons, List.length_nil]; omega)) ?_
         refine WN.calm _ rfl rfl rfl rfl rfl (fun _ => r_assign rfl (ev_t rfl)) ?_
         refine WN.done ?_
         refine WX.keep [(2, _)] ⟨rfl, trivial⟩ ?_
         refine WX.next ?_
         refine WC.ret ?_
         refine WX.retE1 rfl rfl ?_
         exact ⟨by unfold varS Sv; rw [if_neg (by omega)]; rfl, hU⟩
     · refine SO.call (Num_ok hn) rfl body_39 ⟨(ev_t rfl), trivial⟩ rfl rfl rfl rfl ?_
       rintro v9 w12 ⟨rfl, hu12⟩
       have hs12 := hu12.size
       replace hU := hU.transA hu12
       refine ⟨trivial, ?_⟩
       refine WN.step _ rfl (SO.alloc rfl rfl rfl rfl (r_buildSlice1 (vs := [_]) rfl ⟨ev_c, trivial⟩ rfl row_64 rfl rfl) ?_)
       intro w13 hu13 hb9 hz9
       have hs13 := hu13.size
       replace hU := hU.transA hu13
       refine ⟨trivial, ?_⟩
       refine WN.step _ rfl (SO.val rfl rfl rfl rfl (r_toStr rfl (ev_t rfl) (show Rd _ (At _) _ 1 1 ([39].map U8) from Rd.of_blk (F := At _) (n := 1) (sz := 1) hb9 rfl rfl (by omega)) elem_64 int_5 str_9) ?_)
       refine ⟨trivial, ?_⟩
       refine WN.calm _ rfl rfl rfl rfl rfl (fun _ => r_addStrL (s := [39]) (s' := [116]) rfl (ev_t rfl) ev_c (by simp)) ?_
       refine WN.calm _ rfl rfl rfl rfl rfl (fun _ => r_addStrL (s := [39, 116]) (s' := Lib.itoa n) rfl (ev_t rfl) (ev_t rfl) (by simp only [List.length_cons, List.length_nil]; omega)) ?_
       refine WN.calm _ rfl rfl rfl rfl rfl (fun _ => r_assign rfl (ev_t rfl)) ?_
       refine WN.done ?_
       refine WX.keep [(2, _)] ⟨rfl, trivial⟩ ?_
       refine WX.next ?_
       refine WC.ret ?_
       refine WX.retE1 rfl rfl ?_
       exact ⟨by unfold varS Sv; rw [if_neg (by omega)]; rfl, hU⟩
end Go.Proofs.YtomkdhkkggbioaaGreatDoor
