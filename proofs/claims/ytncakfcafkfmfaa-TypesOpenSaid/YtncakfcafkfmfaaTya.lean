/-
  types: New, Fresh, head.
-/
import Derived.Test.YtncakfcafkfmfaaTyM
import Derived.Test.YtncakfcafkfmfaaFrep
namespace Go.Proofs.Ytncakfcafkfmfaa
open Go
set_option linter.unusedSimpArgs false
set_option linter.unusedVariables false

theorem tnew_ok {w : World} {F : Nat → Prop} {n : Int} :
    Ret Try.prog 11 #[.int .i64 n] w fun v w' => ∃ p m1 m2, v = .pointer (some ⟨p, 0, none⟩) ∧ IsS w' F p m1 m2 [] [] n [] ∧ (∀ k, Mut p m1 m2 k → New w w' k) ∧ Upd No w w' := by
  refine enterRet (vs := [_]) (N := 8) Try.func11 rfl rfl rfl ?_
  have hU := Upd.refl No w
  refine WC.keep [(0, _)] ⟨rfl, trivial⟩ ?_
  refine WC.seq ?_
  refine WC.region ?_
  refine WL.val rfl rfl rfl rfl (r_assign rfl ev_c) ?_
  refine WL.nil ?_
  refine WX.keep [(0, _)] ⟨rfl, trivial⟩ ?_
  refine WX.next ?_
  refine WC.seq ?_
  refine WC.region ?_
  refine WL.cons (SO.makeMap rfl rfl rfl rfl rfl ?_)
  intro w1 hu1 hB1 hz1
  have hs1 := hu1.size
  replace hU := hU.transA hu1
  refine WL.val rfl rfl rfl rfl (r_move rfl (ev_t rfl)) ?_
  refine WL.cons (SO.makeMap rfl rfl rfl rfl rfl ?_)
  intro w2 hu2 hB2 hz2
  have hs2 := hu2.size
  replace hU := hU.transA hu2
  replace hB1 := hB1.updA hu2
  refine WL.val rfl rfl rfl rfl (r_build (cs := #[_, _, _]) (vs := [(0, _), (1, _), (2, _)]) rfl ⟨⟨rfl, (ev_t rfl)⟩, ⟨rfl, (ev_t rfl)⟩, ⟨rfl, (ev_t rfl)⟩, trivial⟩ plc_59 zero_59 rfl) ?_
  refine WL.cons (SO.alloc rfl rfl rfl rfl (r_boxAgg rfl (ev_t rfl)) ?_)
  intro w3 hu3 hB3 hz3
  have hs3 := hu3.size
  replace hU := hU.transA hu3
  replace hB1 := hB1.updA hu3
  replace hB2 := hB2.updA hu3
  refine WL.val rfl rfl rfl rfl (r_assign rfl (ev_t rfl)) ?_
  refine WL.nil ?_
  refine WX.keep [(2, _)] ⟨rfl, trivial⟩ ?_
  refine WX.next ?_
  refine WC.ret ?_
  refine WX.retE1 rfl rfl ?_
  refine ⟨_, _, _, rfl, ⟨hB3, hB1, hB2, by omega, TVs.nil _ _⟩, fun k hk => ?_, hU⟩
  simp only [Mut, New] at *
  omega

set_option maxHeartbeats 1000000 in
theorem head_ok {w : World} {F : Nat → Prop} {p m1 m2 n : Nat} {σ : Sg} {D : Dn} {nn : Int} {xs : List C3} {a b c : Value} {t h : Ty} (hI : IsS w F p m1 m2 σ D nn xs) (ht : TV w F (a, b, c) t) (hh : hdF σ n t = some h) :
    Ret Try.prog 31 #[.pointer (some ⟨p, 0, none⟩), .agg #[a, b, c]] w fun v w' => ∃ a' b' c', v = .agg #[a', b', c'] ∧ TV w F (a', b', c') h ∧ Upd No w w' := by
  have hhd := hI.hd
  have hof := hI.of_
  refine enterRet (vs := [_, _]) (N := 24) Try.func31 rfl rfl rfl ?_
  have hU := Upd.refl No w
  refine WC.keep [(0, _), (1, _)] ⟨rfl, rfl, trivial⟩ ?_
  refine WC.seq ?_
  refine WC.region ?_
  refine WL.cons (SO.alloc rfl rfl rfl rfl (r_boxAgg rfl (ev_t rfl)) ?_)
  intro w1 hu1 hB1 hz1
  have hs1 := hu1.size
  replace hU := hU.transA hu1
  refine WL.cons (SO.alloc rfl rfl rfl rfl (r_alloc rfl zero_28) ?_)
  intro w2 hu2 hB2 hz2
  have hs2 := hu2.size
  replace hU := hU.transA hu2
  replace hB1 := hB1.updA hu2
  refine WL.nil ?_
  refine WX.keep [(0, _), (3, _), (4, _)] ⟨rfl, rfl, rfl, trivial⟩ ?_
  refine WX.next ?_
  refine WC.seq ?_
  refine WC.block ?_
  -- loop 1: live [0, 3, 4]
  refine WC.keep [(0, _), (3, _), (4, _)] ⟨rfl, rfl, rfl, trivial⟩ ?_
  refine WC.loop (fun q E w' => ∃ (a b c : Value) (t : Ty), Upd No w w' ∧ w2.heap.size ≤ w'.heap.size ∧ Blk w' w.heap.size #[a, b, c] typ ∧ Blk w' w1.heap.size #[.string ⟨#[]⟩, .int .i64 0, .slice none 0 0] typ ∧ TV w F (a, b, c) t ∧ hdF σ q t = some h ∧   E = [(0, .pointer (some ⟨p, 0, none⟩)), (3, .pointer (some ⟨w.heap.size, 0, none⟩)), (4, .pointer (some ⟨w1.heap.size, 0, none⟩))]) (n) ?_ ?_
  · exact ⟨a, b, c, t, hU, by omega, hB1, hB2, ht, hh, rfl⟩
  · rintro q E w' ⟨a, b, c, t, hU, hws, hb3, hb4, ht, hh, rfl⟩
    obtain ⟨m, A0, k0, xk, rfl, rfl, rfl, hm, hr, hl, hb, hk⟩ := ht.open
    have hs0 := hU.size
    refine WC.seq ?_
    refine WC.seq ?_
    refine WC.region ?_
    first | refine WL.val rfl rfl rfl rfl (r_field0 rfl (ev_t rfl) fld_28_0) ?_ | refine WL.val rfl rfl rfl rfl (r_fieldAt rfl (ev_t rfl) fld_28_0) ?_
    refine WL.val rfl rfl rfl rfl (r_load rfl (ev_t rfl) flat_9 (Blk.cell hb3 rfl)) ?_
    refine WL.val rfl rfl rfl rfl (r_eqlStrL rfl (ev_t rfl) ev_c) ?_
    refine WL.nil ?_
    refine WX.keep [(0, _), (3, _), (4, _), (9, _)] ⟨rfl, rfl, rfl, rfl, trivial⟩ ?_
    refine WX.next ?_
    refine WC.cond rfl (ev_t rfl) (fun hc1 => ?_) (fun hc1 => ?_)
    · try (exfalso; first | (simp at hc1; done) | (simp only [decide_eq_true_eq, decide_eq_false_iff_not, Bool.not_eq_true', Bool.not_eq_false', Bool.not_eq_true, Bool.not_eq_false] at hc1; omega) | omega)
      all_goals
       try simp only [decide_eq_true_eq, decide_eq_false_iff_not, Bool.not_eq_true', Bool.not_eq_false', Bool.not_eq_true, Bool.not_eq_false, Option.isNone_none, Option.isNone_some, Option.isSome_none, Option.isSome_some, ne_eq, Decidable.not_not] at hc1
       obtain ⟨x, rfl⟩ := Ty.nm_nil.1 hc1
       obtain rfl := (hm x rfl).symm
       obtain ⟨s1, x1, A1, n1, k1, ok, hL⟩ := hI.lookR x
       refine WC.skip ?_
       refine WX.next ?_
       refine WC.block ?_
       refine WC.seq ?_
       refine WC.draws' (fun u0_ u1_ => Upd No u0_ u1_) (fun j => [0, 0, 0, 0, 0, 0, 0, 0, 0, 0, 1, 2, 0].getD j 0) (.calm 0 (.calm 1 (.calm 2 (.calm 4 (.held 3 (.held 5 (.held 6 (.calm 7 (.calm 8 (.calm 9 (.one 10 (.one 11 (.calm 12 (.done)))))))))))))) mixed (by kernel_rfl) (by repeat (first | with_reducible exact Deaf.body | with_reducible apply Deaf.then | with_reducible apply Deaf.block)) ?_
       intro w3 hu3
       have hz3 := congrArg Array.size hu3.2.2.2
       replace hu3 := Upd.of_draw hu3
       have hs3 := hu3.size
       replace hU := hU.transA hu3
       replace hb3 := hb3.updA hu3
       replace hb4 := hb4.updA hu3
       have hS2 := Upd.refl No w3
       refine WN.calm _ rfl rfl rfl rfl rfl (fun _ => r_move rfl (ev_t rfl)) ?_
       refine WN.calm _ rfl rfl rfl rfl rfl (fun _ => r_nilCheck rfl (ev_t rfl)) ?_
       first | refine WN.calm _ rfl rfl rfl rfl rfl (fun _ => r_field0 rfl (ev_t rfl) fld_59_0) ?_ | refine WN.calm _ rfl rfl rfl rfl rfl (fun _ => r_fieldAt rfl (ev_t rfl) fld_59_0) ?_
       first | refine WN.calm _ rfl rfl rfl rfl rfl (fun _ => r_field0 rfl (ev_t rfl) fld_28_1) ?_ | refine WN.calm _ rfl rfl rfl rfl rfl (fun _ => r_fieldAt rfl (ev_t rfl) fld_28_1) ?_
       refine WN.held _ rfl rfl rfl rfl rfl hS2 (fun w' hS => r_load rfl (ev_t rfl) flat_56 (Blk.cell ((hhd.upd hU (fun h => h)).upd hS (fun h => h)) rfl)) ?_
       refine WN.held _ rfl rfl rfl rfl rfl hS2 (fun w' hS => r_load rfl (ev_t rfl) flat_3 (Blk.cell (hb3.upd hS (fun h => h)) rfl)) ?_
       refine WN.held _ rfl rfl rfl rfl rfl hS2 (fun w' hS => r_lookupV keyI ((hof.upd hU (fun h => h)).upd hS (fun h => h)) hL.val hL.isS rfl (ev_t rfl) (ev_t rfl) map_56 zero_28) ?_
       refine WN.calm _ rfl rfl rfl rfl rfl (fun _ => r_move rfl (ev_t rfl)) ?_
       refine WN.calm _ rfl rfl rfl rfl rfl (fun _ => r_extract rfl (ev_t rfl) rfl) ?_
       refine WN.calm _ rfl rfl rfl rfl rfl (fun _ => r_extract rfl (ev_t rfl) rfl) ?_
       refine WN.step _ rfl (SO.alloc rfl rfl rfl rfl (r_alloc rfl zero_28) ?_)
       intro w4 hu4 hB4 hz4
       have hs4 := hu4.size
       replace hS2 := Upd.transA hS2 hu4
       replace hU := hU.transA hu4
       replace hb3 := hb3.updA hu4
       replace hb4 := hb4.updA hu4
       refine ⟨hS2, ?_⟩
       refine WN.step _ rfl (SO.storeAll (us := [_, _, _]) rfl (ev_t rfl) (ev_t rfl) size_28 hB4 rfl rfl rfl rfl rfl ?_)
       intro w5 hu5 hB4 hz5
       have hs5 := hu5.size
       try replace hS2 := Upd.transA hS2 hu5
       replace hU := hU.transA hu5
       replace hb3 := hb3.updA hu5
       replace hb4 := hb4.updA hu5
       refine ⟨trivial, ?_⟩
       refine WN.calm _ rfl rfl rfl rfl rfl (fun _ => r_assign rfl (ev_t rfl)) ?_
       refine WN.done ?_
       refine WX.keep [(0, _), (3, _), (4, _), (5, _), (6, _)] ⟨rfl, rfl, rfl, rfl, rfl, trivial⟩ ?_
       refine WX.next ?_
       refine WC.seq ?_
       refine WC.seq ?_
       refine WC.region ?_
       refine WL.val rfl rfl rfl rfl (r_move rfl (ev_t rfl)) ?_
       refine WL.val rfl rfl rfl rfl (r_not rfl (ev_t rfl)) ?_
       refine WL.nil ?_
       refine WX.keep [(0, _), (3, _), (4, _), (5, _), (21, _)] ⟨rfl, rfl, rfl, rfl, rfl, trivial⟩ ?_
       refine WX.next ?_
       refine WC.cond rfl (ev_t rfl) (fun hc3 => ?_) (fun hc3 => ?_)
       · try (exfalso; first | (simp at hc3; done) | (simp only [decide_eq_true_eq, decide_eq_false_iff_not, Bool.not_eq_true', Bool.not_eq_false', Bool.not_eq_true, Bool.not_eq_false] at hc3; omega) | omega)
         all_goals
          try simp only [decide_eq_true_eq, decide_eq_false_iff_not, Bool.not_eq_true', Bool.not_eq_false', Bool.not_eq_true, Bool.not_eq_false, Option.isNone_none, Option.isNone_some, Option.isSome_none, Option.isSome_some, ne_eq, Decidable.not_not] at hc3
          obtain rfl := hd_none (hL.no (by simpa using hc3)) hh
          refine WC.exit ?_
          refine WX.thenExit ?_
          refine WX.blockPast rfl ?_
          refine WX.thenExit ?_
          refine WX.blockHere ?_
          refine WX.next ?_
          refine WC.seq ?_
          refine WC.region ?_
          refine WL.val rfl rfl rfl rfl (r_loadAgg (vs := [_, _, _]) rfl (ev_t rfl) agg_28 size_28 (Blk.cellsL hb3)) ?_
          refine WL.cons (SO.storeAll (us := [_, _, _]) rfl (ev_t rfl) (ev_t rfl) size_28 hb4 rfl rfl rfl rfl rfl ?_)
          intro w6 hu6 hb4 hz6
          have hs6 := hu6.size
          replace hU := hU.transA hu6
          replace hb3 := hb3.updA hu6
          replace hB4 := hB4.updA hu6
          refine WL.nil ?_
          refine WX.keep [(4, _)] ⟨rfl, trivial⟩ ?_
          refine WX.next ?_
          refine WC.ret ?_
          refine WX.retC (vs := [_, _, _]) rfl rfl agg_28 size_28 (Blk.cellsL hb4) ?_
          exact ⟨_, _, _, rfl, ht, hU⟩
       · try (exfalso; first | (simp at hc3; done) | (simp only [decide_eq_true_eq, decide_eq_false_iff_not, Bool.not_eq_true', Bool.not_eq_false', Bool.not_eq_true, Bool.not_eq_false] at hc3; omega) | omega)
         all_goals
          try simp only [decide_eq_true_eq, decide_eq_false_iff_not, Bool.not_eq_true', Bool.not_eq_false', Bool.not_eq_true, Bool.not_eq_false, Option.isNone_none, Option.isNone_some, Option.isSome_none, Option.isSome_some, ne_eq, Decidable.not_not] at hc3
          obtain ⟨u, hlu, htu⟩ := hL.yes (by simpa using hc3)
          obtain ⟨q', rfl, hh'⟩ := hd_some hlu hh
          refine WC.skip ?_
          refine WX.next ?_
          refine WC.region ?_
          refine WL.val rfl rfl rfl rfl (r_loadAgg (vs := [_, _, _]) rfl (ev_t rfl) agg_28 size_28 (Blk.cellsL hB4)) ?_
          refine WL.cons (SO.storeAll (us := [_, _, _]) rfl (ev_t rfl) (ev_t rfl) size_28 hb3 rfl rfl rfl rfl rfl ?_)
          intro w7 hu7 hb3 hz7
          have hs7 := hu7.size
          replace hU := hU.transA hu7
          replace hb4 := hb4.updA hu7
          replace hB4 := hB4.updA hu7
          refine WL.nil ?_
          refine WX.keep [(0, _), (3, _), (4, _)] ⟨rfl, rfl, rfl, trivial⟩ ?_
          refine WX.blockNormal ?_
          refine WX.meet [(0, _), (3, _), (4, _)] ⟨rfl, rfl, rfl, trivial⟩ ?_
          exact ⟨q', Nat.lt_succ_self _, _, _, _, u, hU, by omega, hb3, hb4, htu, hh', rfl⟩
    · try (exfalso; first | (simp at hc1; done) | (simp only [decide_eq_true_eq, decide_eq_false_iff_not, Bool.not_eq_true', Bool.not_eq_false', Bool.not_eq_true, Bool.not_eq_false] at hc1; omega) | omega)
      all_goals
       try simp only [decide_eq_true_eq, decide_eq_false_iff_not, Bool.not_eq_true', Bool.not_eq_false', Bool.not_eq_true, Bool.not_eq_false, Option.isNone_none, Option.isNone_some, Option.isSome_none, Option.isSome_some, ne_eq, Decidable.not_not] at hc1
       obtain rfl := hd_con hc1 hh
       refine WC.exit ?_
       refine WX.thenExit ?_
       refine WX.thenExit ?_
       refine WX.blockHere ?_
       refine WX.next ?_
       refine WC.seq ?_
       refine WC.region ?_
       refine WL.val rfl rfl rfl rfl (r_loadAgg (vs := [_, _, _]) rfl (ev_t rfl) agg_28 size_28 (Blk.cellsL hb3)) ?_
       refine WL.cons (SO.storeAll (us := [_, _, _]) rfl (ev_t rfl) (ev_t rfl) size_28 hb4 rfl rfl rfl rfl rfl ?_)
       intro w8 hu8 hb4 hz8
       have hs8 := hu8.size
       replace hU := hU.transA hu8
       replace hb3 := hb3.updA hu8
       refine WL.nil ?_
       refine WX.keep [(4, _)] ⟨rfl, trivial⟩ ?_
       refine WX.next ?_
       refine WC.ret ?_
       refine WX.retC (vs := [_, _, _]) rfl rfl agg_28 size_28 (Blk.cellsL hb4) ?_
       exact ⟨_, _, _, rfl, ht, hU⟩
end Go.Proofs.Ytncakfcafkfmfaa
