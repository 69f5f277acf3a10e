/-
  Several texts put together: Pba, Pbb, Pbc, Pbd, RtP, RtQ.
-/
import Derived.Test.YtomkdhkkggbioaaGreatDoorZd
/-
 The reference's parser: what stands behind match.
-/
namespace Go.Proofs.YtomkdhkkggbioaaGreatDoor
open Go
set_option linter.unusedSimpArgs false
set_option linter.unusedVariables false

set_option maxHeartbeats 4000000 in
theorem match_ok {n : Nat} (ih : PC 59 (eq9 n).expr n) : PC 99 (matB (eq9 n).expr) n := by
 intro w r B0 A s hp hd hn
 obtain ⟨hI1, hI2, hI3, hI4, hI5⟩ := hp.I
 obtain ⟨ex, hex⟩ : ∃ ex, ex = (eq9 n).expr := ⟨_, rfl⟩
 obtain ⟨s0, hs0⟩ : ∃ s0, s0 = takQ (musQ (ex s).2 [119, 105, 116, 104]) [124] := ⟨_, rfl⟩
 have hmo : Mo ex := by rw [hex]; exact (MoE.all n).expr
 have hP0 : Pst s s0 := by rw [hs0]; exact (hmo s).trans ((Pst.mus _ _).trans (Pst.tak _ _))
 have hmat : matB ex s = (.mk 14 [] 0 false (matL ex (s0.ts.length + 2) [] [(ex s).1] s0).1.1 (matL ex (s0.ts.length + 2) [] [(ex s).1] s0).1.2, (matL ex (s0.ts.length + 2) [] [(ex s).1] s0).2) := by rw [hs0]; rfl
 rw [← hex]
 refine enterRet (vs := [_]) (N := 45) Tryz.func99 rfl rfl rfl ?_
 have hU := Upd.refl (At r) w
 refine WC.keep [(0, _)] ⟨rfl, trivial⟩ (WC.seq (WC.region (WL.cons (SO.alloc rfl rfl rfl rfl (r_alloc rfl zero_36) ?_))))
 intro w1 hu1 hB1 hz1
 have hs1 := hu1.size
 replace hU := hU.trans hu1 (by exact (fun _ _ h => h.elim))
 replace hp := hp.upd hu1 (by exact (fun _ _ h => h))
 refine WL.nil (WX.keep [(0, _), (2, _)] ⟨rfl, rfl, trivial⟩ (WX.next (WC.seq (WC.region (WL.val rfl rfl rfl rfl (r_build (cs := #[_, _, _, _, _, _]) (vs := [(0, _)]) rfl ⟨⟨rfl, ev_c⟩, trivial⟩ plc_36 zero_36 rfl) ?_)))))
 refine WL.cons (SO.alloc rfl rfl rfl rfl (r_alloc rfl zero_36) ?_)
 intro w2 hu2 hB2 hz2
 have hs2 := hu2.size
 replace hU := hU.trans hu2 (by exact (fun _ _ h => h.elim))
 replace hp := hp.upd hu2 (by exact (fun _ _ h => h))
 replace hB1 := hB1.upd hu2 (by exact (fun h => h))
 refine WL.cons (SO.storeAll (us := [_, _, _, _, _, _]) rfl (ev_t rfl) (ev_t rfl) size_36 hB2 rfl rfl rfl rfl rfl ?_)
 intro w3 hu3 hB2 hz3
 have hs3 := hu3.size
 replace hU := hU.trans hu3 (by (intro k hl hk; (try simp only [At, New, Grow, From, No] at hk ⊢); omega))
 replace hp := hp.upd hu3 (by (intro k hk hS; first | (simp only [At] at hS; omega) | (have := hR k (.inl hS); omega) | (have := hR k (.inr hS); omega)))
 replace hB1 := hB1.upd hu3 (by (simp only [At]; omega))
 refine WL.nil (WX.keep [(0, _), (2, _), (3, _)] ⟨rfl, rfl, rfl, trivial⟩ ?_)
 have hb3 := hB2
 change Blk _ _ #[.int .u8 14, .string ⟨#[]⟩, .int .i64 0, .bool false, .slice none 0 0, .slice none 0 0] _ at hb3
 have hlt3 := hb3.lt
 obtain ⟨b3, hb3e⟩ : ∃ b3, b3 = w1.heap.size := ⟨_, rfl⟩
 rw [← hb3e] at hb3 hlt3 ⊢
 have hb3w : w.heap.size < b3 := by omega
 refine WX.next (WC.seq (WC.draws' (fun u0_ u1_ => Upd (At r) u0_ u1_) (fun j => [0, 0, 0, 1, 1, 2, 0, 2].getD j 0) (.calm 0 (.calm 2 (.held 1 (.one 3 (.one 4 (.one 5 (.calm 6 (.one 7 (.done))))))))) mixed (by kernel_rfl) (by repeat (first | with_reducible exact Deaf.body | with_reducible apply Deaf.then)) ?_))
 intro w4 hu4
 have hz4 := congrArg Array.size hu4.2.2.2
 replace hu4 := Upd.of_draw hu4
 have hs4 := hu4.size
 replace hU := hU.trans hu4 (by exact (fun _ _ h => h.elim))
 replace hp := hp.upd hu4 (by exact (fun _ _ h => h))
 replace hB1 := hB1.upd hu4 (by exact (fun h => h))
 replace hb3 := hb3.upd hu4 (by exact (fun h => h))
 have hS2 := Upd.refl (At r) w4
 have h0 := hb3
 have hw2 : w4.heap.size = b3 + 1 := by omega
 have hac : Acc 36 w4 (b3 + 1) No (.slice none 0 0) ([] : List Ex) := Acc.nil _ _
 have hG : ∀ k, No k → b3 + 1 ≤ k := fun k h => h.elim
 refine WN.calm _ rfl rfl rfl rfl rfl (fun _ => r_field0 rfl (ev_t rfl) fld_36_5) ?_
 refine WN.calm _ rfl rfl rfl rfl rfl (fun _ => r_move rfl (ev_t rfl)) ?_
 refine WN.held _ rfl rfl rfl rfl rfl hS2 (fun w' hS => r_load rfl (ev_t rfl) flat_34 (Blk.cell (h0.upd hS (by (try simp only [At, From, No, Grow, New, Bt]); omega)) rfl)) ?_
 refine WN.step _ rfl (SO.call (ih _ _ _ _ _ hp (by (try simp only [tlQ_d, musQ_d, takQ_d, txtQ_d]); omega) (by (try simp only [tlQ_d, musQ_d, takQ_d, txtQ_d]); omega)) rfl body_59 ⟨(ev_t rfl), trivial⟩ rfl rfl rfl rfl ?_)
 rintro v9 w5 ⟨c9, rfl, ht, hp2, hst, hu5⟩
 have hs5 := hu5.size
 replace hS2 := Upd.transA hS2 hu5
 replace hU := hU.trans hu5 (by exact (fun _ _ h => h))
 replace hB1 := hB1.upd hu5 (by (simp only [At]; omega))
 replace hb3 := hb3.upd hu5 (by (simp only [At]; omega))
 replace hac := hac.upd hu5 (fun k hk hl hS => by (simp only [At] at hS; omega))
 have hp := hp2
 have hsd := hst.1
 try simp only [tlQ_d, musQ_d, takQ_d, txtQ_d] at hsd
 rw [← hex] at ht hp hst
 obtain ⟨tk, ts, tn, trc, tps, tks, tA9, tp9, tA, tp, tys, txs, het, rfl, _⟩ := ht.mk6
 refine ⟨hS2, ?_⟩
 refine WN.step _ rfl (SO.alloc rfl rfl rfl rfl (r_buildSlice6 rfl (ev_t rfl) row_34) ?_)
 intro w6 hu6 hB6 hz6
 have hs6 := hu6.size
 replace hS2 := Upd.transA hS2 hu6
 replace hU := hU.trans hu6 (by exact (fun _ _ h => h.elim))
 replace hB1 := hB1.upd hu6 (by exact (fun h => h))
 replace hb3 := hb3.upd hu6 (by exact (fun h => h))
 replace hac := hac.upd hu6 (fun k hk hl hS => by exact (show False from hS).elim)
 replace hp := hp.upd hu6 (by exact (fun _ _ h => h))
 replace ht := ht.upd hu6 (fun k hk hl hS => by exact (show False from hS).elim)
 refine ⟨hS2, ?_⟩
 refine WN.step _ rfl (SO.appendA hac ht (fun k hk => ⟨fun h => h.elim, by simp only [Bt] at hk; omega⟩) (Rd.of_blk (F := At _) (n := 1) (sz := 6) hB6 rfl rfl (by omega)) row_34 (by simp) rfl rfl (ev_t rfl) (ev_t rfl) rfl rfl rfl rfl ?_ (by omega))
 intro v5 w7 hac2 hu7 hBw
 have hs7 := hu7.size
 try replace hS2 := Upd.transA hS2 hu7
 replace hU := hU.trans hu7 (by exact (fun _ _ h => h.elim))
 replace hB1 := hB1.upd hu7 (by exact (fun h => h))
 replace hb3 := hb3.upd hu7 (by exact (fun h => h))
 replace hp := hp.upd hu7 (by exact (fun _ _ h => h))
 obtain ⟨A5, c5, rfl, _⟩ := hac2.form
 have hG2 := hac2.lt
 refine ⟨trivial, ?_⟩
 refine WN.calm _ rfl rfl rfl rfl rfl (fun _ => r_field0 rfl (ev_t rfl) fld_36_5) ?_
 refine WN.step _ rfl (SO.store rfl (ev_t rfl) (ev_t rfl) size_34 hb3 rfl rfl rfl rfl rfl ?_)
 intro w8 hu8 hb3 hz8
 have hs8 := hu8.size
 try replace hS2 := Upd.transA hS2 hu8
 replace hU := hU.trans hu8 (by (intro k hl hk; (try simp only [At, New, Grow, From, No] at hk ⊢); omega))
 replace hB1 := hB1.upd hu8 (by (simp only [At]; omega))
 replace hp := hp.upd hu8 (by (intro k hk hS; first | (simp only [At] at hS; omega) | (have := hR k (.inl hS); omega) | (have := hR k (.inr hS); omega)))
 replace hac2 := hac2.upd hu8 (fun k hk hl hS => by (simp only [At] at hS; omega))
 refine ⟨trivial, ?_⟩
 refine WN.done ?_
 refine WX.keep [(0, _), (2, _), (3, _)] ⟨rfl, rfl, rfl, trivial⟩ ?_
 change Blk _ _ #[.int .u8 14, .string ⟨#[]⟩, .int .i64 0, .bool false, .slice none 0 0, .slice A5 _ c5] _ at hb3
 refine WX.next (WC.seq (WC.region (WL.val rfl rfl rfl rfl (r_move rfl (ev_t rfl)) ?_)))
 refine WL.cons (SO.call (must_ok (u := [119, 105, 116, 104]) hp) rfl body_84 ⟨(ev_t rfl), ev_c, trivial⟩ rfl rfl rfl rfl ?_)
 rintro v9 w9 ⟨hp2, hu9⟩
 have hs9 := hu9.size
 replace hU := hU.trans hu9 (by exact (fun _ _ h => h))
 replace hB1 := hB1.upd hu9 (by (simp only [At]; omega))
 replace hb3 := hb3.upd hu9 (by (simp only [At]; omega))
 replace hac2 := hac2.upd hu9 (fun k hk hl hS => by (simp only [At] at hS; omega))
 have hp := hp2
 refine WL.nil (WX.keep [(0, _), (2, _), (3, _)] ⟨rfl, rfl, rfl, trivial⟩ (WX.next (WC.seq (WC.region (WL.val rfl rfl rfl rfl (r_move rfl (ev_t rfl)) ?_)))))
 refine WL.cons (SO.call (take_ok (u := [124]) hp) rfl body_31 ⟨(ev_t rfl), ev_c, trivial⟩ rfl rfl rfl rfl ?_)
 rintro v9 w10 ⟨rfl, hp2, hu10⟩
 have hs10 := hu10.size
 replace hU := hU.trans hu10 (by exact (fun _ _ h => h))
 replace hB1 := hB1.upd hu10 (by (simp only [At]; omega))
 replace hb3 := hb3.upd hu10 (by (simp only [At]; omega))
 replace hac2 := hac2.upd hu10 (fun k hk hl hS => by (simp only [At] at hS; omega))
 have hp := hp2
 rw [← hs0] at hp
 refine WL.nil (WX.keep [(0, _), (2, _), (3, _)] ⟨rfl, rfl, rfl, trivial⟩ (WX.next ?_))
 -- cut 5: live [2, 3]
 refine WC.cut (fun E wA => ∃ (ps : List Pt) (ks : List Ex) (s2 : St) (vP vK : Value), matL ex (s0.ts.length + 2) [] [(ex s).1] s0 = ((ps, ks), s2) ∧ Pst s s2 ∧ Upd (At r) w wA ∧ PS wA r B0 A s2 ∧ TM wA (fun k => b3 + 1 ≤ k ∧ k < wA.heap.size) [.int .u8 14, Sv [], .int .i64 0, .bool false, vP, vK] (Ex.mk 14 [] 0 false ps ks) ∧ Blk wA w.heap.size #[.int .u8 0, .string ⟨#[]⟩, .int .i64 0, .bool false, .slice none 0 0, .slice none 0 0] 36 ∧ Blk wA b3 #[.int .u8 14, Sv [], .int .i64 0, .bool false, vP, vK] 36 ∧ E = [(2, .pointer (some ⟨w.heap.size, 0, none⟩)), (3, .pointer (some ⟨b3, 0, none⟩))]) ?_ ?_
 ·refine WC.block ?_
  -- loop 1: live [0, 2, 3]
  refine WC.keep [(0, _), (2, _), (3, _)] ⟨rfl, rfl, rfl, trivial⟩ (WC.loop (fun qq E wA => ∃ (s1 : St) (ps : List Pt) (ks : List Ex) (RP RK : Nat → Prop) (vP vK : Value) (k1 : Nat), qq = k1 ∧ s1.ts.length ≤ k1 ∧ Upd (At r) w wA ∧ PS wA r B0 A s1 ∧ Pst s s1 ∧ AccR 72 wA RP vP ps ∧ AccR 36 wA RK vK ks ∧ (∀ k, RP k → ¬ RK k) ∧ (∀ k, RP k ∨ RK k → b3 + 1 ≤ k ∧ k < wA.heap.size) ∧ ps.length + s1.ts.length ≤ 2100 ∧ ks.length + s1.ts.length ≤ 2100 ∧ matL ex (s0.ts.length + 2) [] [(ex s).1] s0 = matL ex k1 ps ks s1 ∧ Blk wA w.heap.size #[.int .u8 0, .string ⟨#[]⟩, .int .i64 0, .bool false, .slice none 0 0, .slice none 0 0] 36 ∧ Blk wA b3 #[.int .u8 14, Sv [], .int .i64 0, .bool false, vP, vK] 36 ∧ E = [(0, (.pointer (some ⟨r, 0, none⟩))), (2, .pointer (some ⟨w.heap.size, 0, none⟩)), (3, .pointer (some ⟨b3, 0, none⟩))]) (s0.ts.length + 2) ?_ ?_)
  ·refine ⟨_, [], [(ex s).1], No, _, _, _, _, rfl, by omega, hU, hp, hP0, AccR.nil _ _, hac2.toR, fun k hk => hk.elim, fun k hk => ?_, by have := hP0.2.1; simp only [List.length_nil]; omega, by have := hP0.2.1; simp only [List.length_cons, List.length_nil]; omega, rfl, hB1, hb3, rfl⟩
   rcases hk with hk | hk
   ·exact hk.elim
   ·exact hk
  ·clear hU hp hB1 hb3 hac2 hst hG2 hG
   rintro qq E wA ⟨s1, ps, ks, RP, RK, vP, vK, k1, rfl, hk1, hU, hp, hPst, haP, haK, hdis, hR, hpl, hkl, hml, hB1, hb3, rfl⟩
   obtain ⟨A1, c1, rfl, hcc1⟩ := haP.form
   obtain ⟨A2, c2, rfl, hcc2⟩ := haK.form
   have hI := hp.I
   have hsC := hU.size
   have hlt1 := hB1.lt
   have hlt3 := hb3.lt
   have hd1 := hPst.1
   refine WC.seq (WC.seq (WC.region ?_))
   obtain ⟨FD, bD, offD, cD, zD, badD, hbD, hzD, hrD, hFD, hID⟩ := hp.open
   refine WL.val rfl rfl rfl rfl (r_move rfl (ev_t rfl)) ?_
   refine WL.val rfl rfl rfl rfl (r_nilCheck rfl (ev_t rfl)) ?_
   refine WL.val rfl rfl rfl rfl (r_field0 rfl (ev_t rfl) fld_58_4) ?_
   refine WL.val rfl rfl rfl rfl (r_load rfl (ev_t rfl) flat_3 (Blk.cell hbD rfl)) ?_
   refine WL.val rfl rfl rfl rfl (r_eql rfl (ev_t rfl) ev_c) ?_
   refine WL.nil (WX.keep [(0, _), (2, _), (3, _), (22, _)] ⟨rfl, rfl, rfl, rfl, trivial⟩ (WX.next (WC.cond rfl (ev_t rfl) (fun hc5 => ?_) (fun hc5 => ?_))))
   ·try simp only [cS, ne_eq, Decidable.not_not] at hc5
    have he0 : s1.e = 0 := by omega
    obtain ⟨k2, rfl⟩ : ∃ k2, qq = k2 + 1 := ⟨qq - 1, by omega⟩
    refine WC.skip (WX.next (WC.block (WC.seq (WC.region (WL.val rfl rfl rfl rfl (r_move rfl (ev_t rfl)) ?_)))))
    refine WL.cons (SO.call (pattern_ok hp (by omega)) rfl body_114 ⟨(ev_t rfl), trivial⟩ rfl rfl rfl rfl ?_)
    rintro v9 w11 ⟨c9, rfl, htp, hp2, hst1, hu11⟩
    have hs11 := hu11.size
    replace hU := hU.trans hu11 (by exact (fun _ _ h => h))
    replace haP := haP.upd hu11 (fun k hk hl hS => by (simp only [At] at hS; have := hR k (.inl hk); omega))
    replace haK := haK.upd hu11 (fun k hk hl hS => by (simp only [At] at hS; have := hR k (.inr hk); omega))
    replace hB1 := hB1.upd hu11 (by (simp only [At]; omega))
    replace hb3 := hb3.upd hu11 (by (simp only [At]; omega))
    have hp := hp2
    have hsd1 := hst1.1
    obtain ⟨pk, pts, pn, pks, pA, pp, pxs, hept, rfl, _⟩ := htp.mk4
    refine WL.cons (SO.alloc rfl rfl rfl rfl (r_alloc rfl zero_72) ?_)
    intro w12 hu12 hB12 hz12
    have hs12 := hu12.size
    replace hU := hU.trans hu12 (by exact (fun _ _ h => h.elim))
    replace haP := haP.upd hu12 (fun k hk hl hS => by exact (show False from hS).elim)
    replace haK := haK.upd hu12 (fun k hk hl hS => by exact (show False from hS).elim)
    replace hB1 := hB1.upd hu12 (by exact (fun h => h))
    replace hb3 := hb3.upd hu12 (by exact (fun h => h))
    replace hp := hp.upd hu12 (by exact (fun _ _ h => h))
    replace htp := htp.upd hu12 (fun k hk hl hS => by exact (show False from hS).elim)
    refine WL.cons (SO.storeAll (us := [_, _, _, _]) rfl (ev_t rfl) (ev_t rfl) size_72 hB12 rfl rfl rfl rfl rfl ?_)
    intro w13 hu13 hB12 hz13
    have hs13 := hu13.size
    replace hU := hU.trans hu13 (by (intro k hl hk; (try simp only [At, New, Grow, From, No] at hk ⊢); omega))
    replace haP := haP.upd hu13 (fun k hk hl hS => by (simp only [At] at hS; have := hR k (.inl hk); omega))
    replace haK := haK.upd hu13 (fun k hk hl hS => by (simp only [At] at hS; have := hR k (.inr hk); omega))
    replace hB1 := hB1.upd hu13 (by (simp only [At]; omega))
    replace hb3 := hb3.upd hu13 (by (simp only [At]; omega))
    replace hp := hp.upd hu13 (by (intro k hk hS; first | (simp only [At] at hS; omega) | (have := hR k (.inl hS); omega) | (have := hR k (.inr hS); omega)))
    replace htp := htp.upd hu13 (fun k hk hl hS => by (simp only [At, Bt] at hS hk; omega))
    refine WL.nil (WX.keep [(0, _), (2, _), (3, _), (4, _)] ⟨rfl, rfl, rfl, rfl, trivial⟩ ?_)
    have hb4 := hB12
    change Blk _ _ #[.int .u8 (pk : Int), Sv pts, .int .i64 pn, .slice pA pks.length pp] _ at hb4
    have hlt4 := hb4.lt
    obtain ⟨b4, hb4e⟩ : ∃ b4, b4 = w11.heap.size := ⟨_, rfl⟩
    rw [← hb4e] at hb4 hlt4 ⊢
    have hb4w : wA.heap.size ≤ b4 := by omega
    refine WX.next (WC.seq (WC.region (WL.val rfl rfl rfl rfl (r_move rfl (ev_t rfl)) ?_)))
    refine WL.cons (SO.call (must_ok (u := [45, 62]) hp) rfl body_84 ⟨(ev_t rfl), ev_c, trivial⟩ rfl rfl rfl rfl ?_)
    rintro v9 w14 ⟨hp2, hu14⟩
    have hs14 := hu14.size
    replace hU := hU.trans hu14 (by exact (fun _ _ h => h))
    replace haP := haP.upd hu14 (fun k hk hl hS => by (simp only [At] at hS; have := hR k (.inl hk); omega))
    replace haK := haK.upd hu14 (fun k hk hl hS => by (simp only [At] at hS; have := hR k (.inr hk); omega))
    replace hB1 := hB1.upd hu14 (by (simp only [At]; omega))
    replace hb3 := hb3.upd hu14 (by (simp only [At]; omega))
    replace htp := htp.upd hu14 (fun k hk hl hS => by (simp only [At, Bt] at hS hk; omega))
    replace hb4 := hb4.upd hu14 (by (simp only [At]; omega))
    have hp := hp2
    have hPs1 : Pst s1 (musQ (patQ s1).2 [45, 62]) := hst1.trans (Pst.mus _ _)
    have hsd2 := hPs1.1
    refine WL.nil (WX.keep [(0, _), (2, _), (3, _), (4, _)] ⟨rfl, rfl, rfl, rfl, trivial⟩ (WX.next (WC.seq (WC.region (WL.val rfl rfl rfl rfl (r_move rfl (ev_t rfl)) ?_)))))
    refine WL.cons (SO.call (ih _ _ _ _ _ hp (by omega) (by omega)) rfl body_59 ⟨(ev_t rfl), trivial⟩ rfl rfl rfl rfl ?_)
    rintro v9 w15 ⟨c9, rfl, hte, hp2, hst2, hu15⟩
    have hs15 := hu15.size
    replace hU := hU.trans hu15 (by exact (fun _ _ h => h))
    replace haP := haP.upd hu15 (fun k hk hl hS => by (simp only [At] at hS; have := hR k (.inl hk); omega))
    replace haK := haK.upd hu15 (fun k hk hl hS => by (simp only [At] at hS; have := hR k (.inr hk); omega))
    replace hB1 := hB1.upd hu15 (by (simp only [At]; omega))
    replace hb3 := hb3.upd hu15 (by (simp only [At]; omega))
    replace htp := htp.upd hu15 (fun k hk hl hS => by (simp only [At, Bt] at hS hk; omega))
    replace hb4 := hb4.upd hu15 (by (simp only [At]; omega))
    have hp := hp2
    rw [← hex] at hte hp hst2
    have hPs2 := hPs1.trans hst2
    obtain ⟨tk, ts, tn, trc, tps, tks, tA9, tp9, tA, tp, tys, txs, het, rfl, _⟩ := hte.mk6
    refine WL.cons (SO.alloc rfl rfl rfl rfl (r_alloc rfl zero_36) ?_)
    intro w16 hu16 hB16 hz16
    have hs16 := hu16.size
    replace hU := hU.trans hu16 (by exact (fun _ _ h => h.elim))
    replace haP := haP.upd hu16 (fun k hk hl hS => by exact (show False from hS).elim)
    replace haK := haK.upd hu16 (fun k hk hl hS => by exact (show False from hS).elim)
    replace hB1 := hB1.upd hu16 (by exact (fun h => h))
    replace hb3 := hb3.upd hu16 (by exact (fun h => h))
    replace htp := htp.upd hu16 (fun k hk hl hS => by exact (show False from hS).elim)
    replace hb4 := hb4.upd hu16 (by exact (fun h => h))
    replace hp := hp.upd hu16 (by exact (fun _ _ h => h))
    replace hte := hte.upd hu16 (fun k hk hl hS => by exact (show False from hS).elim)
    refine WL.cons (SO.storeAll (us := [_, _, _, _, _, _]) rfl (ev_t rfl) (ev_t rfl) size_36 hB16 rfl rfl rfl rfl rfl ?_)
    intro w17 hu17 hB16 hz17
    have hs17 := hu17.size
    replace hU := hU.trans hu17 (by (intro k hl hk; (try simp only [At, New, Grow, From, No] at hk ⊢); omega))
    replace haP := haP.upd hu17 (fun k hk hl hS => by (simp only [At] at hS; have := hR k (.inl hk); omega))
    replace haK := haK.upd hu17 (fun k hk hl hS => by (simp only [At] at hS; have := hR k (.inr hk); omega))
    replace hB1 := hB1.upd hu17 (by (simp only [At]; omega))
    replace hb3 := hb3.upd hu17 (by (simp only [At]; omega))
    replace htp := htp.upd hu17 (fun k hk hl hS => by (simp only [At, Bt] at hS hk; omega))
    replace hb4 := hb4.upd hu17 (by (simp only [At]; omega))
    replace hp := hp.upd hu17 (by (intro k hk hS; first | (simp only [At] at hS; omega) | (have := hR k (.inl hS); omega) | (have := hR k (.inr hS); omega)))
    replace hte := hte.upd hu17 (fun k hk hl hS => by (simp only [At, Bt] at hS hk; omega))
    refine WL.nil (WX.keep [(0, _), (2, _), (3, _), (4, _), (5, _)] ⟨rfl, rfl, rfl, rfl, rfl, trivial⟩ ?_)
    have hb5 := hB16
    change Blk _ _ #[.int .u8 (tk : Int), Sv ts, .int .i64 tn, .bool trc, .slice tA9 tps.length tp9, .slice tA tks.length tp] _ at hb5
    have hlt5 := hb5.lt
    obtain ⟨b5, hb5e⟩ : ∃ b5, b5 = w15.heap.size := ⟨_, rfl⟩
    rw [← hb5e] at hb5 hlt5 ⊢
    have hb5w : wA.heap.size ≤ b5 := by omega
    refine WX.next (WC.seq (WC.region (WL.val rfl rfl rfl rfl (r_field0 rfl (ev_t rfl) fld_36_4) ?_)))
    refine WL.val rfl rfl rfl rfl (r_load rfl (ev_t rfl) flat_33 (Blk.cell hb3 rfl)) ?_
    refine WL.val rfl rfl rfl rfl (r_loadAgg (vs := [_, _, _, _]) rfl (ev_t rfl) agg_72 size_72 (Blk.cellsL hb4)) ?_
    refine WL.cons (SO.alloc rfl rfl rfl rfl (r_buildSlice (cs := #[_, _, _, _]) (vs := [(0, _)]) rfl ⟨⟨rfl, (ev_t rfl)⟩, trivial⟩ row_33 rfl rfl) ?_)
    intro w18 hu18 hB18 hz18
    have hs18 := hu18.size
    replace hU := hU.trans hu18 (by exact (fun _ _ h => h.elim))
    replace haP := haP.upd hu18 (fun k hk hl hS => by exact (show False from hS).elim)
    replace haK := haK.upd hu18 (fun k hk hl hS => by exact (show False from hS).elim)
    replace hB1 := hB1.upd hu18 (by exact (fun h => h))
    replace hb3 := hb3.upd hu18 (by exact (fun h => h))
    replace htp := htp.upd hu18 (fun k hk hl hS => by exact (show False from hS).elim)
    replace hb4 := hb4.upd hu18 (by exact (fun h => h))
    replace hp := hp.upd hu18 (by exact (fun _ _ h => h))
    replace hte := hte.upd hu18 (fun k hk hl hS => by exact (show False from hS).elim)
    replace hb5 := hb5.upd hu18 (by exact (fun h => h))
    refine WL.cons (SO.appendR haP htp (fun k hk hR9 => by have := hR k (.inl hR9); simp only [Bt] at hk; omega) (Rd.of_blk (F := At _) (n := 1) (sz := 4) hB18 rfl rfl (by omega)) row_33 (by omega) rfl rfl (ev_t rfl) (ev_t rfl) rfl rfl rfl rfl ?_)
    intro v5 w19 haP2 hu19
    have hs19 := hu19.size
    replace hU := hU.trans hu19 (by (intro k hl hk; first | exact hk | exact (show False from hk).elim | (have := hR k (.inl hk); omega) | (have := hR k (.inr hk); omega) | (simp only [At] at *; exfalso; omega)))
    replace haK := haK.upd hu19 (fun k hk hl hS => by exact hdis k hS hk)
    replace hB1 := hB1.upd hu19 (by (intro hS; have := hR _ (.inl hS); omega))
    replace hb3 := hb3.upd hu19 (by (intro hS; have := hR _ (.inl hS); omega))
    replace hp := hp.upd hu19 (by (intro k hk hS; first | (simp only [At] at hS; omega) | (have := hR k (.inl hS); omega) | (have := hR k (.inr hS); omega)))
    replace hte := hte.upd hu19 (fun k hk hl hS => by (have := hR k (.inl hS); simp only [Bt] at hk; omega))
    replace hb5 := hb5.upd hu19 (by (intro hS; have := hR _ (.inl hS); omega))
    obtain ⟨A5, c5, rfl, _⟩ := haP2.form
    obtain ⟨RP2, haP3, hRPd⟩ : ∃ RP2 : Nat → Prop, AccR 72 w19 RP2 (.slice A5 (ps ++ [(patQ s1).1]).length c5) (ps ++ [(patQ s1).1]) ∧ ∀ k, RP2 k → RP k ∨ (wA.heap.size ≤ k ∧ k < b4) ∨ (w18.heap.size ≤ k ∧ k < w19.heap.size) := ⟨_, haP2, fun k hk => by simpa only [Bt, hb4e] using hk⟩
    clear haP2
    have hRP2 : ∀ k, RP2 k → b3 + 1 ≤ k := fun k hk => by
     rcases hRPd k hk with h | h | h
     ·exact (hR k (.inl h)).1
     ·omega
     ·omega
    have hdis2 : ∀ k, RP2 k → ¬ RK k := fun k hk hK => by
     have hb := hR k (.inr hK)
     rcases hRPd k hk with h | h | h
     ·exact hdis k h hK
     ·omega
     ·omega
    have hRPlt : ∀ k, RP2 k → k < b4 ∨ w18.heap.size ≤ k := fun k hk => by
     rcases hRPd k hk with h | h | h
     ·have := hR k (.inl h); left; omega
     ·left; omega
     ·right; omega
    refine WL.val rfl rfl rfl rfl (r_field0 rfl (ev_t rfl) fld_36_4) ?_
    refine WL.cons (SO.store rfl (ev_t rfl) (ev_t rfl) size_33 hb3 rfl rfl rfl rfl rfl ?_)
    intro w20 hu20 hb3 hz20
    have hs20 := hu20.size
    replace hU := hU.trans hu20 (by (intro k hl hk; (try simp only [At, New, Grow, From, No] at hk ⊢); omega))
    replace haK := haK.upd hu20 (fun k hk hl hS => by (simp only [At] at hS; have := hR k (.inr hk); omega))
    replace hB1 := hB1.upd hu20 (by (simp only [At]; omega))
    replace hp := hp.upd hu20 (by (intro k hk hS; first | (simp only [At] at hS; omega) | (have := hR k (.inl hS); omega) | (have := hR k (.inr hS); omega)))
    replace hte := hte.upd hu20 (fun k hk hl hS => by (simp only [At, Bt] at hS hk; omega))
    replace hb5 := hb5.upd hu20 (by (simp only [At]; omega))
    replace haP3 := haP3.upd hu20 (fun k hk hl hS => by (simp only [At] at hS; have := hRP2 k hk; omega))
    refine WL.nil (WX.keep [(0, _), (2, _), (3, _), (5, _)] ⟨rfl, rfl, rfl, rfl, trivial⟩ ?_)
    change Blk _ _ #[.int .u8 14, Sv [], .int .i64 0, .bool false, .slice A5 _ c5, .slice A2 ks.length c2] _ at hb3
    refine WX.next (WC.seq (WC.region (WL.val rfl rfl rfl rfl (r_field0 rfl (ev_t rfl) fld_36_5) ?_)))
    refine WL.val rfl rfl rfl rfl (r_load rfl (ev_t rfl) flat_34 (Blk.cell hb3 rfl)) ?_
    refine WL.val rfl rfl rfl rfl (r_loadAgg (vs := [_, _, _, _, _, _]) rfl (ev_t rfl) agg_36 size_36 (Blk.cellsL hb5)) ?_
    refine WL.cons (SO.alloc rfl rfl rfl rfl (r_buildSlice6 rfl (ev_t rfl) row_34) ?_)
    intro w21 hu21 hB21 hz21
    have hs21 := hu21.size
    replace hU := hU.trans hu21 (by exact (fun _ _ h => h.elim))
    replace haK := haK.upd hu21 (fun k hk hl hS => by exact (show False from hS).elim)
    replace hB1 := hB1.upd hu21 (by exact (fun h => h))
    replace hb3 := hb3.upd hu21 (by exact (fun h => h))
    replace hp := hp.upd hu21 (by exact (fun _ _ h => h))
    replace hte := hte.upd hu21 (fun k hk hl hS => by exact (show False from hS).elim)
    replace hb5 := hb5.upd hu21 (by exact (fun h => h))
    replace haP3 := haP3.upd hu21 (fun k hk hl hS => by exact (show False from hS).elim)
    refine WL.cons (SO.appendR haK hte (fun k hk hR9 => by have := hR k (.inr hR9); simp only [Bt] at hk; omega) (Rd.of_blk (F := At _) (n := 1) (sz := 6) hB21 rfl rfl (by omega)) row_34 (by omega) rfl rfl (ev_t rfl) (ev_t rfl) rfl rfl rfl rfl ?_)
    intro v5 w22 haK2 hu22
    have hs22 := hu22.size
    replace hU := hU.trans hu22 (by (intro k hl hk; first | exact hk | exact (show False from hk).elim | (have := hR k (.inl hk); omega) | (have := hR k (.inr hk); omega) | (simp only [At] at *; exfalso; omega)))
    replace hB1 := hB1.upd hu22 (by (intro hS; have := hR _ (.inr hS); omega))
    replace hb3 := hb3.upd hu22 (by (intro hS; have := hR _ (.inr hS); omega))
    replace hp := hp.upd hu22 (by (intro k hk hS; first | (simp only [At] at hS; omega) | (have := hR k (.inl hS); omega) | (have := hR k (.inr hS); omega)))
    replace haP3 := haP3.upd hu22 (fun k hk hl hS => by exact hdis2 k hk hS)
    obtain ⟨A6, c6, rfl, _⟩ := haK2.form
    obtain ⟨RK2, haK3, hRKd⟩ : ∃ RK2 : Nat → Prop, AccR 36 w22 RK2 (.slice A6 (ks ++ [(ex (musQ (patQ s1).2 [45, 62])).1]).length c6) (ks ++ [(ex (musQ (patQ s1).2 [45, 62])).1]) ∧ ∀ k, RK2 k → RK k ∨ (b4 < k ∧ k < b5) ∨ (w21.heap.size ≤ k ∧ k < w22.heap.size) := ⟨_, haK2, fun k hk => by
      rcases hk with h | h | h
      · exact .inl h
      · simp only [Bt] at h; exact .inr (.inl (by omega))
      · exact .inr (.inr h)⟩
    clear haK2
    have hRK2 : ∀ k, RK2 k → b3 + 1 ≤ k := fun k hk => by
     rcases hRKd k hk with h | h | h
     ·exact (hR k (.inr h)).1
     ·omega
     ·omega
    refine WL.val rfl rfl rfl rfl (r_field0 rfl (ev_t rfl) fld_36_5) ?_
    refine WL.cons (SO.store rfl (ev_t rfl) (ev_t rfl) size_34 hb3 rfl rfl rfl rfl rfl ?_)
    intro w23 hu23 hb3 hz23
    have hs23 := hu23.size
    replace hU := hU.trans hu23 (by (intro k hl hk; (try simp only [At, New, Grow, From, No] at hk ⊢); omega))
    replace hB1 := hB1.upd hu23 (by (simp only [At]; omega))
    replace hp := hp.upd hu23 (by (intro k hk hS; first | (simp only [At] at hS; omega) | (have := hR k (.inl hS); omega) | (have := hR k (.inr hS); omega)))
    replace haP3 := haP3.upd hu23 (fun k hk hl hS => by (simp only [At] at hS; have := hRP2 k hk; omega))
    replace haK3 := haK3.upd hu23 (fun k hk hl hS => by (simp only [At] at hS; have := hRK2 k hk; omega))
    refine WL.nil (WX.keep [(0, _), (2, _), (3, _)] ⟨rfl, rfl, rfl, trivial⟩ ?_)
    change Blk _ _ #[.int .u8 14, Sv [], .int .i64 0, .bool false, .slice A5 _ c5, .slice A6 _ c6] _ at hb3
    refine WX.next (WC.seq (WC.region (WL.val rfl rfl rfl rfl (r_move rfl (ev_t rfl)) ?_)))
    refine WL.cons (SO.call (take_ok (u := [124]) hp) rfl body_31 ⟨(ev_t rfl), ev_c, trivial⟩ rfl rfl rfl rfl ?_)
    rintro v9 w24 ⟨rfl, hp2, hu24⟩
    have hs24 := hu24.size
    replace hU := hU.trans hu24 (by exact (fun _ _ h => h))
    replace hB1 := hB1.upd hu24 (by (simp only [At]; omega))
    replace hb3 := hb3.upd hu24 (by (simp only [At]; omega))
    replace haP3 := haP3.upd hu24 (fun k hk hl hS => by (simp only [At] at hS; have := hRP2 k hk; omega))
    replace haK3 := haK3.upd hu24 (fun k hk hl hS => by (simp only [At] at hS; have := hRK2 k hk; omega))
    have hp := hp2
    have hPs3 : Pst s (ex (musQ (patQ s1).2 [45, 62])).2 := hPst.trans hPs2
    refine WL.val rfl rfl rfl rfl (r_not rfl (ev_t rfl)) ?_
    refine WL.nil (WX.keep [(0, _), (2, _), (3, _), (43, _)] ⟨rfl, rfl, rfl, rfl, trivial⟩ (WX.next (WC.cond rfl (ev_t rfl) (fun hc11 => ?_) (fun hc11 => ?_))))
    ·try simp only [cS, ne_eq, Decidable.not_not] at hc11
     refine WC.exit (WX.blockPast rfl (WX.thenExit (WX.blockHere (WX.meet [(2, _), (3, _)] ⟨rfl, rfl, trivial⟩ ?_))))
     first
      | (have he1 : s1.e ≠ 0 := by omega
         rw [matL_stop (s := s1) he1] at hml
         obtain ⟨ys, hry, hmy⟩ := haP.done (by omega)
         obtain ⟨xs, hrx, hmx⟩ := haK.done (by omega)
         exact ⟨_, _, _, _, _, hml, hPst, hU, hp, TM.ex (hry.mono fun k hk => ⟨(hR k (.inl hk.1)).1, hk.2⟩) (hmy.mono fun k hk => ⟨(hR k (.inl hk.1)).1, hk.2⟩) (hrx.mono fun k hk => ⟨(hR k (.inr hk.1)).1, hk.2⟩) (hmx.mono fun k hk => ⟨(hR k (.inr hk.1)).1, hk.2⟩) (by simp [inK]), hB1, hb3, rfl⟩)
      | (have hq9 : isQ (ex (musQ (patQ s1).2 [45, 62])).2 [124] = false := by simpa using hc11
         rw [takQ_F hq9] at hp
         rw [matL_last he0 hq9] at hml
         obtain ⟨ys, hry, hmy⟩ := haP3.done (by simp only [List.length_append, List.length_cons, List.length_nil]; omega)
         obtain ⟨xs, hrx, hmx⟩ := haK3.done (by simp only [List.length_append, List.length_cons, List.length_nil]; omega)
         exact ⟨_, _, _, _, _, hml, hPs3, hU, hp, TM.ex (hry.mono fun k hk => ⟨hRP2 k hk.1, hk.2⟩) (hmy.mono fun k hk => ⟨hRP2 k hk.1, hk.2⟩) (hrx.mono fun k hk => ⟨hRK2 k hk.1, hk.2⟩) (hmx.mono fun k hk => ⟨hRK2 k hk.1, hk.2⟩) (by simp [inK]), hB1, hb3, rfl⟩)
    ·try simp only [cS, ne_eq, Decidable.not_not] at hc11
     refine WC.skip (WX.blockNormal (WX.meet [(0, _), (2, _), (3, _)] ⟨rfl, rfl, rfl, trivial⟩ ?_))
     have hq9 : isQ (ex (musQ (patQ s1).2 [45, 62])).2 [124] = true := by simpa using hc11
     rw [takQ_T hq9] at hp
     rw [matL_step he0 hq9] at hml
     have hle2 := hPs2.2.1
     have htl := tlQ_len (ex (musQ (patQ s1).2 [45, 62])).2
     refine ⟨k2, by omega, _, _, _, _, _, _, _, k2, rfl, by omega, hU, hp, hPs3.trans (Pst.tl _), haP3.mono (R' := fun k => RP2 k ∧ k < w24.heap.size) (fun k hk hl => ⟨hk, hl⟩), haK3.mono (R' := fun k => RK2 k ∧ k < w24.heap.size) (fun k hk hl => ⟨hk, hl⟩), fun k hk hK => ?_, fun k hk => ?_, ?_, ?_, hml, hB1, hb3, rfl⟩
     ·have h1 := hRPd k hk.1
      have h2 := hRKd k hK.1
      rcases h1 with h1 | h1 | h1 <;> rcases h2 with h2 | h2 | h2
      ·exact hdis k h1 h2
      ·have := hR k (.inl h1); omega
      ·have := hR k (.inl h1); omega
      ·have := hR k (.inr h2); omega
      ·omega
      ·omega
      ·have := hR k (.inr h2); omega
      ·omega
      ·omega
     ·rcases hk with hk | hk
      ·exact ⟨hRP2 k hk.1, hk.2⟩
      ·exact ⟨hRK2 k hk.1, hk.2⟩
     ·simp only [List.length_append, List.length_cons, List.length_nil]; omega
     ·simp only [List.length_append, List.length_cons, List.length_nil]; omega
   ·try simp only [cS, ne_eq, Decidable.not_not] at hc5
    refine WC.exit (WX.thenExit (WX.thenExit (WX.blockHere (WX.meet [(2, _), (3, _)] ⟨rfl, rfl, trivial⟩ ?_))))
    first
     | (have he1 : s1.e ≠ 0 := by omega
        rw [matL_stop (s := s1) he1] at hml
        obtain ⟨ys, hry, hmy⟩ := haP.done (by omega)
        obtain ⟨xs, hrx, hmx⟩ := haK.done (by omega)
        exact ⟨_, _, _, _, _, hml, hPst, hU, hp, TM.ex (hry.mono fun k hk => ⟨(hR k (.inl hk.1)).1, hk.2⟩) (hmy.mono fun k hk => ⟨(hR k (.inl hk.1)).1, hk.2⟩) (hrx.mono fun k hk => ⟨(hR k (.inr hk.1)).1, hk.2⟩) (hmx.mono fun k hk => ⟨(hR k (.inr hk.1)).1, hk.2⟩) (by simp [inK]), hB1, hb3, rfl⟩)
     | (have hq9 : isQ (ex (musQ (patQ s1).2 [45, 62])).2 [124] = false := by simpa using hc11
        rw [takQ_F hq9] at hp
        rw [matL_last he0 hq9] at hml
        obtain ⟨ys, hry, hmy⟩ := haP3.done (by simp only [List.length_append, List.length_cons, List.length_nil]; omega)
        obtain ⟨xs, hrx, hmx⟩ := haK3.done (by simp only [List.length_append, List.length_cons, List.length_nil]; omega)
        exact ⟨_, _, _, _, _, hml, hPs3, hU, hp, TM.ex (hry.mono fun k hk => ⟨hRP2 k hk.1, hk.2⟩) (hmy.mono fun k hk => ⟨hRP2 k hk.1, hk.2⟩) (hrx.mono fun k hk => ⟨hRK2 k hk.1, hk.2⟩) (hmx.mono fun k hk => ⟨hRK2 k hk.1, hk.2⟩) (by simp [inK]), hB1, hb3, rfl⟩)
 ·clear hU hp hB1 hb3 hac2 hst hG2 hG
  rintro E wA ⟨ps, ks, s2, vP, vK, hml, hPst, hU, hp, htx, hB1, hb3, rfl⟩
  have hsA := hU.size
  have hlt1 := hB1.lt
  have hlt3 := hb3.lt
  obtain ⟨tk, ts, tn, trc, tps, tks, tA9, tp9, tA, tp, tys, txs, het, hcs9, _⟩ := htx.mk6
  obtain ⟨_, _, _, _, rfl, rfl⟩ : _ = _ ∧ _ = _ ∧ _ = _ ∧ _ = _ ∧ vP = _ ∧ vK = _ := by simpa using hcs9
  refine WC.seq (WC.region (WL.val rfl rfl rfl rfl (r_loadAgg (vs := [_, _, _, _, _, _]) rfl (ev_t rfl) agg_36 size_36 (Blk.cellsL hb3)) ?_))
  refine WL.cons (SO.storeAll (us := [_, _, _, _, _, _]) rfl (ev_t rfl) (ev_t rfl) size_36 hB1 rfl rfl rfl rfl rfl ?_)
  intro w25 hu25 hB1 hz25
  have hs25 := hu25.size
  replace hU := hU.trans hu25 (by (intro k hl hk; (try simp only [At, New, Grow, From, No] at hk ⊢); omega))
  replace hp := hp.upd hu25 (by (intro k hk hS; first | (simp only [At] at hS; omega) | (have := hR k (.inl hS); omega) | (have := hR k (.inr hS); omega)))
  replace htx := htx.upd hu25 (fun k hk hl hS => by (simp only [At] at hS; omega))
  replace hb3 := hb3.upd hu25 (by (simp only [At]; omega))
  refine WL.nil (WX.keep [(2, _)] ⟨rfl, trivial⟩ (WX.next (WC.ret (WX.retC (vs := [_, _, _, _, _, _]) rfl rfl agg_36 size_36 (Blk.cellsL hB1) ?_))))
  rw [hmat, hml]
  exact ⟨_, rfl, htx.mono fun k hk => by simp only [Bt]; omega, hp, hPst, hU⟩
end Go.Proofs.YtomkdhkkggbioaaGreatDoor

/-
 The reference's parser: an expression without semicolons.
-/
namespace Go.Proofs.YtomkdhkkggbioaaGreatDoor
open Go
set_option linter.unusedSimpArgs false
set_option linter.unusedVariables false

set_option maxHeartbeats 8000000 in
theorem one_ok {n : Nat} (ihE : PC 59 (eq9 n).expr n) (ihO : PC 88 (eq9 n).one n) (ihB : BinC n) (ihM : PC 99 (matB (eq9 n).expr) n) (ihP : OpC (eq9 n).op n 0) : PC 88 (eq9 (n + 1)).one (n + 1) := by
 intro w r B0 A s hp hd hn
 obtain ⟨hI1, hI2, hI3, hI4, hI5⟩ := hp.I
 show Ret _ _ _ _ fun v w' => ∃ c, v = .agg c.toArray ∧ TM w' (Bt w.heap.size w'.heap.size) c (oneB (eq9 n) s).1 ∧ PS w' r B0 A (oneB (eq9 n) s).2 ∧ Pst s (oneB (eq9 n) s).2 ∧ Upd (At r) w w'
 have hod := opnQ_d s
 have hmo := MoE.all n
 refine enterRet (vs := [_]) (N := 111) Tryz.func88 rfl rfl rfl ?_
 have hU := Upd.refl (At r) w
 refine WC.keep [(0, _)] ⟨rfl, trivial⟩ (WC.seq (WC.region (WL.cons (SO.alloc rfl rfl rfl rfl (r_alloc rfl zero_36) ?_))))
 intro w1 hu1 hB1 hz1
 have hs1 := hu1.size
 replace hU := hU.trans hu1 (by exact (fun _ _ h => h.elim))
 replace hp := hp.upd hu1 (by exact (fun _ _ h => h))
 refine WL.nil (WX.keep [(0, _), (2, _)] ⟨rfl, rfl, trivial⟩ (WX.next (WC.seq (WC.region (WL.cons (SO.alloc rfl rfl rfl rfl (r_alloc rfl zero_36) ?_))))))
 intro w2 hu2 hB2 hz2
 have hs2 := hu2.size
 replace hU := hU.trans hu2 (by exact (fun _ _ h => h.elim))
 replace hp := hp.upd hu2 (by exact (fun _ _ h => h))
 replace hB1 := hB1.upd hu2 (by exact (fun h => h))
 refine WL.nil (WX.keep [(0, _), (2, _), (3, _)] ⟨rfl, rfl, rfl, trivial⟩ ?_)
 have hb3 := hB2
 change Blk _ _ #[.int .u8 0, .string ⟨#[]⟩, .int .i64 0, .bool false, .slice none 0 0, .slice none 0 0] 36 at hb3
 have hlt3 := hb3.lt
 obtain ⟨b3, hb3e⟩ : ∃ b3, b3 = w1.heap.size := ⟨_, rfl⟩
 rw [← hb3e] at hb3 hlt3 ⊢
 have hb3w : w.heap.size < b3 := by omega
 refine WX.next ?_
 -- cut 2: live [0, 2, 3]
 refine WC.cut (fun E wA => ∃ (y0 y1 y2 y3 y4 y5 : Value) (x : Ex) (s2 : St), oneB (eq9 n) s = (x, clsQ s2) ∧ Pst (opnQ s) s2 ∧ Upd (At r) w wA ∧ PS wA r B0 A s2 ∧ TM wA (Bt (b3 + 1) wA.heap.size) [y0, y1, y2, y3, y4, y5] x ∧ Blk wA w.heap.size #[.int .u8 0, .string ⟨#[]⟩, .int .i64 0, .bool false, .slice none 0 0, .slice none 0 0] 36 ∧ Blk wA b3 #[y0, y1, y2, y3, y4, y5] 36 ∧ E = [(0, (.pointer (some ⟨r, 0, none⟩))), (2, .pointer (some ⟨w.heap.size, 0, none⟩)), (3, .pointer (some ⟨b3, 0, none⟩))]) ?_ ?_
 ·refine WC.seq (WC.region (WL.val rfl rfl rfl rfl (r_move rfl (ev_t rfl)) ?_))
  refine WL.cons (SO.call (open_ok9 hp hd) rfl body_87 ⟨(ev_t rfl), trivial⟩ rfl rfl rfl rfl ?_)
  rintro v9 w3 ⟨rfl, hp2, hu3⟩
  have hs3 := hu3.size
  replace hU := hU.trans hu3 (by exact (fun _ _ h => h))
  replace hB1 := hB1.upd hu3 (by (simp only [At, Bt]; omega))
  replace hb3 := hb3.upd hu3 (by (simp only [At, Bt]; omega))
  have hp := hp2
  refine WL.nil (WX.keep [(0, _), (2, _), (3, _), (7, _)] ⟨rfl, rfl, rfl, rfl, trivial⟩ (WX.next (WC.cond rfl (ev_t rfl) (fun hc2 => ?_) (fun hc2 => ?_))))
  ·try simp only [cS, ne_eq, Decidable.not_not] at hc2
   have h0 : (opnQ s).e = 0 := by simpa using hc2
   have hd5 := opnQ_ok h0
   have hone : oneB (eq9 n) s = ((oneI (eq9 n) (opnQ s)).1, clsQ (oneI (eq9 n) (opnQ s)).2) := by unfold oneB; rw [if_pos h0]
   have hmI := hmo.oneI (opnQ s)
   have hsz2 : b3 < w3.heap.size := by omega
   refine WC.block (WC.seq (WC.region (WL.val rfl rfl rfl rfl (r_move rfl (ev_t rfl)) ?_)))
   refine WL.cons (SO.call (take_ok (u := [108, 101, 116]) hp) rfl body_31 ⟨(ev_t rfl), ev_c, trivial⟩ rfl rfl rfl rfl ?_)
   rintro v9 w4 ⟨rfl, hp2, hu4⟩
   have hs4 := hu4.size
   replace hU := hU.trans hu4 (by exact (fun _ _ h => h))
   replace hB1 := hB1.upd hu4 (by (simp only [At, Bt]; omega))
   replace hb3 := hb3.upd hu4 (by (simp only [At, Bt]; omega))
   have hp := hp2
   refine WL.val rfl rfl rfl rfl (r_assign rfl (ev_t rfl)) ?_
   refine WL.nil (WX.keep [(0, _), (2, _), (3, _), (10, _)] ⟨rfl, rfl, rfl, rfl, trivial⟩ (WX.next (WC.cond rfl (ev_t rfl) (fun hc4 => ?_) (fun hc4 => ?_))))
   ·rw [takQ_T hc4] at hp
    refine WC.seq (WC.region (WL.val rfl rfl rfl rfl (r_move rfl (ev_t rfl)) ?_))
    refine WL.cons (SO.call (ihB _ _ _ _ _ hp (by rw [tlQ_d]; omega) (by rw [tlQ_d]; omega)) rfl body_58 ⟨(ev_t rfl), trivial⟩ rfl rfl rfl rfl ?_)
    rintro v9 w5 ⟨g, tx, rc, y, hbin, rfl, hac, hp2, hst, hu5⟩
    have hs5 := hu5.size
    replace hU := hU.trans hu5 (by exact (fun _ _ h => h))
    replace hB1 := hB1.upd hu5 (by (simp only [At, Bt]; omega))
    replace hb3 := hb3.upd hu5 (by (simp only [At, Bt]; omega))
    have hp := hp2
    have haR := hac.toR
    have hsd := hst.1
    rw [tlQ_d] at hsd
    refine WL.cons (SO.storeAll (us := [_, _, _, _, _, _]) rfl (ev_t rfl) (ev_t rfl) size_36 hb3 rfl rfl rfl rfl rfl ?_)
    intro w6 hu6 hb3 hz6
    have hs6 := hu6.size
    replace hU := hU.trans hu6 (by (intro k hl hk; (try simp only [At, New, Grow, From, No] at hk ⊢); omega))
    replace hB1 := hB1.upd hu6 (by (simp only [At, Bt]; omega))
    replace hp := hp.upd hu6 (by (intro k hk hS; first | (simp only [At, Bt] at hS; omega) | (have := hG k hS; omega)))
    replace haR := haR.upd hu6 (fun k hk hl hS => by (simp only [At, Bt] at hS hk; omega))
    refine WL.nil (WX.keep [(0, _), (2, _), (3, _)] ⟨rfl, rfl, rfl, trivial⟩ (WX.next (WC.seq (WC.region (WL.val rfl rfl rfl rfl (r_move rfl (ev_t rfl)) ?_)))))
    refine WL.cons (SO.call (must_ok (u := [105, 110]) hp) rfl body_84 ⟨(ev_t rfl), ev_c, trivial⟩ rfl rfl rfl rfl ?_)
    rintro v9 w7 ⟨hp2, hu7⟩
    have hs7 := hu7.size
    replace hU := hU.trans hu7 (by exact (fun _ _ h => h))
    replace hB1 := hB1.upd hu7 (by (simp only [At, Bt]; omega))
    replace hb3 := hb3.upd hu7 (by (simp only [At, Bt]; omega))
    replace haR := haR.upd hu7 (fun k hk hl hS => by (simp only [At, Bt] at hS hk; omega))
    have hp := hp2
    refine WL.nil (WX.keep [(0, _), (2, _), (3, _)] ⟨rfl, rfl, rfl, trivial⟩ (WX.next (WC.seq (WC.region (WL.val rfl rfl rfl rfl (r_move rfl (ev_t rfl)) ?_)))))
    refine WL.cons (SO.call (ihE _ _ _ _ _ hp (by rw [musQ_d]; omega) (by rw [musQ_d]; omega)) rfl body_59 ⟨(ev_t rfl), trivial⟩ rfl rfl rfl rfl ?_)
    rintro v9 w8 ⟨c9, rfl, ht, hp2, hst2, hu8⟩
    have hs8 := hu8.size
    replace hU := hU.trans hu8 (by exact (fun _ _ h => h))
    replace hB1 := hB1.upd hu8 (by (simp only [At, Bt]; omega))
    replace hb3 := hb3.upd hu8 (by (simp only [At, Bt]; omega))
    replace haR := haR.upd hu8 (fun k hk hl hS => by (simp only [At, Bt] at hS hk; omega))
    have hp := hp2
    obtain ⟨tk, ts, tn, trc, tps, tks, tA9, tp9, tA, tp, tys, txs, het, rfl, _⟩ := ht.mk6
    refine WL.cons (SO.alloc rfl rfl rfl rfl (r_alloc rfl zero_36) ?_)
    intro w9 hu9 hB9 hz9
    have hs9 := hu9.size
    replace hU := hU.trans hu9 (by exact (fun _ _ h => h.elim))
    replace hB1 := hB1.upd hu9 (by exact (fun h => h))
    replace hb3 := hb3.upd hu9 (by exact (fun h => h))
    replace haR := haR.upd hu9 (fun k hk hl hS => by exact (show False from hS).elim)
    replace hp := hp.upd hu9 (by exact (fun _ _ h => h))
    replace ht := ht.upd hu9 (fun k hk hl hS => by exact (show False from hS).elim)
    refine WL.cons (SO.storeAll (us := [_, _, _, _, _, _]) rfl (ev_t rfl) (ev_t rfl) size_36 hB9 rfl rfl rfl rfl rfl ?_)
    intro w10 hu10 hB9 hz10
    have hs10 := hu10.size
    replace hU := hU.trans hu10 (by (intro k hl hk; (try simp only [At, New, Grow, From, No] at hk ⊢); omega))
    replace hB1 := hB1.upd hu10 (by (simp only [At, Bt]; omega))
    replace hb3 := hb3.upd hu10 (by (simp only [At, Bt]; omega))
    replace haR := haR.upd hu10 (fun k hk hl hS => by (simp only [At, Bt] at hS hk; omega))
    replace hp := hp.upd hu10 (by (intro k hk hS; first | (simp only [At, Bt] at hS; omega) | (have := hG k hS; omega)))
    replace ht := ht.upd hu10 (fun k hk hl hS => by (simp only [At, Bt] at hS hk; omega))
    refine WL.nil (WX.keep [(0, _), (2, _), (3, _), (4, _)] ⟨rfl, rfl, rfl, rfl, trivial⟩ ?_)
    have hb4 := hB9
    change Blk _ _ #[.int .u8 (tk : Int), Sv ts, .int .i64 tn, .bool trc, .slice tA9 tps.length tp9, .slice tA tks.length tp] _ at hb4
    refine WX.next (WC.region (WL.val rfl rfl rfl rfl (r_field0 rfl (ev_t rfl) fld_36_5) ?_))
    refine WL.val rfl rfl rfl rfl (r_load rfl (ev_t rfl) flat_34 (Blk.cell hb3 rfl)) ?_
    refine WL.val rfl rfl rfl rfl (r_loadAgg (vs := [_, _, _, _, _, _]) rfl (ev_t rfl) agg_36 size_36 (Blk.cellsL hb4)) ?_
    refine WL.cons (SO.alloc rfl rfl rfl rfl (r_buildSlice6 rfl (ev_t rfl) row_34) ?_)
    intro w11 hu11 hB11 hz11
    have hs11 := hu11.size
    replace hU := hU.trans hu11 (by exact (fun _ _ h => h.elim))
    replace hB1 := hB1.upd hu11 (by exact (fun h => h))
    replace hb3 := hb3.upd hu11 (by exact (fun h => h))
    replace haR := haR.upd hu11 (fun k hk hl hS => by exact (show False from hS).elim)
    replace hp := hp.upd hu11 (by exact (fun _ _ h => h))
    replace ht := ht.upd hu11 (fun k hk hl hS => by exact (show False from hS).elim)
    replace hb4 := hb4.upd hu11 (by exact (fun h => h))
    refine WL.cons (SO.appendR haR ht (fun k hk hR9 => by simp only [Bt] at hk hR9; omega) (Rd.of_blk (F := At _) (n := 1) (sz := 6) hB11 rfl rfl (by omega)) row_34 (by simp) rfl rfl (ev_t rfl) (ev_t rfl) rfl rfl rfl rfl ?_)
    intro v5 w12 haR2 hu12
    have hs12 := hu12.size
    replace hU := hU.trans hu12 (by (intro k hl hk; first | exact hk | exact (show False from hk).elim | (have := hG k hk; omega) | (simp only [At, Bt] at *; exfalso; omega)))
    replace hB1 := hB1.upd hu12 (by (simp only [At, Bt]; omega))
    replace hb3 := hb3.upd hu12 (by (simp only [At, Bt]; omega))
    replace hp := hp.upd hu12 (by (intro k hk hS; first | (simp only [At, Bt] at hS; omega) | (have := hG k hS; omega)))
    replace haR2 := haR2.mono (R' := Bt (b3 + 1) w12.heap.size) (fun k hk hl => by simp only [Bt] at *; omega)
    obtain ⟨A5, c5, rfl, _⟩ := haR2.form
    refine WL.val rfl rfl rfl rfl (r_field0 rfl (ev_t rfl) fld_36_5) ?_
    refine WL.cons (SO.store rfl (ev_t rfl) (ev_t rfl) size_34 hb3 rfl rfl rfl rfl rfl ?_)
    intro w13 hu13 hb3 hz13
    have hs13 := hu13.size
    replace hU := hU.trans hu13 (by (intro k hl hk; (try simp only [At, New, Grow, From, No] at hk ⊢); omega))
    replace hB1 := hB1.upd hu13 (by (simp only [At, Bt]; omega))
    replace hp := hp.upd hu13 (by (intro k hk hS; first | (simp only [At, Bt] at hS; omega) | (have := hG k hS; omega)))
    replace haR2 := haR2.upd hu13 (fun k hk hl hS => by (simp only [At, Bt] at hS hk; omega))
    refine WL.nil (WX.keep [(0, _), (2, _), (3, _)] ⟨rfl, rfl, rfl, trivial⟩ ?_)
    change Blk _ _ #[.int .u8 12, Sv tx, .int .i64 0, .bool rc, .slice none 0 0, .slice A5 _ c5] _ at hb3
    have he9 : oneI (eq9 n) (opnQ s) = (Ex.mk 12 tx 0 rc [] ([y] ++ [((eq9 n).expr (musQ (binB (eq9 n).expr (tlQ (opnQ s))).2 [105, 110])).1]), ((eq9 n).expr (musQ (binB (eq9 n).expr (tlQ (opnQ s))).2 [105, 110])).2) := by
     unfold oneI
     rw [if_pos hc4]
     simp only
     rw [hbin]
     rfl
    refine WX.blockNormal (WX.meet [(0, _), (2, _), (3, _)] ⟨rfl, rfl, rfl, trivial⟩ ?_)
    first
     | (rw [he9] at hone hmI
        obtain ⟨xs, hrx, hmx⟩ := haR2.done (by simp)
        exact ⟨_, _, _, _, _, _, _, _, hone, hmI, hU, hp, TM.exK (hrx.mono fun k hk => by simp only [Bt] at *; omega) (hmx.mono fun k hk => by simp only [Bt] at *; omega) (by simp [inK]), hB1, hb3, rfl⟩)
     | (rw [he9] at hone hmI
        obtain ⟨xs, hrx, hmx⟩ := hac.done (by simp)
        exact ⟨_, _, _, _, _, _, _, _, hone, hmI, hU, hp, TM.exK (hrx.mono fun k hk => by simp only [Bt] at *; omega) (hmx.mono fun k hk => by simp only [Bt] at *; omega) (by simp [inK]), hB1, hb3, rfl⟩)
     | (rw [he9] at hone hmI
        exact ⟨_, _, _, _, _, _, _, _, hone, hmI, hU, hp, ht2.mono fun k hk => by simp only [Bt] at *; omega, hB1, hb3, rfl⟩)
     | (rw [he9] at hone hmI
        exact ⟨_, _, _, _, _, _, _, _, hone, hmI, hU, hp, ht.mono fun k hk => by simp only [Bt] at *; omega, hB1, hb3, rfl⟩)
     | (have he8 : oneB (eq9 n) s = (Ex.z, clsQ (opnQ s)) := by
          unfold oneB
          rw [if_neg (by simpa using hc2)]
        exact ⟨_, _, _, _, _, _, _, _, he8, Pst.refl _, hU, hp, TM.ex0 (by simp [inK]), hB1, hb3, rfl⟩)
   ·rw [takQ_F hc4] at hp
    refine WC.seq (WC.region (WL.val rfl rfl rfl rfl (r_move rfl (ev_t rfl)) ?_))
    refine WL.cons (SO.call (take_ok (u := [102, 117, 110]) hp) rfl body_31 ⟨(ev_t rfl), ev_c, trivial⟩ rfl rfl rfl rfl ?_)
    rintro v9 w14 ⟨rfl, hp2, hu14⟩
    have hs14 := hu14.size
    replace hU := hU.trans hu14 (by exact (fun _ _ h => h))
    replace hB1 := hB1.upd hu14 (by (simp only [At, Bt]; omega))
    replace hb3 := hb3.upd hu14 (by (simp only [At, Bt]; omega))
    have hp := hp2
    refine WL.val rfl rfl rfl rfl (r_assign rfl (ev_t rfl)) ?_
    refine WL.nil (WX.keep [(0, _), (2, _), (3, _), (25, _)] ⟨rfl, rfl, rfl, rfl, trivial⟩ (WX.next (WC.cond rfl (ev_t rfl) (fun hc9 => ?_) (fun hc9 => ?_))))
    ·rw [takQ_T hc9] at hp
     obtain ⟨t1, ht1⟩ : ∃ t1, t1 = txtQ (tlQ (opnQ s)) 1 := ⟨_, rfl⟩
     obtain ⟨nm9, hnm9⟩ : ∃ nm9, nm9 = nmsQ t1.2.ts.length [t1.1] t1.2 := ⟨_, rfl⟩
     have he9 : oneI (eq9 n) (opnQ s) = (funQ nm9.1 ((eq9 n).expr (musQ nm9.2 [45, 62])).1, ((eq9 n).expr (musQ nm9.2 [45, 62])).2) := by
      unfold oneI
      rw [if_neg (by simp [hc4]), if_pos hc9, hnm9, ht1]
     have hP1 : Pst (opnQ s) t1.2 := by rw [ht1]; exact (Pst.tl _).trans (Pst.txt _ _)
     have hP2 : Pst (opnQ s) nm9.2 := hP1.trans (by rw [hnm9]; exact Mo.nms _ _ _)
     refine WC.seq (WC.region (WL.val rfl rfl rfl rfl (r_move rfl (ev_t rfl)) ?_))
     refine WL.cons (SO.call (text_ok9 (k := 1) hp (by decide)) rfl body_82 ⟨(ev_t rfl), ev_c, trivial⟩ rfl rfl rfl rfl ?_)
     rintro v9 w15 ⟨rfl, hp2, hu15⟩
     have hs15 := hu15.size
     replace hU := hU.trans hu15 (by exact (fun _ _ h => h))
     replace hB1 := hB1.upd hu15 (by (simp only [At, Bt]; omega))
     replace hb3 := hb3.upd hu15 (by (simp only [At, Bt]; omega))
     have hp := hp2
     rw [← ht1] at hp ⊢
     refine WL.cons (SO.alloc rfl rfl rfl rfl (r_buildSlice1 (vs := [_]) rfl ⟨(ev_t rfl), trivial⟩ rfl row_66 rfl rfl) ?_)
     intro w16 hu16 hB16 hz16
     have hs16 := hu16.size
     replace hU := hU.trans hu16 (by exact (fun _ _ h => h.elim))
     replace hB1 := hB1.upd hu16 (by exact (fun h => h))
     replace hb3 := hb3.upd hu16 (by exact (fun h => h))
     replace hp := hp.upd hu16 (by exact (fun _ _ h => h))
     refine WL.val rfl rfl rfl rfl (r_assign rfl (ev_t rfl)) ?_
     refine WL.nil (WX.keep [(0, _), (2, _), (3, _), (5, _)] ⟨rfl, rfl, rfl, rfl, trivial⟩ ?_)
     have hac : Acc 9 w16 (b3 + 1) _ _ [t1.1] := Acc.single (F := No) hB16 rfl TM.sv (fun k hk => hk.elim) (by omega)
     refine WX.next (WC.seq (WC.block ?_))
     -- loop 1: live [0, 2, 3, 5]
     refine WC.keep [(0, _), (2, _), (3, _), (5, _)] ⟨rfl, rfl, rfl, rfl, trivial⟩ (WC.loop (fun qq E wA => ∃ (s1 : St) (ks : List (List UInt8)) (G : Nat → Prop) (v1 : Value) (k1 : Nat), qq = k1 ∧ s1.ts.length ≤ k1 ∧ Upd (At r) w wA ∧ PS wA r B0 A s1 ∧ Acc 9 wA (b3 + 1) G v1 ks ∧ ks.length + s1.ts.length ≤ 2100 ∧ nm9 = nmsQ k1 ks s1 ∧ Blk wA w.heap.size #[.int .u8 0, .string ⟨#[]⟩, .int .i64 0, .bool false, .slice none 0 0, .slice none 0 0] 36 ∧ Blk wA b3 #[.int .u8 0, .string ⟨#[]⟩, .int .i64 0, .bool false, .slice none 0 0, .slice none 0 0] 36 ∧ E = [(0, (.pointer (some ⟨r, 0, none⟩))), (2, .pointer (some ⟨w.heap.size, 0, none⟩)), (3, .pointer (some ⟨b3, 0, none⟩)), (5, v1)]) (t1.2.ts.length) ?_ ?_)
     ·exact ⟨_, _, _, _, _, rfl, Nat.le_refl _, hU, hp, hac, by have := hP1.2.1; have := opnQ_len s; simp only [List.length_cons, List.length_nil]; omega, hnm9, hB1, hb3, rfl⟩
     ·clear hU hp hB1 hb3 hac
      rintro qq E wA ⟨s1, ks, G, v1, k1, rfl, hk1, hU, hp, hac, hkl, hnm, hB1, hb3, rfl⟩
      obtain ⟨A1, c1, rfl, hcc1⟩ := hac.form
      have hG := hac.lt
      have hI := hp.I
      have hsC := hU.size
      have hlt1 := hB1.lt
      have hlt3 := hb3.lt
      refine WC.seq (WC.seq (WC.region (WL.val rfl rfl rfl rfl (r_move rfl (ev_t rfl)) ?_)))
      refine WL.cons (SO.call (kind_ok (k := 1) hp) rfl body_32 ⟨(ev_t rfl), ev_c, trivial⟩ rfl rfl rfl rfl ?_)
      rintro v9 w17 ⟨rfl, hu17⟩
      have hs17 := hu17.size
      replace hU := hU.trans hu17 (by exact (fun _ _ h => h.elim))
      replace hp := hp.upd hu17 (by exact (fun _ _ h => h))
      replace hac := hac.upd hu17 (fun k hk hl hS => by exact (show False from hS).elim)
      replace hB1 := hB1.upd hu17 (by exact (fun h => h))
      replace hb3 := hb3.upd hu17 (by exact (fun h => h))
      refine WL.nil (WX.keep [(0, _), (2, _), (3, _), (5, _), (32, _)] ⟨rfl, rfl, rfl, rfl, rfl, trivial⟩ (WX.next (WC.cond rfl (ev_t rfl) (fun hc11 => ?_) (fun hc11 => ?_))))
      ·obtain ⟨k2, rfl⟩ : ∃ k2, qq = k2 + 1 := ⟨qq - 1, by omega⟩
       rw [nmsQ_step hc11] at hnm
       have htl := tlQ_len s1
       refine WC.skip (WX.next (WC.block (WC.region (WL.val rfl rfl rfl rfl (r_move rfl (ev_t rfl)) ?_))))
       refine WL.val rfl rfl rfl rfl (r_move rfl (ev_t rfl)) ?_
       refine WL.cons (SO.call (text_ok9 (k := 1) hp (by decide)) rfl body_82 ⟨(ev_t rfl), ev_c, trivial⟩ rfl rfl rfl rfl ?_)
       rintro v9 w18 ⟨rfl, hp2, hu18⟩
       have hs18 := hu18.size
       replace hU := hU.trans hu18 (by exact (fun _ _ h => h))
       replace hac := hac.upd hu18 (fun k hk hl hS => by (simp only [At] at hS; omega))
       replace hB1 := hB1.upd hu18 (by (simp only [At, Bt]; omega))
       replace hb3 := hb3.upd hu18 (by (simp only [At, Bt]; omega))
       have hp := hp2
       rw [txtQ_T hc11]
       replace hp : PS w18 r B0 A (tlQ s1) := by rw [txtQ_T hc11] at hp; exact hp
       refine WL.cons (SO.alloc rfl rfl rfl rfl (r_buildSlice1 (vs := [_]) rfl ⟨(ev_t rfl), trivial⟩ rfl row_66 rfl rfl) ?_)
       intro w19 hu19 hB19 hz19
       have hs19 := hu19.size
       replace hU := hU.trans hu19 (by exact (fun _ _ h => h.elim))
       replace hac := hac.upd hu19 (fun k hk hl hS => by exact (show False from hS).elim)
       replace hB1 := hB1.upd hu19 (by exact (fun h => h))
       replace hb3 := hb3.upd hu19 (by exact (fun h => h))
       replace hp := hp.upd hu19 (by exact (fun _ _ h => h))
       refine WL.cons (SO.appendA (a := s1.hd.s) hac (F2 := No) TM.sv (fun k hk => hk.elim) (Rd.of_blk (F := At _) (n := 1) (sz := 1) hB19 rfl rfl (by omega)) row_66 (by omega) rfl rfl (ev_t rfl) (ev_t rfl) rfl rfl rfl rfl ?_ (by omega))
       intro v5 w20 hac2 hu20 hBw
       have hs20 := hu20.size
       replace hU := hU.trans hu20 (by (intro k hl hk; first | exact hk | exact (show False from hk).elim | (have := hG k hk; omega) | (simp only [At, Bt] at *; exfalso; omega)))
       replace hB1 := hB1.upd hu20 (by (intro hS; have := hG _ hS; omega))
       replace hb3 := hb3.upd hu20 (by (intro hS; have := hG _ hS; omega))
       replace hp := hp.upd hu20 (by (intro k hk hS; first | (simp only [At, Bt] at hS; omega) | (have := hG k hS; omega)))
       refine WL.val rfl rfl rfl rfl (r_assign rfl (ev_t rfl)) ?_
       refine WL.nil (WX.keep [(0, _), (2, _), (3, _), (5, _)] ⟨rfl, rfl, rfl, rfl, trivial⟩ (WX.blockNormal (WX.meet [(0, _), (2, _), (3, _), (5, _)] ⟨rfl, rfl, rfl, rfl, trivial⟩ ?_)))
       refine ⟨k2, by omega, _, _, _, _, _, rfl, by omega, hU, hp, hac2, ?_, hnm, hB1, hb3, rfl⟩
       simp only [List.length_append, List.length_cons, List.length_nil]
       omega
      ·rw [nmsQ_stop hc11] at hnm
       subst hnm
       have hd4 : s1.d = (opnQ s).d := hP2.1
       refine WC.exit (WX.thenExit (WX.thenExit (WX.blockHere (WX.next (WC.seq (WC.region (WL.val rfl rfl rfl rfl (r_move rfl (ev_t rfl)) ?_)))))))
       refine WL.cons (SO.call (must_ok (u := [45, 62]) hp) rfl body_84 ⟨(ev_t rfl), ev_c, trivial⟩ rfl rfl rfl rfl ?_)
       rintro v9 w21 ⟨hp2, hu21⟩
       have hs21 := hu21.size
       replace hU := hU.trans hu21 (by exact (fun _ _ h => h))
       replace hac := hac.upd hu21 (fun k hk hl hS => by (simp only [At] at hS; omega))
       replace hB1 := hB1.upd hu21 (by (simp only [At, Bt]; omega))
       replace hb3 := hb3.upd hu21 (by (simp only [At, Bt]; omega))
       have hp := hp2
       refine WL.nil (WX.keep [(0, _), (2, _), (3, _), (5, _)] ⟨rfl, rfl, rfl, rfl, trivial⟩ (WX.next (WC.region (WL.val rfl rfl rfl rfl (r_move rfl (ev_t rfl)) ?_))))
       refine WL.val rfl rfl rfl rfl (r_move rfl (ev_t rfl)) ?_
       refine WL.cons (SO.call (ihE _ _ _ _ _ hp (by (try simp only [tlQ_d, musQ_d, takQ_d, txtQ_d]); omega) (by (try simp only [tlQ_d, musQ_d, takQ_d, txtQ_d]); omega)) rfl body_59 ⟨(ev_t rfl), trivial⟩ rfl rfl rfl rfl ?_)
       rintro v9 w22 ⟨c9, rfl, ht, hp2, hst, hu22⟩
       have hs22 := hu22.size
       replace hU := hU.trans hu22 (by exact (fun _ _ h => h))
       replace hac := hac.upd hu22 (fun k hk hl hS => by (simp only [At] at hS; omega))
       replace hB1 := hB1.upd hu22 (by (simp only [At, Bt]; omega))
       replace hb3 := hb3.upd hu22 (by (simp only [At, Bt]; omega))
       have hp := hp2
       have hsd := hst.1
       try simp only [tlQ_d, musQ_d, takQ_d, txtQ_d] at hsd
       obtain ⟨xs, hrx, hmx⟩ := hac.done (by omega)
       rw [Ms.sv hmx] at hrx
       refine WL.cons (SO.call (funs_ok hrx ht) rfl body_86 ⟨(ev_t rfl), (ev_t rfl), trivial⟩ rfl rfl rfl rfl ?_)
       rintro v9 w23 ⟨c8, rfl, ht2, hu23⟩
       have hs23 := hu23.size
       replace hU := hU.trans hu23 (by exact (fun _ _ h => h.elim))
       replace hac := hac.upd hu23 (fun k hk hl hS => by exact (show False from hS).elim)
       replace hB1 := hB1.upd hu23 (by exact (fun h => h))
       replace hb3 := hb3.upd hu23 (by exact (fun h => h))
       replace hp := hp.upd hu23 (by exact (fun _ _ h => h))
       replace ht := ht.upd hu23 (fun k hk hl hS => by exact (show False from hS).elim)
       obtain ⟨tk, ts, tn, trc, tps, tks, tA9, tp9, tA, tp, tys, txs, het, rfl, _⟩ := ht2.mk6
       refine WL.cons (SO.storeAll (us := [_, _, _, _, _, _]) rfl (ev_t rfl) (ev_t rfl) size_36 hb3 rfl rfl rfl rfl rfl ?_)
       intro w24 hu24 hb3 hz24
       have hs24 := hu24.size
       replace hU := hU.trans hu24 (by (intro k hl hk; (try simp only [At, New, Grow, From, No] at hk ⊢); omega))
       replace hB1 := hB1.upd hu24 (by (simp only [At, Bt]; omega))
       replace hp := hp.upd hu24 (by (intro k hk hS; first | (simp only [At, Bt] at hS; omega) | (have := hG k hS; omega)))
       replace ht := ht.upd hu24 (fun k hk hl hS => by (simp only [At, Bt] at hS hk; omega))
       replace ht2 := ht2.upd hu24 (fun k hk hl hS => by (simp only [At, Bt] at hS hk; omega))
       refine WL.nil (WX.keep [(0, _), (2, _), (3, _)] ⟨rfl, rfl, rfl, trivial⟩ (WX.blockNormal (WX.meet [(0, _), (2, _), (3, _)] ⟨rfl, rfl, rfl, trivial⟩ ?_)))
       first
        | (rw [he9] at hone hmI
           obtain ⟨xs, hrx, hmx⟩ := haR2.done (by simp)
           exact ⟨_, _, _, _, _, _, _, _, hone, hmI, hU, hp, TM.exK (hrx.mono fun k hk => by simp only [Bt] at *; omega) (hmx.mono fun k hk => by simp only [Bt] at *; omega) (by simp [inK]), hB1, hb3, rfl⟩)
        | (rw [he9] at hone hmI
           obtain ⟨xs, hrx, hmx⟩ := hac.done (by simp)
           exact ⟨_, _, _, _, _, _, _, _, hone, hmI, hU, hp, TM.exK (hrx.mono fun k hk => by simp only [Bt] at *; omega) (hmx.mono fun k hk => by simp only [Bt] at *; omega) (by simp [inK]), hB1, hb3, rfl⟩)
        | (rw [he9] at hone hmI
           exact ⟨_, _, _, _, _, _, _, _, hone, hmI, hU, hp, ht2.mono fun k hk => by simp only [Bt] at *; omega, hB1, hb3, rfl⟩)
        | (rw [he9] at hone hmI
           exact ⟨_, _, _, _, _, _, _, _, hone, hmI, hU, hp, ht.mono fun k hk => by simp only [Bt] at *; omega, hB1, hb3, rfl⟩)
        | (have he8 : oneB (eq9 n) s = (Ex.z, clsQ (opnQ s)) := by
             unfold oneB
             rw [if_neg (by simpa using hc2)]
           exact ⟨_, _, _, _, _, _, _, _, he8, Pst.refl _, hU, hp, TM.ex0 (by simp [inK]), hB1, hb3, rfl⟩)
    ·rw [takQ_F hc9] at hp
     refine WC.seq (WC.region (WL.val rfl rfl rfl rfl (r_move rfl (ev_t rfl)) ?_))
     refine WL.cons (SO.call (take_ok (u := [105, 102]) hp) rfl body_31 ⟨(ev_t rfl), ev_c, trivial⟩ rfl rfl rfl rfl ?_)
     rintro v9 w25 ⟨rfl, hp2, hu25⟩
     have hs25 := hu25.size
     replace hU := hU.trans hu25 (by exact (fun _ _ h => h))
     replace hB1 := hB1.upd hu25 (by (simp only [At, Bt]; omega))
     replace hb3 := hb3.upd hu25 (by (simp only [At, Bt]; omega))
     have hp := hp2
     refine WL.val rfl rfl rfl rfl (r_assign rfl (ev_t rfl)) ?_
     refine WL.nil (WX.keep [(0, _), (2, _), (3, _), (44, _)] ⟨rfl, rfl, rfl, rfl, trivial⟩ (WX.next (WC.cond rfl (ev_t rfl) (fun hc15 => ?_) (fun hc15 => ?_))))
     ·rw [takQ_T hc15] at hp
      have he9 : oneI (eq9 n) (opnQ s) = (.mk 13 [] 0 false [] [((eq9 n).expr (tlQ (opnQ s))).1, ((eq9 n).one (musQ ((eq9 n).expr (tlQ (opnQ s))).2 [116, 104, 101, 110])).1, ((eq9 n).one (musQ ((eq9 n).one (musQ ((eq9 n).expr (tlQ (opnQ s))).2 [116, 104, 101, 110])).2 [101, 108, 115, 101])).1], ((eq9 n).one (musQ ((eq9 n).one (musQ ((eq9 n).expr (tlQ (opnQ s))).2 [116, 104, 101, 110])).2 [101, 108, 115, 101])).2) := by
       unfold oneI
       rw [if_neg (by simp [hc4]), if_neg (by simp [hc9]), if_pos hc15]
      refine WC.seq (WC.region (WL.val rfl rfl rfl rfl (r_build (cs := #[_, _, _, _, _, _]) (vs := [(0, _)]) rfl ⟨⟨rfl, ev_c⟩, trivial⟩ plc_36 zero_36 rfl) ?_))
      refine WL.cons (SO.storeAll (us := [_, _, _, _, _, _]) rfl (ev_t rfl) (ev_t rfl) size_36 hb3 rfl rfl rfl rfl rfl ?_)
      intro w26 hu26 hb3 hz26
      have hs26 := hu26.size
      replace hU := hU.trans hu26 (by (intro k hl hk; (try simp only [At, New, Grow, From, No] at hk ⊢); omega))
      replace hB1 := hB1.upd hu26 (by (simp only [At, Bt]; omega))
      replace hp := hp.upd hu26 (by (intro k hk hS; first | (simp only [At, Bt] at hS; omega) | (have := hG k hS; omega)))
      refine WL.nil (WX.keep [(0, _), (2, _), (3, _)] ⟨rfl, rfl, rfl, trivial⟩ ?_)
      change Blk _ _ #[.int .u8 13, Sv [], .int .i64 0, .bool false, .slice none 0 0, .slice none 0 0] _ at hb3
      refine WX.next (WC.seq (WC.draws' (fun u0_ u1_ => Upd (At r) u0_ u1_) (fun j => [0, 0, 0, 1, 1, 2, 0, 2].getD j 0) (.calm 0 (.calm 2 (.held 1 (.one 3 (.one 4 (.one 5 (.calm 6 (.one 7 (.done))))))))) mixed (by kernel_rfl) (by repeat (first | with_reducible exact Deaf.body | with_reducible apply Deaf.then | with_reducible apply Deaf.block)) ?_))
      intro w27 hu27
      have hz27 := congrArg Array.size hu27.2.2.2
      replace hu27 := Upd.of_draw hu27
      have hs27 := hu27.size
      replace hU := hU.trans hu27 (by exact (fun _ _ h => h.elim))
      replace hB1 := hB1.upd hu27 (by exact (fun h => h))
      replace hb3 := hb3.upd hu27 (by exact (fun h => h))
      replace hp := hp.upd hu27 (by exact (fun _ _ h => h))
      have hS17 := Upd.refl (At r) w27
      have h0b := hb3
      have hac : Acc 36 w27 (b3 + 1) No (.slice none 0 0) ([] : List Ex) := Acc.nil _ _
      have hG : ∀ k, No k → b3 + 1 ≤ k ∧ k < w27.heap.size := fun k h => h.elim
      refine WN.calm _ rfl rfl rfl rfl rfl (fun _ => r_field0 rfl (ev_t rfl) fld_36_5) ?_
      refine WN.calm _ rfl rfl rfl rfl rfl (fun _ => r_move rfl (ev_t rfl)) ?_
      refine WN.held _ rfl rfl rfl rfl rfl hS17 (fun w' hS => r_load rfl (ev_t rfl) flat_34 (Blk.cell (h0b.upd hS (by (try simp only [At, From, No, Grow, New, Bt]); omega)) rfl)) ?_
      refine WN.step _ rfl (SO.call (ihE _ _ _ _ _ hp (by (try simp only [tlQ_d, musQ_d, takQ_d, txtQ_d]); omega) (by (try simp only [tlQ_d, musQ_d, takQ_d, txtQ_d]); omega)) rfl body_59 ⟨(ev_t rfl), trivial⟩ rfl rfl rfl rfl ?_)
      rintro v9 w28 ⟨c9, rfl, ht, hp2, hst, hu28⟩
      have hs28 := hu28.size
      replace hS17 := Upd.transA hS17 hu28
      replace hU := hU.trans hu28 (by exact (fun _ _ h => h))
      replace hB1 := hB1.upd hu28 (by (simp only [At, Bt]; omega))
      replace hb3 := hb3.upd hu28 (by (simp only [At, Bt]; omega))
      replace hac := hac.upd hu28 (fun k hk hl hS => by (simp only [At] at hS; omega))
      have hp := hp2
      have hsd := hst.1
      try simp only [tlQ_d, musQ_d, takQ_d, txtQ_d] at hsd
      have hsd1 : ((eq9 n).expr (tlQ (opnQ s))).2.d = s.d + 1 := by omega
      obtain ⟨tk, ts, tn, trc, tps, tks, tA9, tp9, tA, tp, tys, txs, het, rfl, _⟩ := ht.mk6
      refine ⟨hS17, ?_⟩
      refine WN.step _ rfl (SO.alloc rfl rfl rfl rfl (r_buildSlice6 rfl (ev_t rfl) row_34) ?_)
      intro w29 hu29 hB29 hz29
      have hs29 := hu29.size
      replace hS17 := Upd.transA hS17 hu29
      replace hU := hU.trans hu29 (by exact (fun _ _ h => h.elim))
      replace hB1 := hB1.upd hu29 (by exact (fun h => h))
      replace hb3 := hb3.upd hu29 (by exact (fun h => h))
      replace hac := hac.upd hu29 (fun k hk hl hS => by exact (show False from hS).elim)
      replace hp := hp.upd hu29 (by exact (fun _ _ h => h))
      replace ht := ht.upd hu29 (fun k hk hl hS => by exact (show False from hS).elim)
      refine ⟨hS17, ?_⟩
      refine WN.step _ rfl (SO.appendA hac ht (fun k hk => ⟨fun hG9 => by have := hG _ hG9; simp only [Bt] at hk; omega, by simp only [Bt] at hk; omega⟩) (Rd.of_blk (F := At _) (n := 1) (sz := 6) hB29 rfl rfl (by omega)) row_34 (by simp) rfl rfl (ev_t rfl) (ev_t rfl) rfl rfl rfl rfl ?_ (by omega))
      intro v5 w30 hac2 hu30 hBw
      have hs30 := hu30.size
      try replace hS17 := Upd.transA hS17 hu30
      replace hU := hU.trans hu30 (by exact (fun _ _ h => h.elim))
      replace hB1 := hB1.upd hu30 (by exact (fun h => h))
      replace hb3 := hb3.upd hu30 (by exact (fun h => h))
      replace hp := hp.upd hu30 (by exact (fun _ _ h => h))
      have hac := hac2
      obtain ⟨A5, c5, rfl, _⟩ := hac.form
      have hG := hac.lt
      refine ⟨trivial, ?_⟩
      refine WN.calm _ rfl rfl rfl rfl rfl (fun _ => r_field0 rfl (ev_t rfl) fld_36_5) ?_
      refine WN.step _ rfl (SO.store rfl (ev_t rfl) (ev_t rfl) size_34 hb3 rfl rfl rfl rfl rfl ?_)
      intro w31 hu31 hb3 hz31
      have hs31 := hu31.size
      try replace hS17 := Upd.transA hS17 hu31
      replace hU := hU.trans hu31 (by (intro k hl hk; (try simp only [At, New, Grow, From, No] at hk ⊢); omega))
      replace hB1 := hB1.upd hu31 (by (simp only [At, Bt]; omega))
      replace hp := hp.upd hu31 (by (intro k hk hS; first | (simp only [At, Bt] at hS; omega) | (have := hG k hS; omega)))
      replace hac := hac.upd hu31 (fun k hk hl hS => by (simp only [At] at hS; omega))
      refine ⟨trivial, ?_⟩
      refine WN.done ?_
      refine WX.keep [(0, _), (2, _), (3, _)] ⟨rfl, rfl, rfl, trivial⟩ ?_
      change Blk _ _ #[.int .u8 13, Sv [], .int .i64 0, .bool false, .slice none 0 0, .slice A5 _ c5] _ at hb3
      refine WX.next (WC.seq (WC.region (WL.val rfl rfl rfl rfl (r_move rfl (ev_t rfl)) ?_)))
      refine WL.cons (SO.call (must_ok (u := [116, 104, 101, 110]) hp) rfl body_84 ⟨(ev_t rfl), ev_c, trivial⟩ rfl rfl rfl rfl ?_)
      rintro v9 w32 ⟨hp2, hu32⟩
      have hs32 := hu32.size
      replace hU := hU.trans hu32 (by exact (fun _ _ h => h))
      replace hB1 := hB1.upd hu32 (by (simp only [At, Bt]; omega))
      replace hb3 := hb3.upd hu32 (by (simp only [At, Bt]; omega))
      replace hac := hac.upd hu32 (fun k hk hl hS => by (simp only [At] at hS; omega))
      have hp := hp2
      refine WL.nil (WX.keep [(0, _), (2, _), (3, _)] ⟨rfl, rfl, rfl, trivial⟩ (WX.next (WC.seq (WC.draws' (fun u0_ u1_ => Upd (At r) u0_ u1_) (fun j => [0, 0, 0, 1, 1, 2, 0, 2].getD j 0) (.calm 0 (.calm 2 (.held 1 (.one 3 (.one 4 (.one 5 (.calm 6 (.one 7 (.done))))))))) mixed (by kernel_rfl) (by repeat (first | with_reducible exact Deaf.body | with_reducible apply Deaf.then | with_reducible apply Deaf.block)) ?_))))
      intro w33 hu33
      have hz33 := congrArg Array.size hu33.2.2.2
      replace hu33 := Upd.of_draw hu33
      have hs33 := hu33.size
      replace hU := hU.trans hu33 (by exact (fun _ _ h => h.elim))
      replace hB1 := hB1.upd hu33 (by exact (fun h => h))
      replace hb3 := hb3.upd hu33 (by exact (fun h => h))
      replace hac := hac.upd hu33 (fun k hk hl hS => by exact (show False from hS).elim)
      replace hp := hp.upd hu33 (by exact (fun _ _ h => h))
      have hS19 := Upd.refl (At r) w33
      have h0b := hb3
      refine WN.calm _ rfl rfl rfl rfl rfl (fun _ => r_field0 rfl (ev_t rfl) fld_36_5) ?_
      refine WN.calm _ rfl rfl rfl rfl rfl (fun _ => r_move rfl (ev_t rfl)) ?_
      refine WN.held _ rfl rfl rfl rfl rfl hS19 (fun w' hS => r_load rfl (ev_t rfl) flat_34 (Blk.cell (h0b.upd hS (by (try simp only [At, From, No, Grow, New, Bt]); omega)) rfl)) ?_
      refine WN.step _ rfl (SO.call (ihO _ _ _ _ _ hp (by (try simp only [tlQ_d, musQ_d, takQ_d, txtQ_d]); omega) (by (try simp only [tlQ_d, musQ_d, takQ_d, txtQ_d]); omega)) rfl body_88 ⟨(ev_t rfl), trivial⟩ rfl rfl rfl rfl ?_)
      rintro v9 w34 ⟨c9, rfl, ht, hp2, hst, hu34⟩
      have hs34 := hu34.size
      replace hS19 := Upd.transA hS19 hu34
      replace hU := hU.trans hu34 (by exact (fun _ _ h => h))
      replace hB1 := hB1.upd hu34 (by (simp only [At, Bt]; omega))
      replace hb3 := hb3.upd hu34 (by (simp only [At, Bt]; omega))
      replace hac := hac.upd hu34 (fun k hk hl hS => by (simp only [At] at hS; omega))
      have hp := hp2
      have hsd := hst.1
      try simp only [tlQ_d, musQ_d, takQ_d, txtQ_d] at hsd
      obtain ⟨tk, ts, tn, trc, tps, tks, tA9, tp9, tA, tp, tys, txs, het, rfl, _⟩ := ht.mk6
      have hsd2 : ((eq9 n).one (musQ ((eq9 n).expr (tlQ (opnQ s))).2 [116, 104, 101, 110])).2.d = s.d + 1 := by omega
      refine ⟨hS19, ?_⟩
      refine WN.step _ rfl (SO.alloc rfl rfl rfl rfl (r_buildSlice6 rfl (ev_t rfl) row_34) ?_)
      intro w35 hu35 hB35 hz35
      have hs35 := hu35.size
      replace hS19 := Upd.transA hS19 hu35
      replace hU := hU.trans hu35 (by exact (fun _ _ h => h.elim))
      replace hB1 := hB1.upd hu35 (by exact (fun h => h))
      replace hb3 := hb3.upd hu35 (by exact (fun h => h))
      replace hac := hac.upd hu35 (fun k hk hl hS => by exact (show False from hS).elim)
      replace hp := hp.upd hu35 (by exact (fun _ _ h => h))
      replace ht := ht.upd hu35 (fun k hk hl hS => by exact (show False from hS).elim)
      refine ⟨hS19, ?_⟩
      refine WN.step _ rfl (SO.appendA hac ht (fun k hk => ⟨fun hG9 => by have := hG _ hG9; simp only [Bt] at hk; omega, by simp only [Bt] at hk; omega⟩) (Rd.of_blk (F := At _) (n := 1) (sz := 6) hB35 rfl rfl (by omega)) row_34 (by simp) rfl rfl (ev_t rfl) (ev_t rfl) rfl rfl rfl rfl ?_ (by omega))
      intro v5 w36 hac2 hu36 hBw
      have hs36 := hu36.size
      try replace hS19 := Upd.transA hS19 hu36
      replace hU := hU.trans hu36 (by (intro k hl hk; first | exact hk | exact (show False from hk).elim | (have := hG k hk; omega) | (simp only [At, Bt] at *; exfalso; omega)))
      replace hB1 := hB1.upd hu36 (by (intro hS; have := hG _ hS; omega))
      replace hb3 := hb3.upd hu36 (by (intro hS; have := hG _ hS; omega))
      replace hp := hp.upd hu36 (by (intro k hk hS; first | (simp only [At, Bt] at hS; omega) | (have := hG k hS; omega)))
      have hac := hac2
      obtain ⟨A5, c5, rfl, _⟩ := hac.form
      have hG := hac.lt
      refine ⟨trivial, ?_⟩
      refine WN.calm _ rfl rfl rfl rfl rfl (fun _ => r_field0 rfl (ev_t rfl) fld_36_5) ?_
      refine WN.step _ rfl (SO.store rfl (ev_t rfl) (ev_t rfl) size_34 hb3 rfl rfl rfl rfl rfl ?_)
      intro w37 hu37 hb3 hz37
      have hs37 := hu37.size
      try replace hS19 := Upd.transA hS19 hu37
      replace hU := hU.trans hu37 (by (intro k hl hk; (try simp only [At, New, Grow, From, No] at hk ⊢); omega))
      replace hB1 := hB1.upd hu37 (by (simp only [At, Bt]; omega))
      replace hp := hp.upd hu37 (by (intro k hk hS; first | (simp only [At, Bt] at hS; omega) | (have := hG k hS; omega)))
      replace hac := hac.upd hu37 (fun k hk hl hS => by (simp only [At] at hS; omega))
      refine ⟨trivial, ?_⟩
      refine WN.done ?_
      refine WX.keep [(0, _), (2, _), (3, _)] ⟨rfl, rfl, rfl, trivial⟩ ?_
      change Blk _ _ #[.int .u8 13, Sv [], .int .i64 0, .bool false, .slice none 0 0, .slice A5 _ c5] _ at hb3
      refine WX.next (WC.seq (WC.region (WL.val rfl rfl rfl rfl (r_move rfl (ev_t rfl)) ?_)))
      refine WL.cons (SO.call (must_ok (u := [101, 108, 115, 101]) hp) rfl body_84 ⟨(ev_t rfl), ev_c, trivial⟩ rfl rfl rfl rfl ?_)
      rintro v9 w38 ⟨hp2, hu38⟩
      have hs38 := hu38.size
      replace hU := hU.trans hu38 (by exact (fun _ _ h => h))
      replace hB1 := hB1.upd hu38 (by (simp only [At, Bt]; omega))
      replace hb3 := hb3.upd hu38 (by (simp only [At, Bt]; omega))
      replace hac := hac.upd hu38 (fun k hk hl hS => by (simp only [At] at hS; omega))
      have hp := hp2
      refine WL.nil (WX.keep [(0, _), (2, _), (3, _)] ⟨rfl, rfl, rfl, trivial⟩ (WX.next (WC.draws' (fun u0_ u1_ => Upd (At r) u0_ u1_) (fun j => [0, 0, 0, 1, 1, 2, 0, 2].getD j 0) (.calm 0 (.calm 2 (.held 1 (.one 3 (.one 4 (.one 5 (.calm 6 (.one 7 (.done))))))))) mixed (by kernel_rfl) (by repeat (first | with_reducible exact Deaf.body | with_reducible apply Deaf.then | with_reducible apply Deaf.block)) ?_)))
      intro w39 hu39
      have hz39 := congrArg Array.size hu39.2.2.2
      replace hu39 := Upd.of_draw hu39
      have hs39 := hu39.size
      replace hU := hU.trans hu39 (by exact (fun _ _ h => h.elim))
      replace hB1 := hB1.upd hu39 (by exact (fun h => h))
      replace hb3 := hb3.upd hu39 (by exact (fun h => h))
      replace hac := hac.upd hu39 (fun k hk hl hS => by exact (show False from hS).elim)
      replace hp := hp.upd hu39 (by exact (fun _ _ h => h))
      have hS21 := Upd.refl (At r) w39
      have h0b := hb3
      refine WN.calm _ rfl rfl rfl rfl rfl (fun _ => r_field0 rfl (ev_t rfl) fld_36_5) ?_
      refine WN.calm _ rfl rfl rfl rfl rfl (fun _ => r_move rfl (ev_t rfl)) ?_
      refine WN.held _ rfl rfl rfl rfl rfl hS21 (fun w' hS => r_load rfl (ev_t rfl) flat_34 (Blk.cell (h0b.upd hS (by (try simp only [At, From, No, Grow, New, Bt]); omega)) rfl)) ?_
      refine WN.step _ rfl (SO.call (ihO _ _ _ _ _ hp (by (try simp only [tlQ_d, musQ_d, takQ_d, txtQ_d]); omega) (by (try simp only [tlQ_d, musQ_d, takQ_d, txtQ_d]); omega)) rfl body_88 ⟨(ev_t rfl), trivial⟩ rfl rfl rfl rfl ?_)
      rintro v9 w40 ⟨c9, rfl, ht, hp2, hst, hu40⟩
      have hs40 := hu40.size
      replace hS21 := Upd.transA hS21 hu40
      replace hU := hU.trans hu40 (by exact (fun _ _ h => h))
      replace hB1 := hB1.upd hu40 (by (simp only [At, Bt]; omega))
      replace hb3 := hb3.upd hu40 (by (simp only [At, Bt]; omega))
      replace hac := hac.upd hu40 (fun k hk hl hS => by (simp only [At] at hS; omega))
      have hp := hp2
      have hsd := hst.1
      try simp only [tlQ_d, musQ_d, takQ_d, txtQ_d] at hsd
      obtain ⟨tk, ts, tn, trc, tps, tks, tA9, tp9, tA, tp, tys, txs, het, rfl, _⟩ := ht.mk6
      refine ⟨hS21, ?_⟩
      refine WN.step _ rfl (SO.alloc rfl rfl rfl rfl (r_buildSlice6 rfl (ev_t rfl) row_34) ?_)
      intro w41 hu41 hB41 hz41
      have hs41 := hu41.size
      replace hS21 := Upd.transA hS21 hu41
      replace hU := hU.trans hu41 (by exact (fun _ _ h => h.elim))
      replace hB1 := hB1.upd hu41 (by exact (fun h => h))
      replace hb3 := hb3.upd hu41 (by exact (fun h => h))
      replace hac := hac.upd hu41 (fun k hk hl hS => by exact (show False from hS).elim)
      replace hp := hp.upd hu41 (by exact (fun _ _ h => h))
      replace ht := ht.upd hu41 (fun k hk hl hS => by exact (show False from hS).elim)
      refine ⟨hS21, ?_⟩
      refine WN.step _ rfl (SO.appendA hac ht (fun k hk => ⟨fun hG9 => by have := hG _ hG9; simp only [Bt] at hk; omega, by simp only [Bt] at hk; omega⟩) (Rd.of_blk (F := At _) (n := 1) (sz := 6) hB41 rfl rfl (by omega)) row_34 (by simp) rfl rfl (ev_t rfl) (ev_t rfl) rfl rfl rfl rfl ?_ (by omega))
      intro v5 w42 hac2 hu42 hBw
      have hs42 := hu42.size
      try replace hS21 := Upd.transA hS21 hu42
      replace hU := hU.trans hu42 (by (intro k hl hk; first | exact hk | exact (show False from hk).elim | (have := hG k hk; omega) | (simp only [At, Bt] at *; exfalso; omega)))
      replace hB1 := hB1.upd hu42 (by (intro hS; have := hG _ hS; omega))
      replace hb3 := hb3.upd hu42 (by (intro hS; have := hG _ hS; omega))
      replace hp := hp.upd hu42 (by (intro k hk hS; first | (simp only [At, Bt] at hS; omega) | (have := hG k hS; omega)))
      have hac := hac2
      obtain ⟨A5, c5, rfl, _⟩ := hac.form
      have hG := hac.lt
      refine ⟨trivial, ?_⟩
      refine WN.calm _ rfl rfl rfl rfl rfl (fun _ => r_field0 rfl (ev_t rfl) fld_36_5) ?_
      refine WN.step _ rfl (SO.store rfl (ev_t rfl) (ev_t rfl) size_34 hb3 rfl rfl rfl rfl rfl ?_)
      intro w43 hu43 hb3 hz43
      have hs43 := hu43.size
      try replace hS21 := Upd.transA hS21 hu43
      replace hU := hU.trans hu43 (by (intro k hl hk; (try simp only [At, New, Grow, From, No] at hk ⊢); omega))
      replace hB1 := hB1.upd hu43 (by (simp only [At, Bt]; omega))
      replace hp := hp.upd hu43 (by (intro k hk hS; first | (simp only [At, Bt] at hS; omega) | (have := hG k hS; omega)))
      replace hac := hac.upd hu43 (fun k hk hl hS => by (simp only [At] at hS; omega))
      refine ⟨trivial, ?_⟩
      refine WN.done ?_
      refine WX.keep [(0, _), (2, _), (3, _)] ⟨rfl, rfl, rfl, trivial⟩ ?_
      change Blk _ _ #[.int .u8 13, Sv [], .int .i64 0, .bool false, .slice none 0 0, .slice A5 _ c5] _ at hb3
      refine WX.blockNormal (WX.meet [(0, _), (2, _), (3, _)] ⟨rfl, rfl, rfl, trivial⟩ ?_)
      first
       | (rw [he9] at hone hmI
          obtain ⟨xs, hrx, hmx⟩ := haR2.done (by simp)
          exact ⟨_, _, _, _, _, _, _, _, hone, hmI, hU, hp, TM.exK (hrx.mono fun k hk => by simp only [Bt] at *; omega) (hmx.mono fun k hk => by simp only [Bt] at *; omega) (by simp [inK]), hB1, hb3, rfl⟩)
       | (rw [he9] at hone hmI
          obtain ⟨xs, hrx, hmx⟩ := hac.done (by simp)
          exact ⟨_, _, _, _, _, _, _, _, hone, hmI, hU, hp, TM.exK (hrx.mono fun k hk => by simp only [Bt] at *; omega) (hmx.mono fun k hk => by simp only [Bt] at *; omega) (by simp [inK]), hB1, hb3, rfl⟩)
       | (rw [he9] at hone hmI
          exact ⟨_, _, _, _, _, _, _, _, hone, hmI, hU, hp, ht2.mono fun k hk => by simp only [Bt] at *; omega, hB1, hb3, rfl⟩)
       | (rw [he9] at hone hmI
          exact ⟨_, _, _, _, _, _, _, _, hone, hmI, hU, hp, ht.mono fun k hk => by simp only [Bt] at *; omega, hB1, hb3, rfl⟩)
       | (have he8 : oneB (eq9 n) s = (Ex.z, clsQ (opnQ s)) := by
            unfold oneB
            rw [if_neg (by simpa using hc2)]
          exact ⟨_, _, _, _, _, _, _, _, he8, Pst.refl _, hU, hp, TM.ex0 (by simp [inK]), hB1, hb3, rfl⟩)
     ·rw [takQ_F hc15] at hp
      refine WC.seq (WC.region (WL.val rfl rfl rfl rfl (r_move rfl (ev_t rfl)) ?_))
      refine WL.cons (SO.call (take_ok (u := [109, 97, 116, 99, 104]) hp) rfl body_31 ⟨(ev_t rfl), ev_c, trivial⟩ rfl rfl rfl rfl ?_)
      rintro v9 w44 ⟨rfl, hp2, hu44⟩
      have hs44 := hu44.size
      replace hU := hU.trans hu44 (by exact (fun _ _ h => h))
      replace hB1 := hB1.upd hu44 (by (simp only [At, Bt]; omega))
      replace hb3 := hb3.upd hu44 (by (simp only [At, Bt]; omega))
      have hp := hp2
      refine WL.val rfl rfl rfl rfl (r_assign rfl (ev_t rfl)) ?_
      refine WL.nil (WX.keep [(0, _), (2, _), (3, _), (73, _)] ⟨rfl, rfl, rfl, rfl, trivial⟩ (WX.next (WC.cond rfl (ev_t rfl) (fun hc22 => ?_) (fun hc22 => ?_))))
      ·rw [takQ_T hc22] at hp
       have he9 : oneI (eq9 n) (opnQ s) = matB (eq9 n).expr (tlQ (opnQ s)) := by
        unfold oneI
        rw [if_neg (by simp [hc4]), if_neg (by simp [hc9]), if_neg (by simp [hc15]), if_pos hc22]
       refine WC.region (WL.val rfl rfl rfl rfl (r_move rfl (ev_t rfl)) ?_)
       refine WL.cons (SO.call (ihM _ _ _ _ _ hp (by (try simp only [tlQ_d, musQ_d, takQ_d, txtQ_d]); omega) (by (try simp only [tlQ_d, musQ_d, takQ_d, txtQ_d]); omega)) rfl body_99 ⟨(ev_t rfl), trivial⟩ rfl rfl rfl rfl ?_)
       rintro v9 w45 ⟨c9, rfl, ht, hp2, hst, hu45⟩
       have hs45 := hu45.size
       replace hU := hU.trans hu45 (by exact (fun _ _ h => h))
       replace hB1 := hB1.upd hu45 (by (simp only [At, Bt]; omega))
       replace hb3 := hb3.upd hu45 (by (simp only [At, Bt]; omega))
       have hp := hp2
       have hsd := hst.1
       try simp only [tlQ_d, musQ_d, takQ_d, txtQ_d] at hsd
       obtain ⟨tk, ts, tn, trc, tps, tks, tA9, tp9, tA, tp, tys, txs, het, rfl, _⟩ := ht.mk6
       refine WL.cons (SO.storeAll (us := [_, _, _, _, _, _]) rfl (ev_t rfl) (ev_t rfl) size_36 hb3 rfl rfl rfl rfl rfl ?_)
       intro w46 hu46 hb3 hz46
       have hs46 := hu46.size
       replace hU := hU.trans hu46 (by (intro k hl hk; (try simp only [At, New, Grow, From, No] at hk ⊢); omega))
       replace hB1 := hB1.upd hu46 (by (simp only [At, Bt]; omega))
       replace hp := hp.upd hu46 (by (intro k hk hS; first | (simp only [At, Bt] at hS; omega) | (have := hG k hS; omega)))
       replace ht := ht.upd hu46 (fun k hk hl hS => by (simp only [At, Bt] at hS hk; omega))
       refine WL.nil (WX.keep [(0, _), (2, _), (3, _)] ⟨rfl, rfl, rfl, trivial⟩ (WX.blockNormal (WX.meet [(0, _), (2, _), (3, _)] ⟨rfl, rfl, rfl, trivial⟩ ?_)))
       first
        | (rw [he9] at hone hmI
           obtain ⟨xs, hrx, hmx⟩ := haR2.done (by simp)
           exact ⟨_, _, _, _, _, _, _, _, hone, hmI, hU, hp, TM.exK (hrx.mono fun k hk => by simp only [Bt] at *; omega) (hmx.mono fun k hk => by simp only [Bt] at *; omega) (by simp [inK]), hB1, hb3, rfl⟩)
        | (rw [he9] at hone hmI
           obtain ⟨xs, hrx, hmx⟩ := hac.done (by simp)
           exact ⟨_, _, _, _, _, _, _, _, hone, hmI, hU, hp, TM.exK (hrx.mono fun k hk => by simp only [Bt] at *; omega) (hmx.mono fun k hk => by simp only [Bt] at *; omega) (by simp [inK]), hB1, hb3, rfl⟩)
        | (rw [he9] at hone hmI
           exact ⟨_, _, _, _, _, _, _, _, hone, hmI, hU, hp, ht2.mono fun k hk => by simp only [Bt] at *; omega, hB1, hb3, rfl⟩)
        | (rw [he9] at hone hmI
           exact ⟨_, _, _, _, _, _, _, _, hone, hmI, hU, hp, ht.mono fun k hk => by simp only [Bt] at *; omega, hB1, hb3, rfl⟩)
        | (have he8 : oneB (eq9 n) s = (Ex.z, clsQ (opnQ s)) := by
             unfold oneB
             rw [if_neg (by simpa using hc2)]
           exact ⟨_, _, _, _, _, _, _, _, he8, Pst.refl _, hU, hp, TM.ex0 (by simp [inK]), hB1, hb3, rfl⟩)
      ·rw [takQ_F hc22] at hp
       refine WC.seq (WC.region (WL.val rfl rfl rfl rfl (r_move rfl (ev_t rfl)) ?_))
       refine WL.cons (SO.call (take_ok (u := [116, 114, 121]) hp) rfl body_31 ⟨(ev_t rfl), ev_c, trivial⟩ rfl rfl rfl rfl ?_)
       rintro v9 w47 ⟨rfl, hp2, hu47⟩
       have hs47 := hu47.size
       replace hU := hU.trans hu47 (by exact (fun _ _ h => h))
       replace hB1 := hB1.upd hu47 (by (simp only [At, Bt]; omega))
       replace hb3 := hb3.upd hu47 (by (simp only [At, Bt]; omega))
       have hp := hp2
       refine WL.val rfl rfl rfl rfl (r_assign rfl (ev_t rfl)) ?_
       refine WL.nil (WX.keep [(0, _), (2, _), (3, _), (78, _)] ⟨rfl, rfl, rfl, rfl, trivial⟩ (WX.next (WC.cond rfl (ev_t rfl) (fun hc24 => ?_) (fun hc24 => ?_))))
       ·rw [takQ_T hc24] at hp
        obtain ⟨t1, ht1⟩ : ∃ t1, t1 = txtQ (musQ ((eq9 n).expr (tlQ (opnQ s))).2 [119, 105, 116, 104]) 1 := ⟨_, rfl⟩
        have he9 : oneI (eq9 n) (opnQ s) = (.mk 15 t1.1 0 false [] [((eq9 n).expr (tlQ (opnQ s))).1, ((eq9 n).expr (musQ t1.2 [45, 62])).1], ((eq9 n).expr (musQ t1.2 [45, 62])).2) := by
         unfold oneI
         rw [if_neg (by simp [hc4]), if_neg (by simp [hc9]), if_neg (by simp [hc15]), if_neg (by simp [hc22]), if_pos hc24, ht1]
        refine WC.seq (WC.region (WL.val rfl rfl rfl rfl (r_build (cs := #[_, _, _, _, _, _]) (vs := [(0, _)]) rfl ⟨⟨rfl, ev_c⟩, trivial⟩ plc_36 zero_36 rfl) ?_))
        refine WL.cons (SO.storeAll (us := [_, _, _, _, _, _]) rfl (ev_t rfl) (ev_t rfl) size_36 hb3 rfl rfl rfl rfl rfl ?_)
        intro w48 hu48 hb3 hz48
        have hs48 := hu48.size
        replace hU := hU.trans hu48 (by (intro k hl hk; (try simp only [At, New, Grow, From, No] at hk ⊢); omega))
        replace hB1 := hB1.upd hu48 (by (simp only [At, Bt]; omega))
        replace hp := hp.upd hu48 (by (intro k hk hS; first | (simp only [At, Bt] at hS; omega) | (have := hG k hS; omega)))
        refine WL.nil (WX.keep [(0, _), (2, _), (3, _)] ⟨rfl, rfl, rfl, trivial⟩ ?_)
        change Blk _ _ #[.int .u8 15, Sv [], .int .i64 0, .bool false, .slice none 0 0, .slice none 0 0] _ at hb3
        refine WX.next (WC.seq (WC.draws' (fun u0_ u1_ => Upd (At r) u0_ u1_) (fun j => [0, 0, 0, 1, 1, 2, 0, 2].getD j 0) (.calm 0 (.calm 2 (.held 1 (.one 3 (.one 4 (.one 5 (.calm 6 (.one 7 (.done))))))))) mixed (by kernel_rfl) (by repeat (first | with_reducible exact Deaf.body | with_reducible apply Deaf.then | with_reducible apply Deaf.block)) ?_))
        intro w49 hu49
        have hz49 := congrArg Array.size hu49.2.2.2
        replace hu49 := Upd.of_draw hu49
        have hs49 := hu49.size
        replace hU := hU.trans hu49 (by exact (fun _ _ h => h.elim))
        replace hB1 := hB1.upd hu49 (by exact (fun h => h))
        replace hb3 := hb3.upd hu49 (by exact (fun h => h))
        replace hp := hp.upd hu49 (by exact (fun _ _ h => h))
        have hS26 := Upd.refl (At r) w49
        have h0b := hb3
        have hac : Acc 36 w49 (b3 + 1) No (.slice none 0 0) ([] : List Ex) := Acc.nil _ _
        have hG : ∀ k, No k → b3 + 1 ≤ k ∧ k < w49.heap.size := fun k h => h.elim
        refine WN.calm _ rfl rfl rfl rfl rfl (fun _ => r_field0 rfl (ev_t rfl) fld_36_5) ?_
        refine WN.calm _ rfl rfl rfl rfl rfl (fun _ => r_move rfl (ev_t rfl)) ?_
        refine WN.held _ rfl rfl rfl rfl rfl hS26 (fun w' hS => r_load rfl (ev_t rfl) flat_34 (Blk.cell (h0b.upd hS (by (try simp only [At, From, No, Grow, New, Bt]); omega)) rfl)) ?_
        refine WN.step _ rfl (SO.call (ihE _ _ _ _ _ hp (by (try simp only [tlQ_d, musQ_d, takQ_d, txtQ_d]); omega) (by (try simp only [tlQ_d, musQ_d, takQ_d, txtQ_d]); omega)) rfl body_59 ⟨(ev_t rfl), trivial⟩ rfl rfl rfl rfl ?_)
        rintro v9 w50 ⟨c9, rfl, ht, hp2, hst, hu50⟩
        have hs50 := hu50.size
        replace hS26 := Upd.transA hS26 hu50
        replace hU := hU.trans hu50 (by exact (fun _ _ h => h))
        replace hB1 := hB1.upd hu50 (by (simp only [At, Bt]; omega))
        replace hb3 := hb3.upd hu50 (by (simp only [At, Bt]; omega))
        replace hac := hac.upd hu50 (fun k hk hl hS => by (simp only [At] at hS; omega))
        have hp := hp2
        have hsd := hst.1
        try simp only [tlQ_d, musQ_d, takQ_d, txtQ_d] at hsd
        have hsd1 : ((eq9 n).expr (tlQ (opnQ s))).2.d = s.d + 1 := by omega
        obtain ⟨tk, ts, tn, trc, tps, tks, tA9, tp9, tA, tp, tys, txs, het, rfl, _⟩ := ht.mk6
        refine ⟨hS26, ?_⟩
        refine WN.step _ rfl (SO.alloc rfl rfl rfl rfl (r_buildSlice6 rfl (ev_t rfl) row_34) ?_)
        intro w51 hu51 hB51 hz51
        have hs51 := hu51.size
        replace hS26 := Upd.transA hS26 hu51
        replace hU := hU.trans hu51 (by exact (fun _ _ h => h.elim))
        replace hB1 := hB1.upd hu51 (by exact (fun h => h))
        replace hb3 := hb3.upd hu51 (by exact (fun h => h))
        replace hac := hac.upd hu51 (fun k hk hl hS => by exact (show False from hS).elim)
        replace hp := hp.upd hu51 (by exact (fun _ _ h => h))
        replace ht := ht.upd hu51 (fun k hk hl hS => by exact (show False from hS).elim)
        refine ⟨hS26, ?_⟩
        refine WN.step _ rfl (SO.appendA hac ht (fun k hk => ⟨fun hG9 => by have := hG _ hG9; simp only [Bt] at hk; omega, by simp only [Bt] at hk; omega⟩) (Rd.of_blk (F := At _) (n := 1) (sz := 6) hB51 rfl rfl (by omega)) row_34 (by simp) rfl rfl (ev_t rfl) (ev_t rfl) rfl rfl rfl rfl ?_ (by omega))
        intro v5 w52 hac2 hu52 hBw
        have hs52 := hu52.size
        try replace hS26 := Upd.transA hS26 hu52
        replace hU := hU.trans hu52 (by exact (fun _ _ h => h.elim))
        replace hB1 := hB1.upd hu52 (by exact (fun h => h))
        replace hb3 := hb3.upd hu52 (by exact (fun h => h))
        replace hp := hp.upd hu52 (by exact (fun _ _ h => h))
        have hac := hac2
        obtain ⟨A5, c5, rfl, _⟩ := hac.form
        have hG := hac.lt
        refine ⟨trivial, ?_⟩
        refine WN.calm _ rfl rfl rfl rfl rfl (fun _ => r_field0 rfl (ev_t rfl) fld_36_5) ?_
        refine WN.step _ rfl (SO.store rfl (ev_t rfl) (ev_t rfl) size_34 hb3 rfl rfl rfl rfl rfl ?_)
        intro w53 hu53 hb3 hz53
        have hs53 := hu53.size
        try replace hS26 := Upd.transA hS26 hu53
        replace hU := hU.trans hu53 (by (intro k hl hk; (try simp only [At, New, Grow, From, No] at hk ⊢); omega))
        replace hB1 := hB1.upd hu53 (by (simp only [At, Bt]; omega))
        replace hp := hp.upd hu53 (by (intro k hk hS; first | (simp only [At, Bt] at hS; omega) | (have := hG k hS; omega)))
        replace hac := hac.upd hu53 (fun k hk hl hS => by (simp only [At] at hS; omega))
        refine ⟨trivial, ?_⟩
        refine WN.done ?_
        refine WX.keep [(0, _), (2, _), (3, _)] ⟨rfl, rfl, rfl, trivial⟩ ?_
        change Blk _ _ #[.int .u8 15, Sv [], .int .i64 0, .bool false, .slice none 0 0, .slice A5 _ c5] _ at hb3
        refine WX.next (WC.seq (WC.region (WL.val rfl rfl rfl rfl (r_move rfl (ev_t rfl)) ?_)))
        refine WL.cons (SO.call (must_ok (u := [119, 105, 116, 104]) hp) rfl body_84 ⟨(ev_t rfl), ev_c, trivial⟩ rfl rfl rfl rfl ?_)
        rintro v9 w54 ⟨hp2, hu54⟩
        have hs54 := hu54.size
        replace hU := hU.trans hu54 (by exact (fun _ _ h => h))
        replace hB1 := hB1.upd hu54 (by (simp only [At, Bt]; omega))
        replace hb3 := hb3.upd hu54 (by (simp only [At, Bt]; omega))
        replace hac := hac.upd hu54 (fun k hk hl hS => by (simp only [At] at hS; omega))
        have hp := hp2
        refine WL.nil (WX.keep [(0, _), (2, _), (3, _)] ⟨rfl, rfl, rfl, trivial⟩ (WX.next (WC.seq (WC.region (WL.val rfl rfl rfl rfl (r_move rfl (ev_t rfl)) ?_)))))
        refine WL.cons (SO.call (text_ok9 (k := 1) hp (by decide)) rfl body_82 ⟨(ev_t rfl), ev_c, trivial⟩ rfl rfl rfl rfl ?_)
        rintro v9 w55 ⟨rfl, hp2, hu55⟩
        have hs55 := hu55.size
        replace hU := hU.trans hu55 (by exact (fun _ _ h => h))
        replace hB1 := hB1.upd hu55 (by (simp only [At, Bt]; omega))
        replace hb3 := hb3.upd hu55 (by (simp only [At, Bt]; omega))
        replace hac := hac.upd hu55 (fun k hk hl hS => by (simp only [At] at hS; omega))
        have hp := hp2
        have hdt : t1.2.d = s.d + 1 := by rw [ht1, txtQ_d, musQ_d]; omega
        rw [← ht1] at hp ⊢
        refine WL.val rfl rfl rfl rfl (r_field0 rfl (ev_t rfl) fld_36_1) ?_
        refine WL.cons (SO.store rfl (ev_t rfl) (ev_t rfl) size_9 hb3 rfl rfl rfl rfl rfl ?_)
        intro w56 hu56 hb3 hz56
        have hs56 := hu56.size
        replace hU := hU.trans hu56 (by (intro k hl hk; (try simp only [At, New, Grow, From, No] at hk ⊢); omega))
        replace hB1 := hB1.upd hu56 (by (simp only [At, Bt]; omega))
        replace hac := hac.upd hu56 (fun k hk hl hS => by (simp only [At] at hS; omega))
        replace hp := hp.upd hu56 (by (intro k hk hS; first | (simp only [At, Bt] at hS; omega) | (have := hG k hS; omega)))
        refine WL.nil (WX.keep [(0, _), (2, _), (3, _)] ⟨rfl, rfl, rfl, trivial⟩ ?_)
        change Blk _ _ #[.int .u8 15, Sv t1.1, .int .i64 0, .bool false, .slice none 0 0, .slice A5 _ c5] _ at hb3
        refine WX.next (WC.seq (WC.region (WL.val rfl rfl rfl rfl (r_move rfl (ev_t rfl)) ?_)))
        refine WL.cons (SO.call (must_ok (u := [45, 62]) hp) rfl body_84 ⟨(ev_t rfl), ev_c, trivial⟩ rfl rfl rfl rfl ?_)
        rintro v9 w57 ⟨hp2, hu57⟩
        have hs57 := hu57.size
        replace hU := hU.trans hu57 (by exact (fun _ _ h => h))
        replace hB1 := hB1.upd hu57 (by (simp only [At, Bt]; omega))
        replace hb3 := hb3.upd hu57 (by (simp only [At, Bt]; omega))
        replace hac := hac.upd hu57 (fun k hk hl hS => by (simp only [At] at hS; omega))
        have hp := hp2
        refine WL.nil (WX.keep [(0, _), (2, _), (3, _)] ⟨rfl, rfl, rfl, trivial⟩ (WX.next (WC.draws' (fun u0_ u1_ => Upd (At r) u0_ u1_) (fun j => [0, 0, 0, 1, 1, 2, 0, 2].getD j 0) (.calm 0 (.calm 2 (.held 1 (.one 3 (.one 4 (.one 5 (.calm 6 (.one 7 (.done))))))))) mixed (by kernel_rfl) (by repeat (first | with_reducible exact Deaf.body | with_reducible apply Deaf.then | with_reducible apply Deaf.block)) ?_)))
        intro w58 hu58
        have hz58 := congrArg Array.size hu58.2.2.2
        replace hu58 := Upd.of_draw hu58
        have hs58 := hu58.size
        replace hU := hU.trans hu58 (by exact (fun _ _ h => h.elim))
        replace hB1 := hB1.upd hu58 (by exact (fun h => h))
        replace hb3 := hb3.upd hu58 (by exact (fun h => h))
        replace hac := hac.upd hu58 (fun k hk hl hS => by exact (show False from hS).elim)
        replace hp := hp.upd hu58 (by exact (fun _ _ h => h))
        have hS30 := Upd.refl (At r) w58
        have h0b := hb3
        refine WN.calm _ rfl rfl rfl rfl rfl (fun _ => r_field0 rfl (ev_t rfl) fld_36_5) ?_
        refine WN.calm _ rfl rfl rfl rfl rfl (fun _ => r_move rfl (ev_t rfl)) ?_
        refine WN.held _ rfl rfl rfl rfl rfl hS30 (fun w' hS => r_load rfl (ev_t rfl) flat_34 (Blk.cell (h0b.upd hS (by (try simp only [At, From, No, Grow, New, Bt]); omega)) rfl)) ?_
        refine WN.step _ rfl (SO.call (ihE _ _ _ _ _ hp (by (try simp only [tlQ_d, musQ_d, takQ_d, txtQ_d]); omega) (by (try simp only [tlQ_d, musQ_d, takQ_d, txtQ_d]); omega)) rfl body_59 ⟨(ev_t rfl), trivial⟩ rfl rfl rfl rfl ?_)
        rintro v9 w59 ⟨c9, rfl, ht, hp2, hst, hu59⟩
        have hs59 := hu59.size
        replace hS30 := Upd.transA hS30 hu59
        replace hU := hU.trans hu59 (by exact (fun _ _ h => h))
        replace hB1 := hB1.upd hu59 (by (simp only [At, Bt]; omega))
        replace hb3 := hb3.upd hu59 (by (simp only [At, Bt]; omega))
        replace hac := hac.upd hu59 (fun k hk hl hS => by (simp only [At] at hS; omega))
        have hp := hp2
        have hsd := hst.1
        try simp only [tlQ_d, musQ_d, takQ_d, txtQ_d] at hsd
        obtain ⟨tk, ts, tn, trc, tps, tks, tA9, tp9, tA, tp, tys, txs, het, rfl, _⟩ := ht.mk6
        refine ⟨hS30, ?_⟩
        refine WN.step _ rfl (SO.alloc rfl rfl rfl rfl (r_buildSlice6 rfl (ev_t rfl) row_34) ?_)
        intro w60 hu60 hB60 hz60
        have hs60 := hu60.size
        replace hS30 := Upd.transA hS30 hu60
        replace hU := hU.trans hu60 (by exact (fun _ _ h => h.elim))
        replace hB1 := hB1.upd hu60 (by exact (fun h => h))
        replace hb3 := hb3.upd hu60 (by exact (fun h => h))
        replace hac := hac.upd hu60 (fun k hk hl hS => by exact (show False from hS).elim)
        replace hp := hp.upd hu60 (by exact (fun _ _ h => h))
        replace ht := ht.upd hu60 (fun k hk hl hS => by exact (show False from hS).elim)
        refine ⟨hS30, ?_⟩
        refine WN.step _ rfl (SO.appendA hac ht (fun k hk => ⟨fun hG9 => by have := hG _ hG9; simp only [Bt] at hk; omega, by simp only [Bt] at hk; omega⟩) (Rd.of_blk (F := At _) (n := 1) (sz := 6) hB60 rfl rfl (by omega)) row_34 (by simp) rfl rfl (ev_t rfl) (ev_t rfl) rfl rfl rfl rfl ?_ (by omega))
        intro v5 w61 hac2 hu61 hBw
        have hs61 := hu61.size
        try replace hS30 := Upd.transA hS30 hu61
        replace hU := hU.trans hu61 (by (intro k hl hk; first | exact hk | exact (show False from hk).elim | (have := hG k hk; omega) | (simp only [At, Bt] at *; exfalso; omega)))
        replace hB1 := hB1.upd hu61 (by (intro hS; have := hG _ hS; omega))
        replace hb3 := hb3.upd hu61 (by (intro hS; have := hG _ hS; omega))
        replace hp := hp.upd hu61 (by (intro k hk hS; first | (simp only [At, Bt] at hS; omega) | (have := hG k hS; omega)))
        have hac := hac2
        obtain ⟨A5, c5, rfl, _⟩ := hac.form
        have hG := hac.lt
        refine ⟨trivial, ?_⟩
        refine WN.calm _ rfl rfl rfl rfl rfl (fun _ => r_field0 rfl (ev_t rfl) fld_36_5) ?_
        refine WN.step _ rfl (SO.store rfl (ev_t rfl) (ev_t rfl) size_34 hb3 rfl rfl rfl rfl rfl ?_)
        intro w62 hu62 hb3 hz62
        have hs62 := hu62.size
        try replace hS30 := Upd.transA hS30 hu62
        replace hU := hU.trans hu62 (by (intro k hl hk; (try simp only [At, New, Grow, From, No] at hk ⊢); omega))
        replace hB1 := hB1.upd hu62 (by (simp only [At, Bt]; omega))
        replace hp := hp.upd hu62 (by (intro k hk hS; first | (simp only [At, Bt] at hS; omega) | (have := hG k hS; omega)))
        replace hac := hac.upd hu62 (fun k hk hl hS => by (simp only [At] at hS; omega))
        refine ⟨trivial, ?_⟩
        refine WN.done ?_
        refine WX.keep [(0, _), (2, _), (3, _)] ⟨rfl, rfl, rfl, trivial⟩ ?_
        change Blk _ _ #[.int .u8 15, Sv t1.1, .int .i64 0, .bool false, .slice none 0 0, .slice A5 _ c5] _ at hb3
        refine WX.blockNormal (WX.meet [(0, _), (2, _), (3, _)] ⟨rfl, rfl, rfl, trivial⟩ ?_)
        first
         | (rw [he9] at hone hmI
            obtain ⟨xs, hrx, hmx⟩ := haR2.done (by simp)
            exact ⟨_, _, _, _, _, _, _, _, hone, hmI, hU, hp, TM.exK (hrx.mono fun k hk => by simp only [Bt] at *; omega) (hmx.mono fun k hk => by simp only [Bt] at *; omega) (by simp [inK]), hB1, hb3, rfl⟩)
         | (rw [he9] at hone hmI
            obtain ⟨xs, hrx, hmx⟩ := hac.done (by simp)
            exact ⟨_, _, _, _, _, _, _, _, hone, hmI, hU, hp, TM.exK (hrx.mono fun k hk => by simp only [Bt] at *; omega) (hmx.mono fun k hk => by simp only [Bt] at *; omega) (by simp [inK]), hB1, hb3, rfl⟩)
         | (rw [he9] at hone hmI
            exact ⟨_, _, _, _, _, _, _, _, hone, hmI, hU, hp, ht2.mono fun k hk => by simp only [Bt] at *; omega, hB1, hb3, rfl⟩)
         | (rw [he9] at hone hmI
            exact ⟨_, _, _, _, _, _, _, _, hone, hmI, hU, hp, ht.mono fun k hk => by simp only [Bt] at *; omega, hB1, hb3, rfl⟩)
         | (have he8 : oneB (eq9 n) s = (Ex.z, clsQ (opnQ s)) := by
              unfold oneB
              rw [if_neg (by simpa using hc2)]
            exact ⟨_, _, _, _, _, _, _, _, he8, Pst.refl _, hU, hp, TM.ex0 (by simp [inK]), hB1, hb3, rfl⟩)
       ·rw [takQ_F hc24] at hp
        have he9 : oneI (eq9 n) (opnQ s) = (eq9 n).op 0 (opnQ s) := by
         unfold oneI
         rw [if_neg (by simp [hc4]), if_neg (by simp [hc9]), if_neg (by simp [hc15]), if_neg (by simp [hc22]), if_neg (by simp [hc24])]
        refine WC.region (WL.val rfl rfl rfl rfl (r_move rfl (ev_t rfl)) ?_)
        refine WL.cons (SO.call (ihP _ _ _ _ _ hp (by omega) (by omega)) rfl body_100 ⟨(ev_t rfl), ev_c, trivial⟩ rfl rfl rfl rfl ?_)
        rintro v9 w63 ⟨c9, rfl, ht, hp2, hst, hu63⟩
        have hs63 := hu63.size
        replace hU := hU.trans hu63 (by exact (fun _ _ h => h))
        replace hB1 := hB1.upd hu63 (by (simp only [At, Bt]; omega))
        replace hb3 := hb3.upd hu63 (by (simp only [At, Bt]; omega))
        have hp := hp2
        obtain ⟨tk, ts, tn, trc, tps, tks, tA9, tp9, tA, tp, tys, txs, het, rfl, _⟩ := ht.mk6
        refine WL.cons (SO.storeAll (us := [_, _, _, _, _, _]) rfl (ev_t rfl) (ev_t rfl) size_36 hb3 rfl rfl rfl rfl rfl ?_)
        intro w64 hu64 hb3 hz64
        have hs64 := hu64.size
        replace hU := hU.trans hu64 (by (intro k hl hk; (try simp only [At, New, Grow, From, No] at hk ⊢); omega))
        replace hB1 := hB1.upd hu64 (by (simp only [At, Bt]; omega))
        replace hp := hp.upd hu64 (by (intro k hk hS; first | (simp only [At, Bt] at hS; omega) | (have := hG k hS; omega)))
        replace ht := ht.upd hu64 (fun k hk hl hS => by (simp only [At, Bt] at hS hk; omega))
        refine WL.nil (WX.keep [(0, _), (2, _), (3, _)] ⟨rfl, rfl, rfl, trivial⟩ (WX.blockNormal (WX.meet [(0, _), (2, _), (3, _)] ⟨rfl, rfl, rfl, trivial⟩ ?_)))
        first
         | (rw [he9] at hone hmI
            obtain ⟨xs, hrx, hmx⟩ := haR2.done (by simp)
            exact ⟨_, _, _, _, _, _, _, _, hone, hmI, hU, hp, TM.exK (hrx.mono fun k hk => by simp only [Bt] at *; omega) (hmx.mono fun k hk => by simp only [Bt] at *; omega) (by simp [inK]), hB1, hb3, rfl⟩)
         | (rw [he9] at hone hmI
            obtain ⟨xs, hrx, hmx⟩ := hac.done (by simp)
            exact ⟨_, _, _, _, _, _, _, _, hone, hmI, hU, hp, TM.exK (hrx.mono fun k hk => by simp only [Bt] at *; omega) (hmx.mono fun k hk => by simp only [Bt] at *; omega) (by simp [inK]), hB1, hb3, rfl⟩)
         | (rw [he9] at hone hmI
            exact ⟨_, _, _, _, _, _, _, _, hone, hmI, hU, hp, ht2.mono fun k hk => by simp only [Bt] at *; omega, hB1, hb3, rfl⟩)
         | (rw [he9] at hone hmI
            exact ⟨_, _, _, _, _, _, _, _, hone, hmI, hU, hp, ht.mono fun k hk => by simp only [Bt] at *; omega, hB1, hb3, rfl⟩)
         | (have he8 : oneB (eq9 n) s = (Ex.z, clsQ (opnQ s)) := by
              unfold oneB
              rw [if_neg (by simpa using hc2)]
            exact ⟨_, _, _, _, _, _, _, _, he8, Pst.refl _, hU, hp, TM.ex0 (by simp [inK]), hB1, hb3, rfl⟩)
  ·try simp only [cS, ne_eq, Decidable.not_not] at hc2
   refine WC.skip (WX.meet [(0, _), (2, _), (3, _)] ⟨rfl, rfl, rfl, trivial⟩ ?_)
   first
    | (rw [he9] at hone hmI
       obtain ⟨xs, hrx, hmx⟩ := haR2.done (by simp)
       exact ⟨_, _, _, _, _, _, _, _, hone, hmI, hU, hp, TM.exK (hrx.mono fun k hk => by simp only [Bt] at *; omega) (hmx.mono fun k hk => by simp only [Bt] at *; omega) (by simp [inK]), hB1, hb3, rfl⟩)
    | (rw [he9] at hone hmI
       obtain ⟨xs, hrx, hmx⟩ := hac.done (by simp)
       exact ⟨_, _, _, _, _, _, _, _, hone, hmI, hU, hp, TM.exK (hrx.mono fun k hk => by simp only [Bt] at *; omega) (hmx.mono fun k hk => by simp only [Bt] at *; omega) (by simp [inK]), hB1, hb3, rfl⟩)
    | (rw [he9] at hone hmI
       exact ⟨_, _, _, _, _, _, _, _, hone, hmI, hU, hp, ht2.mono fun k hk => by simp only [Bt] at *; omega, hB1, hb3, rfl⟩)
    | (rw [he9] at hone hmI
       exact ⟨_, _, _, _, _, _, _, _, hone, hmI, hU, hp, ht.mono fun k hk => by simp only [Bt] at *; omega, hB1, hb3, rfl⟩)
    | (have he8 : oneB (eq9 n) s = (Ex.z, clsQ (opnQ s)) := by
         unfold oneB
         rw [if_neg (by simpa using hc2)]
       exact ⟨_, _, _, _, _, _, _, _, he8, Pst.refl _, hU, hp, TM.ex0 (by simp [inK]), hB1, hb3, rfl⟩)
 ·clear hU hp hB1 hb3
  rintro E wA ⟨y0, y1, y2, y3, y4, y5, x, s2, he9, hPst, hU, hp, ht, hB1, hb3, rfl⟩
  have hsA := hU.size
  have hlt1 := hB1.lt
  have hlt3 := hb3.lt
  have hd2 := hPst.1
  obtain ⟨tk, ts, tn, trc, tps, tks, tA9, tp9, tA, tp, tys, txs, het, hcs9, _⟩ := ht.mk6
  obtain ⟨rfl, rfl, rfl, rfl, rfl, rfl⟩ : y0 = _ ∧ y1 = _ ∧ y2 = _ ∧ y3 = _ ∧ y4 = _ ∧ y5 = _ := by simpa using hcs9
  refine WC.seq (WC.region ?_)
  obtain ⟨FD, bD, offD, cD, zD, badD, hbD, hzD, hrD, hFD, hID⟩ := hp.open
  refine WL.val rfl rfl rfl rfl (r_move rfl (ev_t rfl)) ?_
  refine WL.val rfl rfl rfl rfl (r_nilCheck rfl (ev_t rfl)) ?_
  refine WL.val rfl rfl rfl rfl (r_field0 rfl (ev_t rfl) fld_58_2) ?_
  refine WL.val rfl rfl rfl rfl (r_load rfl (ev_t rfl) flat_3 (Blk.cell hbD rfl)) ?_
  refine WL.val rfl rfl rfl rfl (r_subN rfl (ev_t rfl) ev_c (by simp only [inK]; omega)) ?_
  refine WL.val rfl rfl rfl rfl (r_nilCheck rfl (ev_t rfl)) ?_
  refine WL.val rfl rfl rfl rfl (r_field0 rfl (ev_t rfl) fld_58_2) ?_
  refine WL.cons (SO.store rfl (ev_t rfl) (ev_t rfl) size_3 hbD rfl rfl rfl rfl rfl ?_)
  intro w65 hu65 hbD hz65
  have hs65 := hu65.size
  replace hU := hU.trans hu65 (by exact (fun _ _ h => h))
  replace hB1 := hB1.upd hu65 (by (simp only [At, Bt]; omega))
  replace hb3 := hb3.upd hu65 (by (simp only [At, Bt]; omega))
  replace ht := ht.upd hu65 (fun k hk hl hS => by (simp only [At, Bt] at hS hk; omega))
  refine WL.nil (WX.keep [(2, _), (3, _)] ⟨rfl, rfl, trivial⟩ ?_)
  rw [PS.clsB hp (by omega)] at hbD
  have hp9 : PS w65 r B0 A (clsQ s2) := hp.shut hu65 hbD hzD (hrD.upd hu65 (fun k hk hl hS => (hFD k hk).1 hS)) hFD hp.suf hp.fin (by show s2.d - 1 ≤ 52; have := hp.dle; omega) hp.ele
  refine WX.next (WC.seq (WC.region (WL.val rfl rfl rfl rfl (r_loadAgg (vs := [_, _, _, _, _, _]) rfl (ev_t rfl) agg_36 size_36 (Blk.cellsL hb3)) ?_)))
  refine WL.cons (SO.storeAll (us := [_, _, _, _, _, _]) rfl (ev_t rfl) (ev_t rfl) size_36 hB1 rfl rfl rfl rfl rfl ?_)
  intro w66 hu66 hB1 hz66
  have hs66 := hu66.size
  replace hU := hU.trans hu66 (by (intro k hl hk; (try simp only [At, New, Grow, From, No] at hk ⊢); omega))
  replace hb3 := hb3.upd hu66 (by (simp only [At, Bt]; omega))
  replace ht := ht.upd hu66 (fun k hk hl hS => by (simp only [At, Bt] at hS hk; omega))
  replace hp9 := hp9.updA hu66
  refine WL.nil (WX.keep [(2, _)] ⟨rfl, trivial⟩ (WX.next (WC.ret (WX.retC (vs := [_, _, _, _, _, _]) rfl rfl agg_36 size_36 (Blk.cellsL hB1) ?_))))
  rw [he9]
  exact ⟨_, rfl, ht.mono fun k hk => by simp only [Bt] at *; omega, hp9, hPst.cls, hU⟩
end Go.Proofs.YtomkdhkkggbioaaGreatDoor

/-
  The reference's parser: an expression, and others behind a semicolon; all of them together.
-/
namespace Go.Proofs.YtomkdhkkggbioaaGreatDoor
open Go
set_option linter.unusedSimpArgs false
set_option linter.unusedVariables false

set_option maxHeartbeats 2000000 in
theorem expr_ok {n : Nat} (ihE : PC 59 (eq9 n).expr n) (ihO : PC 88 (eq9 n).one n) : PC 59 (eq9 (n + 1)).expr (n + 1) := by
  intro w r B0 A s hp hd hn
  obtain ⟨hI1, hI2, hI3, hI4, hI5⟩ := hp.I
  show Ret _ _ _ _ fun v w' => ∃ c, v = .agg c.toArray ∧ TM w' (Bt w.heap.size w'.heap.size) c (expB (eq9 n) s).1 ∧ PS w' r B0 A (expB (eq9 n) s).2 ∧ Pst s (expB (eq9 n) s).2 ∧ Upd (At r) w w'
  have hod := opnQ_d s
  refine enterRet (vs := [_]) (N := 25) Tryz.func59 rfl rfl rfl ?_
  have hU := Upd.refl (At r) w
  refine WC.keep [(0, _)] ⟨rfl, trivial⟩ (WC.seq (WC.region (WL.cons (SO.alloc rfl rfl rfl rfl (r_alloc rfl zero_36) ?_))))
  intro w1 hu1 hB1 hz1
  have hs1 := hu1.size
  replace hU := hU.trans hu1 (by exact (fun _ _ h => h.elim))
  replace hp := hp.upd hu1 (by exact (fun _ _ h => h))
  refine WL.nil (WX.keep [(0, _), (2, _)] ⟨rfl, rfl, trivial⟩ (WX.next (WC.seq (WC.region (WL.cons (SO.alloc rfl rfl rfl rfl (r_alloc rfl zero_36) ?_))))))
  intro w2 hu2 hB2 hz2
  have hs2 := hu2.size
  replace hU := hU.trans hu2 (by exact (fun _ _ h => h.elim))
  replace hp := hp.upd hu2 (by exact (fun _ _ h => h))
  replace hB1 := hB1.upd hu2 (by exact (fun h => h))
  refine WL.nil (WX.keep [(0, _), (2, _), (3, _)] ⟨rfl, rfl, rfl, trivial⟩ (WX.next ?_))
  -- cut 2: live [0, 2, 3]
  refine WC.cut (fun E wA => ∃ (y0 y1 y2 y3 y4 y5 : Value) (x : Ex) (s2 : St), expB (eq9 n) s = (x, clsQ s2) ∧ Pst (opnQ s) s2 ∧ Upd (At r) w wA ∧ PS wA r B0 A s2 ∧ TM wA (Bt (w.heap.size + 2) wA.heap.size) [y0, y1, y2, y3, y4, y5] x ∧ Blk wA w.heap.size #[.int .u8 0, .string ⟨#[]⟩, .int .i64 0, .bool false, .slice none 0 0, .slice none 0 0] 36 ∧ Blk wA w1.heap.size #[y0, y1, y2, y3, y4, y5] 36 ∧ E = [(0, (.pointer (some ⟨r, 0, none⟩))), (2, .pointer (some ⟨w.heap.size, 0, none⟩)), (3, .pointer (some ⟨w1.heap.size, 0, none⟩))]) ?_ ?_
  · refine WC.seq (WC.region (WL.val rfl rfl rfl rfl (r_move rfl (ev_t rfl)) ?_))
    refine WL.cons (SO.call (open_ok9 hp hd) rfl body_87 ⟨(ev_t rfl), trivial⟩ rfl rfl rfl rfl ?_)
    rintro v9 w3 ⟨rfl, hp2, hu3⟩
    have hs3 := hu3.size
    replace hU := hU.trans hu3 (by exact (fun _ _ h => h))
    replace hB1 := hB1.upd hu3 (by (simp only [At]; omega))
    replace hB2 := hB2.upd hu3 (by (simp only [At]; omega))
    have hp := hp2
    refine WL.nil (WX.keep [(0, _), (2, _), (3, _), (6, _)] ⟨rfl, rfl, rfl, rfl, trivial⟩ (WX.next (WC.cond rfl (ev_t rfl) (fun hc2 => ?_) (fun hc2 => ?_))))
    · try simp only [cS, ne_eq, Decidable.not_not] at hc2
      have h0 : (opnQ s).e = 0 := by simpa using hc2
      have hd5 := opnQ_ok h0
      refine WC.seq (WC.region (WL.val rfl rfl rfl rfl (r_move rfl (ev_t rfl)) ?_))
      refine WL.cons (SO.call (ihO _ _ _ _ _ hp (by (try simp only [tlQ_d, musQ_d, takQ_d, txtQ_d]); omega) (by (try simp only [tlQ_d, musQ_d, takQ_d, txtQ_d]); omega)) rfl body_88 ⟨(ev_t rfl), trivial⟩ rfl rfl rfl rfl ?_)
      rintro v9 w4 ⟨c9, rfl, ht, hp2, hst, hu4⟩
      have hs4 := hu4.size
      replace hU := hU.trans hu4 (by exact (fun _ _ h => h))
      replace hB1 := hB1.upd hu4 (by (simp only [At]; omega))
      replace hB2 := hB2.upd hu4 (by (simp only [At]; omega))
      have hp := hp2
      have hsd := hst.1
      try simp only [tlQ_d, musQ_d, takQ_d, txtQ_d] at hsd
      obtain ⟨tk, ts, tn, trc, tps, tks, tA9, tp9, tA, tp, tys, txs, het, rfl, _⟩ := ht.mk6
      have hx := ht
      have hstx := hst
      refine WL.cons (SO.storeAll (us := [_, _, _, _, _, _]) rfl (ev_t rfl) (ev_t rfl) size_36 hB2 rfl rfl rfl rfl rfl ?_)
      intro w5 hu5 hB2 hz5
      have hs5 := hu5.size
      replace hU := hU.trans hu5 (by (intro k hl hk; (try simp only [At, New, Grow, From, No] at hk ⊢); omega))
      replace hB1 := hB1.upd hu5 (by (simp only [At]; omega))
      replace hp := hp.upd hu5 (by (intro k hk hS; first | (simp only [At] at hS; omega) | (have := hG k hS; omega)))
      replace hx := hx.upd hu5 (fun k hk hl hS => by (simp only [At, Bt] at hS hk; omega))
      refine WL.nil (WX.keep [(0, _), (2, _), (3, _)] ⟨rfl, rfl, rfl, trivial⟩ (WX.next (WC.seq (WC.region (WL.val rfl rfl rfl rfl (r_move rfl (ev_t rfl)) ?_)))))
      refine WL.cons (SO.call (take_ok (u := [59]) hp) rfl body_31 ⟨(ev_t rfl), ev_c, trivial⟩ rfl rfl rfl rfl ?_)
      rintro v9 w6 ⟨rfl, hp2, hu6⟩
      have hs6 := hu6.size
      replace hU := hU.trans hu6 (by exact (fun _ _ h => h))
      replace hB1 := hB1.upd hu6 (by (simp only [At]; omega))
      replace hB2 := hB2.upd hu6 (by (simp only [At]; omega))
      replace hx := hx.upd hu6 (fun k hk hl hS => by (simp only [At, Bt] at hS hk; omega))
      have hp := hp2
      refine WL.nil (WX.keep [(0, _), (2, _), (3, _), (10, _)] ⟨rfl, rfl, rfl, rfl, trivial⟩ (WX.next (WC.cond rfl (ev_t rfl) (fun hc4 => ?_) (fun hc4 => ?_))))
      · rw [takQ_T hc4] at hp
        refine WC.seq (WC.region (WL.val rfl rfl rfl rfl (r_move rfl (ev_t rfl)) ?_))
        refine WL.cons (SO.call (ihE _ _ _ _ _ hp (by (try simp only [tlQ_d, musQ_d, takQ_d, txtQ_d]); omega) (by (try simp only [tlQ_d, musQ_d, takQ_d, txtQ_d]); omega)) rfl body_59 ⟨(ev_t rfl), trivial⟩ rfl rfl rfl rfl ?_)
        rintro v9 w7 ⟨c9, rfl, ht, hp2, hst, hu7⟩
        have hs7 := hu7.size
        replace hU := hU.trans hu7 (by exact (fun _ _ h => h))
        replace hB1 := hB1.upd hu7 (by (simp only [At]; omega))
        replace hB2 := hB2.upd hu7 (by (simp only [At]; omega))
        replace hx := hx.upd hu7 (fun k hk hl hS => by (simp only [At, Bt] at hS hk; omega))
        have hp := hp2
        have hsd := hst.1
        try simp only [tlQ_d, musQ_d, takQ_d, txtQ_d] at hsd
        obtain ⟨uk, us, un, urc, ups, uks, uA9, up9, uA, up, uys, uxs, heu, rfl, _⟩ := ht.mk6
        refine WL.cons (SO.alloc rfl rfl rfl rfl (r_alloc rfl zero_36) ?_)
        intro w8 hu8 hB8 hz8
        have hs8 := hu8.size
        replace hU := hU.trans hu8 (by exact (fun _ _ h => h.elim))
        replace hB1 := hB1.upd hu8 (by exact (fun h => h))
        replace hB2 := hB2.upd hu8 (by exact (fun h => h))
        replace hx := hx.upd hu8 (fun k hk hl hS => by exact (show False from hS).elim)
        replace hp := hp.upd hu8 (by exact (fun _ _ h => h))
        replace ht := ht.upd hu8 (fun k hk hl hS => by exact (show False from hS).elim)
        refine WL.cons (SO.storeAll (us := [_, _, _, _, _, _]) rfl (ev_t rfl) (ev_t rfl) size_36 hB8 rfl rfl rfl rfl rfl ?_)
        intro w9 hu9 hB8 hz9
        have hs9 := hu9.size
        replace hU := hU.trans hu9 (by (intro k hl hk; (try simp only [At, New, Grow, From, No] at hk ⊢); omega))
        replace hB1 := hB1.upd hu9 (by (simp only [At]; omega))
        replace hB2 := hB2.upd hu9 (by (simp only [At]; omega))
        replace hx := hx.upd hu9 (fun k hk hl hS => by (simp only [At, Bt] at hS hk; omega))
        replace hp := hp.upd hu9 (by (intro k hk hS; first | (simp only [At] at hS; omega) | (have := hG k hS; omega)))
        replace ht := ht.upd hu9 (fun k hk hl hS => by (simp only [At, Bt] at hS hk; omega))
        refine WL.nil (WX.keep [(0, _), (2, _), (3, _), (4, _)] ⟨rfl, rfl, rfl, rfl, trivial⟩ ?_)
        have h7 := hB8
        refine WX.next (WC.region (WL.val rfl rfl rfl rfl (r_loadAgg (vs := [_, _, _, _, _, _]) rfl (ev_t rfl) agg_36 size_36 (Blk.cellsL hB2)) ?_))
        refine WL.val rfl rfl rfl rfl (r_loadAgg (vs := [_, _, _, _, _, _]) rfl (ev_t rfl) agg_36 size_36 (Blk.cellsL h7)) ?_
        refine WL.cons (SO.alloc rfl rfl rfl rfl (r_buildSlice66 rfl (ev_t rfl) (ev_t rfl) row_34) ?_)
        intro w10 hu10 hrow hz9
        have hs10 := hu10.size
        replace hU := hU.trans hu10 (by exact (fun _ _ h => h.elim))
        replace hB1 := hB1.upd hu10 (by exact (fun h => h))
        replace hB2 := hB2.upd hu10 (by exact (fun h => h))
        replace hx := hx.upd hu10 (fun k hk hl hS => by exact (show False from hS).elim)
        replace hp := hp.upd hu10 (by exact (fun _ _ h => h))
        replace ht := ht.upd hu10 (fun k hk hl hS => by exact (show False from hS).elim)
        replace h7 := h7.updA hu10
        refine WL.val rfl rfl rfl rfl (r_build (cs := #[_, _, _, _, _, _]) (vs := [(0, _), (5, _)]) rfl ⟨⟨rfl, ev_c⟩, ⟨rfl, (ev_t rfl)⟩, trivial⟩ plc_36 zero_36 rfl) ?_
        refine WL.cons (SO.storeAll (us := [_, _, _, _, _, _]) rfl (ev_t rfl) (ev_t rfl) size_36 hB2 rfl rfl rfl rfl rfl ?_)
        intro w11 hu11 hB2 hz11
        have hs11 := hu11.size
        replace hU := hU.trans hu11 (by (intro k hl hk; (try simp only [At, New, Grow, From, No] at hk ⊢); omega))
        replace hB1 := hB1.upd hu11 (by (simp only [At]; omega))
        replace hx := hx.upd hu11 (fun k hk hl hS => by (simp only [At, Bt] at hS hk; omega))
        replace hp := hp.upd hu11 (by (intro k hk hS; first | (simp only [At] at hS; omega) | (have := hG k hS; omega)))
        replace ht := ht.upd hu11 (fun k hk hl hS => by (simp only [At, Bt] at hS hk; omega))
        replace h7 := h7.updA hu11
        replace hrow := hrow.updA hu11
        refine WL.nil (WX.keep [(0, _), (2, _), (3, _)] ⟨rfl, rfl, rfl, trivial⟩ (WX.meet [(0, _), (2, _), (3, _)] ⟨rfl, rfl, rfl, trivial⟩ ?_))
        first
          | (have he9 : expB (eq9 n) s = (Ex.mk 16 [] 0 false [] [((eq9 n).one (opnQ s)).1, ((eq9 n).expr (tlQ ((eq9 n).one (opnQ s)).2)).1], clsQ ((eq9 n).expr (tlQ ((eq9 n).one (opnQ s)).2)).2) := by
               simp only [expB]
               rw [if_pos h0, if_pos hc4]
             have hl9 := hrow.lt
             exact ⟨_, _, _, _, _, _, _, _, he9, hstx.trans ((Pst.tl _).trans hst), hU, hp, TM.exK (xs := [[_, _, _, _, _, _], [_, _, _, _, _, _]]) (Rd.of_blk (F := Bt _ _) (n := 2) (sz := 6) hrow (by simp only [Bt]; omega) rfl (by omega)) (Ms.cons (hx.mono fun k hk => by simp only [Bt] at *; omega) (Ms.cons (ht.mono fun k hk => by simp only [Bt] at *; omega) (Ms.nil _ _))) (by simp [inK]), hB1, hB2, rfl⟩)
          | (have he9 : expB (eq9 n) s = (((eq9 n).one (opnQ s)).1, clsQ ((eq9 n).one (opnQ s)).2) := by
               simp only [expB]
               rw [if_pos h0, if_neg (by simp [hc4])]
             exact ⟨_, _, _, _, _, _, _, _, he9, hstx, hU, hp, hx.mono fun k hk => by simp only [Bt] at *; omega, hB1, hB2, rfl⟩)
          | (have he9 : expB (eq9 n) s = (Ex.z, clsQ (opnQ s)) := by
               simp only [expB]
               rw [if_neg (by simpa using hc2)]
             exact ⟨_, _, _, _, _, _, _, _, he9, Pst.refl _, hU, hp, TM.ex0 (by simp [inK]), hB1, hB2, rfl⟩)
      · rw [takQ_F hc4] at hp
        refine WC.skip (WX.meet [(0, _), (2, _), (3, _)] ⟨rfl, rfl, rfl, trivial⟩ ?_)
        first
          | (have he9 : expB (eq9 n) s = (Ex.mk 16 [] 0 false [] [((eq9 n).one (opnQ s)).1, ((eq9 n).expr (tlQ ((eq9 n).one (opnQ s)).2)).1], clsQ ((eq9 n).expr (tlQ ((eq9 n).one (opnQ s)).2)).2) := by
               simp only [expB]
               rw [if_pos h0, if_pos hc4]
             have hl9 := hrow.lt
             exact ⟨_, _, _, _, _, _, _, _, he9, hstx.trans ((Pst.tl _).trans hst), hU, hp, TM.exK (xs := [[_, _, _, _, _, _], [_, _, _, _, _, _]]) (Rd.of_blk (F := Bt _ _) (n := 2) (sz := 6) hrow (by simp only [Bt]; omega) rfl (by omega)) (Ms.cons (hx.mono fun k hk => by simp only [Bt] at *; omega) (Ms.cons (ht.mono fun k hk => by simp only [Bt] at *; omega) (Ms.nil _ _))) (by simp [inK]), hB1, hB2, rfl⟩)
          | (have he9 : expB (eq9 n) s = (((eq9 n).one (opnQ s)).1, clsQ ((eq9 n).one (opnQ s)).2) := by
               simp only [expB]
               rw [if_pos h0, if_neg (by simp [hc4])]
             exact ⟨_, _, _, _, _, _, _, _, he9, hstx, hU, hp, hx.mono fun k hk => by simp only [Bt] at *; omega, hB1, hB2, rfl⟩)
          | (have he9 : expB (eq9 n) s = (Ex.z, clsQ (opnQ s)) := by
               simp only [expB]
               rw [if_neg (by simpa using hc2)]
             exact ⟨_, _, _, _, _, _, _, _, he9, Pst.refl _, hU, hp, TM.ex0 (by simp [inK]), hB1, hB2, rfl⟩)
    · try simp only [cS, ne_eq, Decidable.not_not] at hc2
      refine WC.skip (WX.meet [(0, _), (2, _), (3, _)] ⟨rfl, rfl, rfl, trivial⟩ ?_)
      first
        | (have he9 : expB (eq9 n) s = (Ex.mk 16 [] 0 false [] [((eq9 n).one (opnQ s)).1, ((eq9 n).expr (tlQ ((eq9 n).one (opnQ s)).2)).1], clsQ ((eq9 n).expr (tlQ ((eq9 n).one (opnQ s)).2)).2) := by
             simp only [expB]
             rw [if_pos h0, if_pos hc4]
           have hl9 := hrow.lt
           exact ⟨_, _, _, _, _, _, _, _, he9, hstx.trans ((Pst.tl _).trans hst), hU, hp, TM.exK (xs := [[_, _, _, _, _, _], [_, _, _, _, _, _]]) (Rd.of_blk (F := Bt _ _) (n := 2) (sz := 6) hrow (by simp only [Bt]; omega) rfl (by omega)) (Ms.cons (hx.mono fun k hk => by simp only [Bt] at *; omega) (Ms.cons (ht.mono fun k hk => by simp only [Bt] at *; omega) (Ms.nil _ _))) (by simp [inK]), hB1, hB2, rfl⟩)
        | (have he9 : expB (eq9 n) s = (((eq9 n).one (opnQ s)).1, clsQ ((eq9 n).one (opnQ s)).2) := by
             simp only [expB]
             rw [if_pos h0, if_neg (by simp [hc4])]
           exact ⟨_, _, _, _, _, _, _, _, he9, hstx, hU, hp, hx.mono fun k hk => by simp only [Bt] at *; omega, hB1, hB2, rfl⟩)
        | (have he9 : expB (eq9 n) s = (Ex.z, clsQ (opnQ s)) := by
             simp only [expB]
             rw [if_neg (by simpa using hc2)]
           exact ⟨_, _, _, _, _, _, _, _, he9, Pst.refl _, hU, hp, TM.ex0 (by simp [inK]), hB1, hB2, rfl⟩)
  · clear hU hp hB1 hB2
    rintro E wA ⟨y0, y1, y2, y3, y4, y5, x, s2, he9, hPst, hU, hp, ht, hB1, hB2, rfl⟩
    have hsA := hU.size
    have hlt1 := hB1.lt
    have hlt2 := hB2.lt
    have hd2 := hPst.1
    obtain ⟨tk, ts, tn, trc, tps, tks, tA9, tp9, tA, tp, tys, txs, het, hcs9, _⟩ := ht.mk6
    obtain ⟨rfl, rfl, rfl, rfl, rfl, rfl⟩ : y0 = _ ∧ y1 = _ ∧ y2 = _ ∧ y3 = _ ∧ y4 = _ ∧ y5 = _ := by simpa using hcs9
    refine WC.seq (WC.region ?_)
    obtain ⟨FD, bD, offD, cD, zD, badD, hbD, hzD, hrD, hFD, hID⟩ := hp.open
    refine WL.val rfl rfl rfl rfl (r_move rfl (ev_t rfl)) ?_
    refine WL.val rfl rfl rfl rfl (r_nilCheck rfl (ev_t rfl)) ?_
    refine WL.val rfl rfl rfl rfl (r_field0 rfl (ev_t rfl) fld_58_2) ?_
    refine WL.val rfl rfl rfl rfl (r_load rfl (ev_t rfl) flat_3 (Blk.cell hbD rfl)) ?_
    refine WL.val rfl rfl rfl rfl (r_subN rfl (ev_t rfl) ev_c (by simp only [inK]; omega)) ?_
    refine WL.val rfl rfl rfl rfl (r_nilCheck rfl (ev_t rfl)) ?_
    refine WL.val rfl rfl rfl rfl (r_field0 rfl (ev_t rfl) fld_58_2) ?_
    refine WL.cons (SO.store rfl (ev_t rfl) (ev_t rfl) size_3 hbD rfl rfl rfl rfl rfl ?_)
    intro w12 hu12 hbD hz12
    have hs12 := hu12.size
    replace hU := hU.trans hu12 (by exact (fun _ _ h => h))
    replace hB1 := hB1.upd hu12 (by (simp only [At]; omega))
    replace hB2 := hB2.upd hu12 (by (simp only [At]; omega))
    replace ht := ht.upd hu12 (fun k hk hl hS => by (simp only [At, Bt] at hS hk; omega))
    refine WL.nil (WX.keep [(2, _), (3, _)] ⟨rfl, rfl, trivial⟩ ?_)
    rw [PS.clsB hp (by omega)] at hbD
    have hp9 : PS w12 r B0 A (clsQ s2) := hp.shut hu12 hbD hzD (hrD.upd hu12 (fun k hk hl hS => (hFD k hk).1 hS)) hFD hp.suf hp.fin (by show s2.d - 1 ≤ 52; have := hp.dle; omega) hp.ele
    refine WX.next (WC.seq (WC.region (WL.val rfl rfl rfl rfl (r_loadAgg (vs := [_, _, _, _, _, _]) rfl (ev_t rfl) agg_36 size_36 (Blk.cellsL hB2)) ?_)))
    refine WL.cons (SO.storeAll (us := [_, _, _, _, _, _]) rfl (ev_t rfl) (ev_t rfl) size_36 hB1 rfl rfl rfl rfl rfl ?_)
    intro w13 hu13 hB1 hz13
    have hs13 := hu13.size
    replace hU := hU.trans hu13 (by (intro k hl hk; (try simp only [At, New, Grow, From, No] at hk ⊢); omega))
    replace hB2 := hB2.upd hu13 (by (simp only [At]; omega))
    replace ht := ht.upd hu13 (fun k hk hl hS => by (simp only [At, Bt] at hS hk; omega))
    replace hp9 := hp9.updA hu13
    refine WL.nil (WX.keep [(2, _)] ⟨rfl, trivial⟩ (WX.next (WC.ret (WX.retC (vs := [_, _, _, _, _, _]) rfl rfl agg_36 size_36 (Blk.cellsL hB1) ?_))))
    rw [he9]
    exact ⟨_, rfl, ht.mono fun k hk => by simp only [Bt] at *; omega, hp9, hPst.cls, hU⟩
structure AllC (n : Nat) : Prop where
  expr : PC 59 (eq9 n).expr n
  one : PC 88 (eq9 n).one n
  op : ∀ lv, lv ≤ 7 → OpC (eq9 n).op n lv
  pre : PC 115 (eq9 n).pre n
  atom : PC 141 (eq9 n).atom n
theorem all_ok : ∀ n, AllC n
  | 0 => ⟨fun w r B0 A s hp hd hn => absurd hn (by omega), fun w r B0 A s hp hd hn => absurd hn (by omega), fun lv _ w r B0 A s hp hd hn => absurd hn (by omega), fun w r B0 A s hp hd hn => absurd hn (by omega), fun w r B0 A s hp hd hn => absurd hn (by omega)⟩
  | n + 1 => by
    have h := all_ok n
    have hatom := atom_ok (thing_ok h.expr h.one h.atom)
    have hpre := prefix_ok (call_ok hatom) h.pre
    have hop : ∀ j lv, lv ≤ 7 → 7 - lv = j → OpC (fun lv => opB (eq9 n) (7 - lv)) (n + 1) lv := by
      intro j
      induction j with
      | zero => intro lv h1 h2; obtain rfl : lv = 7 := by omega
                exact op_zero hpre
      | succ j ih => intro lv h1 h2; exact op_step (by omega) (ih (lv + 1) (by omega) (by omega)) h.op
    exact ⟨expr_ok h.expr h.one, one_ok h.expr h.one (bind_ok h.expr) (match_ok h.expr) (h.op 0 (by omega)), fun lv hlv => hop _ lv hlv rfl, hpre, hatom⟩
end Go.Proofs.YtomkdhkkggbioaaGreatDoor

/-
 The reference's parser: a type's declaration.
-/
namespace Go.Proofs.YtomkdhkkggbioaaGreatDoor
open Go
set_option linter.unusedSimpArgs false
set_option linter.unusedVariables false

theorem varL_stop {m : Bool} {k : Nat} {l : List (List UInt8)} {s : St} (h : s.e ≠ 0) : varL m k l s = (l, s) := by
 cases k with
 | zero => rfl
 | succ k => simp [varL, h]
/-- behind a name that must be new -/
def newQ (l : List (List UInt8)) (t : List UInt8 × St) : St := if t.2.e = 0 ∧ 0 < hasQ l t.1 then fauQ t.2 7 else t.2
theorem Pst.new (l : List (List UInt8)) (t : List UInt8 × St) : Pst t.2 (newQ l t) := by unfold newQ; split; exact Pst.fau _ _; exact Pst.refl _
theorem varL_last {m : Bool} {k : Nat} {l : List (List UInt8)} {s : St} (h : s.e = 0) (h2 : m = false ∨ isQ (newQ l (txtQ s 3)) [44] = false) : varL m (k + 1) l s = (l ++ [(txtQ s 3).1], newQ l (txtQ s 3)) := by
 rw [varL, if_pos h]
 simp only
 rw [if_neg]
 ·rfl
 ·rintro ⟨h3, h4⟩
  rcases h2 with h2 | h2
  ·rw [h3] at h2; cases h2
  ·have h5 : isQ (newQ l (txtQ s 3)) [44] = true := h4
   rw [h2] at h5; cases h5
theorem varL_step {k : Nat} {l : List (List UInt8)} {s : St} (h : s.e = 0) (h2 : isQ (newQ l (txtQ s 3)) [44] = true) : varL true (k + 1) l s = varL true k (l ++ [(txtQ s 3).1]) (tlQ (newQ l (txtQ s 3))) := by
 rw [varL, if_pos h]
 simp only
 rw [if_pos ⟨trivial, h2⟩]
 rfl
theorem ctrL_stop {vs : List (List UInt8)} {k : Nat} {l : List Ct} {s : St} (h : s.e ≠ 0) : ctrL vs k l s = (l, s) := by
 cases k with
 | zero => rfl
 | succ k => simp [ctrL, h]
/-- one constructor -/
def ctQ (vs : List (List UInt8)) (l : List Ct) (s : St) : Ct × St :=
 let t := txtQ s 2
 let s1 := newQ (l.map (·.s)) t
 if isQ s1 [111, 102] = true then (⟨t.1, true, ((tq 51).arr vs (tlQ s1)).1⟩, ((tq 51).arr vs (tlQ s1)).2) else (⟨t.1, false, Tr.z⟩, s1)
theorem ctrL_last {vs : List (List UInt8)} {k : Nat} {l : List Ct} {s : St} (h : s.e = 0) (h2 : isQ (ctQ vs l s).2 [124] = false) : ctrL vs (k + 1) l s = (l ++ [(ctQ vs l s).1], (ctQ vs l s).2) := by
 rw [ctrL, if_pos h]
 have h3 : ¬ isQ (ctQ vs l s).2 [124] = true := by simp [h2]
 exact if_neg h3
theorem ctrL_step {vs : List (List UInt8)} {k : Nat} {l : List Ct} {s : St} (h : s.e = 0) (h2 : isQ (ctQ vs l s).2 [124] = true) : ctrL vs (k + 1) l s = ctrL vs k (l ++ [(ctQ vs l s).1]) (tlQ (ctQ vs l s).2) := by
 rw [ctrL, if_pos h]
 exact if_pos h2
theorem Mo.tnm : ∀ (k : Nat) (l : List Tr) (s : St), Pst s (tnmQ k l s).2
 | 0, l, s => by rw [tnmQ]; exact Pst.refl _
 | k + 1, l, s => by
  rw [tnmQ]
  split
  ·exact (Pst.tl s).trans (Mo.tnm k _ _)
  ·exact Pst.refl _
theorem Mo.tq (vs : List (List UInt8)) : ∀ n, Mo ((Proofs.YtomkdhkkggbioaaGreatDoor.tq n).arr vs) ∧ Mo ((Proofs.YtomkdhkkggbioaaGreatDoor.tq n).app vs)
 | 0 => ⟨fun s => Pst.refl _, fun s => Pst.refl _⟩
 | n + 1 => by
  obtain ⟨h1, h2⟩ := Mo.tq vs n
  refine ⟨fun s => ?_, fun s => ?_⟩
  ·show Pst s (arrB _ vs s).2
   unfold arrB
   split
   ·dsimp only
    have h3 : Pst (opnQ s) (sepQ ((Proofs.YtomkdhkkggbioaaGreatDoor.tq n).app vs) [42] ((Proofs.YtomkdhkkggbioaaGreatDoor.tq n).app vs (opnQ s)).2.ts.length [((Proofs.YtomkdhkkggbioaaGreatDoor.tq n).app vs (opnQ s)).1] ((Proofs.YtomkdhkkggbioaaGreatDoor.tq n).app vs (opnQ s)).2).2 := (h2 _).trans (Mo.sep h2 _ _ _ _)
    split
    ·exact Pst.cls (h3.trans ((Pst.tl _).trans (h1 _)))
    ·exact Pst.cls h3
   ·exact Pst.cls (Pst.refl _)
  ·show Pst s (appB _ vs s).2
   unfold appB
   split
   ·dsimp only
    refine Pst.cls (Pst.trans ?_ (Mo.tnm _ _ _))
    unfold apbB
    split
    ·dsimp only
     split
     ·exact Pst.fau _ _
     ·exact Pst.tl _
    ·split
     ·exact Pst.tl _
     ·dsimp only
      have h3 : Pst (opnQ s) (musQ (sepQ ((Proofs.YtomkdhkkggbioaaGreatDoor.tq n).arr vs) [44] ((Proofs.YtomkdhkkggbioaaGreatDoor.tq n).arr vs (musQ (opnQ s) [40])).2.ts.length [((Proofs.YtomkdhkkggbioaaGreatDoor.tq n).arr vs (musQ (opnQ s) [40])).1] ((Proofs.YtomkdhkkggbioaaGreatDoor.tq n).arr vs (musQ (opnQ s) [40])).2).2 [41]) := (Pst.mus _ _).trans ((h1 _).trans ((Mo.sep h1 _ _ _ _).trans (Pst.mus _ _)))
      split
      ·exact h3.trans (Pst.fau _ _)
      ·exact h3
   ·exact Pst.cls (Pst.refl _)
theorem Mo.ct (vs : List (List UInt8)) (l : List Ct) (s : St) : Pst s (ctQ vs l s).2 := by
 unfold ctQ
 dsimp only
 have h : Pst s (newQ (l.map (·.s)) (txtQ s 2)) := (Pst.txt _ _).trans (Pst.new _ _)
 split
 ·exact h.trans ((Pst.tl _).trans ((Mo.tq vs 51).1 _))
 ·exact h
set_option maxHeartbeats 8000000 in
theorem typ_ok {w : World} {r B0 : Nat} {A : List Tok} {s : St} (hp : PS w r B0 A s) (hd : s.d = 0) : Ret Tryz.prog 57 #[.pointer (some ⟨r, 0, none⟩)] w fun v w' => ∃ c, v = .agg c.toArray ∧ TM w' (Bt w.heap.size w'.heap.size) c (typQ s).1 ∧ PS w' r B0 A (typQ s).2 ∧ Pst s (typQ s).2 ∧ Upd (At r) w w' := by
 obtain ⟨hI1, hI2, hI3, hI4, hI5⟩ := hp.I
 obtain ⟨many, hmany⟩ : ∃ many, many = isQ s [40] := ⟨_, rfl⟩
 obtain ⟨s0, hs0⟩ : ∃ s0, s0 = takQ s [40] := ⟨_, rfl⟩
 obtain ⟨vq, hv9⟩ : ∃ vq : List (List UInt8) × St, vq = if many = true ∨ kdQ s0 3 = true then
   ((varL many (s0.ts.length + 2) [] s0).1, if many = true then musQ (varL many (s0.ts.length + 2) [] s0).2 [41] else (varL many (s0.ts.length + 2) [] s0).2)
  else ([], s0) := ⟨_, rfl⟩
 obtain ⟨t9, ht9⟩ : ∃ t9, t9 = txtQ vq.2 1 := ⟨_, rfl⟩
 obtain ⟨s2, hSb⟩ : ∃ s2, s2 = takQ (musQ t9.2 [61]) [124] := ⟨_, rfl⟩
 have htyp : typQ s = (⟨3, t9.1, false, Ex.z, vq.1.length, (ctrL vq.1 (s2.ts.length + 2) [] s2).1⟩, (ctrL vq.1 (s2.ts.length + 2) [] s2).2) := by
  unfold typQ
  rw [hSb, ht9, hv9, hs0, hmany]
 have hP0 : Pst s s0 := by rw [hs0]; exact Pst.tak _ _
 refine enterRet (vs := [_]) (N := 115) Tryz.func57 rfl rfl rfl ?_
 have hU := Upd.refl (At r) w
 refine WC.keep [(0, _)] ⟨rfl, trivial⟩ (WC.seq (WC.region (WL.cons (SO.alloc rfl rfl rfl rfl (r_alloc rfl zero_39) ?_))))
 intro w1 hu1 hB1 hz1
 have hs1 := hu1.size
 replace hU := hU.trans hu1 (by exact (fun _ _ h => h.elim))
 replace hp := hp.upd hu1 (by exact (fun _ _ h => h))
 refine WL.nil (WX.keep [(0, _), (2, _)] ⟨rfl, rfl, trivial⟩ (WX.next (WC.seq (WC.region (WL.val rfl rfl rfl rfl (r_assign rfl ev_c) ?_)))))
 refine WL.nil (WX.keep [(0, _), (2, _), (3, _)] ⟨rfl, rfl, rfl, trivial⟩ (WX.next (WC.seq (WC.region (WL.val rfl rfl rfl rfl (r_move rfl (ev_t rfl)) ?_)))))
 refine WL.cons (SO.call (take_ok (u := [40]) hp) rfl body_31 ⟨(ev_t rfl), ev_c, trivial⟩ rfl rfl rfl rfl ?_)
 rintro v9 w2 ⟨rfl, hp2, hu2⟩
 have hs2 := hu2.size
 replace hU := hU.trans hu2 (by exact (fun _ _ h => h))
 replace hB1 := hB1.upd hu2 (by (simp only [At]; omega))
 have hp := hp2
 rw [← hs0] at hp
 rw [← hmany]
 refine WL.val rfl rfl rfl rfl (r_assign rfl (ev_t rfl)) ?_
 refine WL.nil (WX.keep [(0, _), (2, _), (3, _), (4, _)] ⟨rfl, rfl, rfl, rfl, trivial⟩ (WX.next ?_))
 -- cut 3: live [0, 2, 3]
 refine WC.cut (fun E wA => ∃ (G : Nat → Prop) (v1 : Value), Upd (At r) w wA ∧ PS wA r B0 A vq.2 ∧ Pst s vq.2 ∧ Acc 9 wA (w.heap.size + 1) G v1 vq.1 ∧ vq.1.length ≤ 2100 ∧ Blk wA w.heap.size #[.int .u8 0, .string ⟨#[]⟩, .bool false, .int .u8 0, .string ⟨#[]⟩, .int .i64 0, .bool false, .slice none 0 0, .slice none 0 0, .int .i64 0, .slice none 0 0] 39 ∧ E = [(0, (.pointer (some ⟨r, 0, none⟩))), (2, .pointer (some ⟨w.heap.size, 0, none⟩)), (3, v1)]) ?_ ?_
 ·-- cut r3: live [0, 2, 3, 4, 17]
  refine WC.cut (fun E wA => Upd (At r) w wA ∧ PS wA r B0 A s0 ∧ Blk wA w.heap.size #[.int .u8 0, .string ⟨#[]⟩, .bool false, .int .u8 0, .string ⟨#[]⟩, .int .i64 0, .bool false, .slice none 0 0, .slice none 0 0, .int .i64 0, .slice none 0 0] 39 ∧ E = [(0, (.pointer (some ⟨r, 0, none⟩))), (2, .pointer (some ⟨w.heap.size, 0, none⟩)), (3, .slice none 0 0), (4, .bool many), (17, .bool (many || kdQ s0 3))]) ?_ ?_
  ·refine WC.region (WL.val rfl rfl rfl rfl (r_move rfl (ev_t rfl)) ?_)
   refine WL.val rfl rfl rfl rfl (r_move rfl (ev_t rfl)) ?_
   refine WL.cases 14 rfl (fun hb3_1 => ?_) (fun hb3_1 => ?_)
   ·refine WL.skip rfl rfl rfl (WL.skip rfl rfl rfl (WL.val rfl rfl rfl rfl (r_pickT rfl (ev_t rfl) ev_c) ?_))
    refine WL.nil (WX.keep [(0, _), (2, _), (3, _), (4, _), (17, _)] ⟨rfl, rfl, rfl, rfl, rfl, trivial⟩ (WX.meet [(0, _), (2, _), (3, _), (4, _), (17, _)] ⟨rfl, rfl, rfl, rfl, rfl, trivial⟩ ?_))
    refine ⟨hU, hp, hB1, ?_⟩
    simp [hb3_1]
   ·refine WL.val rfl rfl rfl rfl (r_move rfl (ev_t rfl)) ?_
    refine WL.cons (SO.call (kind_ok (k := 3) hp) rfl body_32 ⟨(ev_t rfl), ev_c, trivial⟩ rfl rfl rfl rfl ?_)
    rintro v9 w3 ⟨rfl, hu3⟩
    have hs3 := hu3.size
    replace hU := hU.trans hu3 (by exact (fun _ _ h => h.elim))
    replace hB1 := hB1.upd hu3 (by exact (fun h => h))
    replace hp := hp.upd hu3 (by exact (fun _ _ h => h))
    refine WL.val rfl rfl rfl rfl (r_pickF rfl (ev_t rfl) (ev_t rfl)) ?_
    refine WL.nil (WX.keep [(0, _), (2, _), (3, _), (4, _), (17, _)] ⟨rfl, rfl, rfl, rfl, rfl, trivial⟩ (WX.meet [(0, _), (2, _), (3, _), (4, _), (17, _)] ⟨rfl, rfl, rfl, rfl, rfl, trivial⟩ ?_))
    refine ⟨hU, hp, hB1, ?_⟩
    simp [hb3_1]
  ·clear hU hp hB1
   rintro E wA ⟨hU, hp, hB1, rfl⟩
   have hsA := hU.size
   have hlt1 := hB1.lt
   refine WC.cond rfl (ev_t rfl) (fun hc3 => ?_) (fun hc3 => ?_)
   ·have hor : many = true ∨ kdQ s0 3 = true := by simpa using hc3
    rw [if_pos hor] at hv9
    obtain ⟨u9, hu9⟩ : ∃ u9, u9 = varL many (s0.ts.length + 2) [] s0 := ⟨_, rfl⟩
    rw [← hu9] at hv9
    -- cut 4: live [0, 2, 3, 4]
    refine WC.cut (fun E wA => ∃ (G : Nat → Prop) (v1 : Value), Upd (At r) w wA ∧ PS wA r B0 A u9.2 ∧ Pst s u9.2 ∧ Acc 9 wA (w.heap.size + 1) G v1 u9.1 ∧ u9.1.length ≤ 2100 ∧ Blk wA w.heap.size #[.int .u8 0, .string ⟨#[]⟩, .bool false, .int .u8 0, .string ⟨#[]⟩, .int .i64 0, .bool false, .slice none 0 0, .slice none 0 0, .int .i64 0, .slice none 0 0] 39 ∧ E = [(0, (.pointer (some ⟨r, 0, none⟩))), (2, .pointer (some ⟨w.heap.size, 0, none⟩)), (3, v1), (4, .bool many)]) ?_ ?_
    ·refine WC.block ?_
     -- loop 1: live [0, 2, 3, 4]
     refine WC.keep [(0, _), (2, _), (3, _), (4, _)] ⟨rfl, rfl, rfl, rfl, trivial⟩ (WC.loop (fun qq E wA => ∃ (s1 : St) (ks : List (List UInt8)) (G : Nat → Prop) (v1 : Value) (k1 : Nat), qq = k1 ∧ s1.ts.length ≤ k1 ∧ Upd (At r) w wA ∧ PS wA r B0 A s1 ∧ Pst s s1 ∧ Acc 9 wA (w.heap.size + 1) G v1 ks ∧ ks.length + s1.ts.length ≤ 2050 ∧ u9 = varL many k1 ks s1 ∧ Blk wA w.heap.size #[.int .u8 0, .string ⟨#[]⟩, .bool false, .int .u8 0, .string ⟨#[]⟩, .int .i64 0, .bool false, .slice none 0 0, .slice none 0 0, .int .i64 0, .slice none 0 0] 39 ∧ E = [(0, (.pointer (some ⟨r, 0, none⟩))), (2, .pointer (some ⟨w.heap.size, 0, none⟩)), (3, v1), (4, .bool many)]) (s0.ts.length + 2) ?_ ?_)
     ·exact ⟨_, _, _, _, _, rfl, by omega, hU, hp, hP0, Acc.nil _ _, by have := hP0.2.1; simp only [List.length_nil]; omega, hu9, hB1, by first | rfl | (congr; simp_all; done)⟩
     ·clear hU hp hB1
      rintro qq E wA ⟨s1, ks, G, v1, k1, rfl, hk1, hU, hp, hPst, hac, hkl, hvl, hB1, rfl⟩
      obtain ⟨A1, c1, rfl, hcc1⟩ := hac.form
      have hG := hac.lt
      have hI := hp.I
      have hsC := hU.size
      have hlt1 := hB1.lt
      refine WC.seq (WC.seq (WC.region ?_))
      obtain ⟨FD, bD, offD, cD, zD, badD, hbD, hzD, hrD, hFD, hID⟩ := hp.open
      refine WL.val rfl rfl rfl rfl (r_move rfl (ev_t rfl)) ?_
      refine WL.val rfl rfl rfl rfl (r_nilCheck rfl (ev_t rfl)) ?_
      refine WL.val rfl rfl rfl rfl (r_field0 rfl (ev_t rfl) fld_58_4) ?_
      refine WL.val rfl rfl rfl rfl (r_load rfl (ev_t rfl) flat_3 (Blk.cell hbD rfl)) ?_
      refine WL.val rfl rfl rfl rfl (r_eql rfl (ev_t rfl) ev_c) ?_
      refine WL.nil (WX.keep [(0, _), (2, _), (3, _), (4, _), (22, _)] ⟨rfl, rfl, rfl, rfl, rfl, trivial⟩ (WX.next (WC.cond rfl (ev_t rfl) (fun hc4 => ?_) (fun hc4 => ?_))))
      ·try simp only [cS, ne_eq, Decidable.not_not] at hc4
       have he0 : s1.e = 0 := by omega
       obtain ⟨k2, rfl⟩ : ∃ k2, qq = k2 + 1 := ⟨qq - 1, by omega⟩
       refine WC.skip (WX.next (WC.block (WC.seq (WC.region ?_))))
       obtain ⟨FD, bD, offD, cD, zD, badD, hbD, hzD, hrD, hFD, hID⟩ := hp.open
       refine WL.val rfl rfl rfl rfl (r_move rfl (ev_t rfl)) ?_
       refine WL.val rfl rfl rfl rfl (r_nilCheck rfl (ev_t rfl)) ?_
       refine WL.val rfl rfl rfl rfl (r_field0 rfl (ev_t rfl) fld_58_1) ?_
       refine WL.val rfl rfl rfl rfl (r_load rfl (ev_t rfl) flat_3 (Blk.cell hbD rfl)) ?_
       refine WL.val rfl rfl rfl rfl (r_assign rfl (ev_t rfl)) ?_
       refine WL.nil (WX.keep [(0, _), (2, _), (3, _), (4, _), (5, _)] ⟨rfl, rfl, rfl, rfl, rfl, trivial⟩ (WX.next (WC.seq (WC.region (WL.val rfl rfl rfl rfl (r_move rfl (ev_t rfl)) ?_)))))
       refine WL.cons (SO.call (text_ok9 (k := 3) hp (by decide)) rfl body_82 ⟨(ev_t rfl), ev_c, trivial⟩ rfl rfl rfl rfl ?_)
       rintro v9 w4 ⟨rfl, hp2, hu4⟩
       have hs4 := hu4.size
       replace hU := hU.trans hu4 (by exact (fun _ _ h => h))
       replace hac := hac.upd hu4 (fun k hk hl hS => by (simp only [At] at hS; omega))
       replace hB1 := hB1.upd hu4 (by (simp only [At]; omega))
       have hp := hp2
       refine WL.val rfl rfl rfl rfl (r_assign rfl (ev_t rfl)) ?_
       refine WL.nil (WX.keep [(0, _), (2, _), (3, _), (4, _), (5, _), (6, _)] ⟨rfl, rfl, rfl, rfl, rfl, rfl, trivial⟩ (WX.next (WC.seq (WC.seq (WC.region ?_)))))
       obtain ⟨FE, bE, offE, cE, zE, badE, hbE, hzE, hrE, hFE, hIE⟩ := hp.open
       obtain ⟨xs, hrx, hmx⟩ := hac.done (by omega)
       rw [Ms.sv hmx] at hrx
       refine WL.val rfl rfl rfl rfl (r_move rfl (ev_t rfl)) ?_
       refine WL.val rfl rfl rfl rfl (r_nilCheck rfl (ev_t rfl)) ?_
       refine WL.val rfl rfl rfl rfl (r_field0 rfl (ev_t rfl) fld_58_4) ?_
       refine WL.val rfl rfl rfl rfl (r_load rfl (ev_t rfl) flat_3 (Blk.cell hbE rfl)) ?_
       refine WL.val rfl rfl rfl rfl (r_eql rfl (ev_t rfl) ev_c) ?_
       refine WL.val rfl rfl rfl rfl (r_move rfl (ev_t rfl)) ?_
       refine WL.cases 34 rfl (fun hb7_5 => ?_) (fun hb7_5 => ?_)
       ·try simp only [cS, ne_eq, Decidable.not_not] at hb7_5
        refine WL.val rfl rfl rfl rfl (r_move rfl (ev_t rfl)) ?_
        refine WL.val rfl rfl rfl rfl (r_move rfl (ev_t rfl)) ?_
        refine WL.cons (SO.call (rhas_ok hrx) rfl body_83 ⟨(ev_t rfl), (ev_t rfl), trivial⟩ rfl rfl rfl rfl ?_)
        rintro v9 w5 ⟨rfl, hu5⟩
        have hs5 := hu5.size
        replace hU := hU.trans hu5 (by exact (fun _ _ h => h.elim))
        replace hac := hac.upd hu5 (fun k hk hl hS => by exact (show False from hS).elim)
        replace hB1 := hB1.upd hu5 (by exact (fun h => h))
        replace hp := hp.upd hu5 (by exact (fun _ _ h => h))
        refine WL.val rfl rfl rfl rfl (r_gtr rfl (ev_t rfl) ev_c) ?_
        refine WL.val rfl rfl rfl rfl (r_pickT rfl (ev_t rfl) (ev_t rfl)) ?_
        refine WL.nil (WX.keep [(0, _), (2, _), (3, _), (4, _), (5, _), (6, _), (39, _)] ⟨rfl, rfl, rfl, rfl, rfl, rfl, rfl, trivial⟩ (WX.next (WC.cond rfl (ev_t rfl) (fun hc7 => ?_) (fun hc7 => ?_))))
        ·try simp only [cS, ne_eq, Decidable.not_not] at hc7
         refine WC.region (WL.val rfl rfl rfl rfl (r_move rfl (ev_t rfl)) ?_)
         refine WL.val rfl rfl rfl rfl (r_move rfl (ev_t rfl)) ?_
         refine WL.cons (SO.call (fault_ok (e := 7) hp (by omega) (by decide)) rfl body_35 ⟨(ev_t rfl), (ev_t rfl), ev_c, trivial⟩ rfl rfl rfl rfl ?_)
         rintro v9 w6 ⟨hp2, hu6⟩
         have hs6 := hu6.size
         replace hU := hU.trans hu6 (by exact (fun _ _ h => h))
         replace hac := hac.upd hu6 (fun k hk hl hS => by (simp only [At] at hS; omega))
         replace hB1 := hB1.upd hu6 (by (simp only [At]; omega))
         have hp := hp2
         have hnw : newQ ks (txtQ s1 3) = fauQ (txtQ s1 3).2 7 := by unfold newQ; rw [if_pos ⟨by omega, by omega⟩]
         rw [← hnw] at hp
         refine WL.nil (WX.keep [(0, _), (2, _), (3, _), (4, _), (6, _)] ⟨rfl, rfl, rfl, rfl, rfl, trivial⟩ (WX.next (WC.seq (WC.region (WL.val rfl rfl rfl rfl (r_move rfl (ev_t rfl)) ?_)))))
         refine WL.val rfl rfl rfl rfl (r_move rfl (ev_t rfl)) ?_
         refine WL.cons (SO.alloc rfl rfl rfl rfl (r_buildSlice1 (vs := [_]) rfl ⟨(ev_t rfl), trivial⟩ rfl row_66 rfl rfl) ?_)
         intro w7 hu7 hB7 hz7
         have hs7 := hu7.size
         replace hU := hU.trans hu7 (by exact (fun _ _ h => h.elim))
         replace hac := hac.upd hu7 (fun k hk hl hS => by exact (show False from hS).elim)
         replace hB1 := hB1.upd hu7 (by exact (fun h => h))
         replace hp := hp.upd hu7 (by exact (fun _ _ h => h))
         refine WL.cons (SO.appendA (a := (txtQ s1 3).1) hac (F2 := No) TM.sv (fun k hk => hk.elim) (Rd.of_blk (F := At _) (n := 1) (sz := 1) hB7 rfl rfl (by omega)) row_66 (by omega) rfl rfl (ev_t rfl) (ev_t rfl) rfl rfl rfl rfl ?_ (by omega))
         intro v5 w8 hac2 hu8 hBw
         have hs8 := hu8.size
         replace hU := hU.trans hu8 (by (intro k hl hk; first | exact hk | exact (show False from hk).elim | (have := hG k hk; omega) | (have := hR k (.inl hk); omega) | (have := hR k (.inr hk); omega) | (simp only [At] at *; exfalso; omega)))
         replace hB1 := hB1.upd hu8 (by (intro hS; have := hG _ hS; omega))
         replace hp := hp.upd hu8 (by (intro k hk hS; first | (simp only [At] at hS; omega) | (have := hG k hS; omega) | (have := hR k (.inl hS); omega) | (have := hR k (.inr hS); omega)))
         have hac := hac2
         have hG := hac.lt
         have hPn : Pst s1 (newQ ks (txtQ s1 3)) := (Pst.txt _ _).trans (Pst.new _ _)
         refine WL.val rfl rfl rfl rfl (r_assign rfl (ev_t rfl)) ?_
         refine WL.nil (WX.keep [(0, _), (2, _), (3, _), (4, _)] ⟨rfl, rfl, rfl, rfl, trivial⟩ (WX.next (WC.seq (WC.region (WL.val rfl rfl rfl rfl (r_move rfl (ev_t rfl)) ?_)))))
         refine WL.val rfl rfl rfl rfl (r_not rfl (ev_t rfl)) ?_
         refine WL.val rfl rfl rfl rfl (r_move rfl (ev_t rfl)) ?_
         refine WL.cases 49 rfl (fun hb10_2 => ?_) (fun hb10_2 => ?_)
         ·try simp only [cS, ne_eq, Decidable.not_not] at hb10_2
          refine WL.skip rfl rfl rfl (WL.skip rfl rfl rfl (WL.skip rfl rfl rfl (WL.val rfl rfl rfl rfl (r_pickT rfl (ev_t rfl) ev_c) ?_)))
          refine WL.nil (WX.keep [(0, _), (2, _), (3, _), (4, _), (53, _)] ⟨rfl, rfl, rfl, rfl, rfl, trivial⟩ (WX.next (WC.cond_true rfl (ev_t rfl) ?_)))
          refine WC.exit (WX.blockPast rfl (WX.thenExit (WX.blockHere (WX.meet [(0, _), (2, _), (3, _), (4, _)] ⟨rfl, rfl, rfl, rfl, trivial⟩ ?_))))
          first
           | (have he1 : s1.e ≠ 0 := by omega
              rw [varL_stop (s := s1) he1] at hvl
              subst hvl
              exact ⟨_, _, hU, hp, hPst, hac, by show ks.length ≤ 2100; omega, hB1, rfl⟩)
           | (have hm : many = false := by simpa using hb10_2
              rw [varL_last he0 (.inl hm)] at hvl
              subst hvl
              exact ⟨_, _, hU, hp, hPst.trans hPn, hac, by show (ks ++ _).length ≤ 2100; simp only [List.length_append, List.length_cons, List.length_nil]; omega, hB1, by rw [hm]⟩)
           | (have hq9 : isQ (newQ ks (txtQ s1 3)) [44] = false := by simpa using hc10
              rw [takQ_F hq9] at hp
              rw [varL_last he0 (.inr hq9)] at hvl
              subst hvl
              have hm : many = true := by simpa using hb10_2
              exact ⟨_, _, hU, hp, hPst.trans hPn, hac, by show (ks ++ _).length ≤ 2100; simp only [List.length_append, List.length_cons, List.length_nil]; omega, hB1, by rw [hm]⟩)
         ·try simp only [cS, ne_eq, Decidable.not_not] at hb10_2
          refine WL.val rfl rfl rfl rfl (r_move rfl (ev_t rfl)) ?_
          refine WL.cons (SO.call (take_ok (u := [44]) hp) rfl body_31 ⟨(ev_t rfl), ev_c, trivial⟩ rfl rfl rfl rfl ?_)
          rintro v9 w9 ⟨rfl, hp2, hu9⟩
          have hs9 := hu9.size
          replace hU := hU.trans hu9 (by exact (fun _ _ h => h))
          replace hB1 := hB1.upd hu9 (by (simp only [At]; omega))
          replace hac := hac.upd hu9 (fun k hk hl hS => by (simp only [At] at hS; omega))
          have hp := hp2
          refine WL.val rfl rfl rfl rfl (r_not rfl (ev_t rfl)) ?_
          refine WL.val rfl rfl rfl rfl (r_pickF rfl (ev_t rfl) (ev_t rfl)) ?_
          refine WL.nil (WX.keep [(0, _), (2, _), (3, _), (4, _), (53, _)] ⟨rfl, rfl, rfl, rfl, rfl, trivial⟩ (WX.next (WC.cond rfl (ev_t rfl) (fun hc10 => ?_) (fun hc10 => ?_))))
          ·try simp only [cS, ne_eq, Decidable.not_not] at hc10
           refine WC.exit (WX.blockPast rfl (WX.thenExit (WX.blockHere (WX.meet [(0, _), (2, _), (3, _), (4, _)] ⟨rfl, rfl, rfl, rfl, trivial⟩ ?_))))
           first
            | (have he1 : s1.e ≠ 0 := by omega
               rw [varL_stop (s := s1) he1] at hvl
               subst hvl
               exact ⟨_, _, hU, hp, hPst, hac, by show ks.length ≤ 2100; omega, hB1, rfl⟩)
            | (have hm : many = false := by simpa using hb10_2
               rw [varL_last he0 (.inl hm)] at hvl
               subst hvl
               exact ⟨_, _, hU, hp, hPst.trans hPn, hac, by show (ks ++ _).length ≤ 2100; simp only [List.length_append, List.length_cons, List.length_nil]; omega, hB1, by rw [hm]⟩)
            | (have hq9 : isQ (newQ ks (txtQ s1 3)) [44] = false := by simpa using hc10
               rw [takQ_F hq9] at hp
               rw [varL_last he0 (.inr hq9)] at hvl
               subst hvl
               have hm : many = true := by simpa using hb10_2
               exact ⟨_, _, hU, hp, hPst.trans hPn, hac, by show (ks ++ _).length ≤ 2100; simp only [List.length_append, List.length_cons, List.length_nil]; omega, hB1, by rw [hm]⟩)
          ·try simp only [cS, ne_eq, Decidable.not_not] at hc10
           refine WC.skip (WX.blockNormal (WX.meet [(0, _), (2, _), (3, _), (4, _)] ⟨rfl, rfl, rfl, rfl, trivial⟩ ?_))
           have hm : many = true := by simpa using hb10_2
           have hq9 : isQ (newQ ks (txtQ s1 3)) [44] = true := by simpa using hc10
           rw [takQ_T hq9] at hp
           rw [hm, varL_step he0 hq9, ← hm] at hvl
           have hle2 := hPn.2.1
           have htl := tlQ_len (newQ ks (txtQ s1 3))
           refine ⟨k2, by omega, _, _, _, _, _, rfl, by omega, hU, hp, hPst.trans (hPn.trans (Pst.tl _)), hac, ?_, hvl, hB1, by rw [hm]⟩
           simp only [List.length_append, List.length_cons, List.length_nil]
           omega
        ·try simp only [cS, ne_eq, Decidable.not_not] at hc7
         have hnw : newQ ks (txtQ s1 3) = (txtQ s1 3).2 := by unfold newQ; rw [if_neg (by omega)]
         rw [← hnw] at hp
         refine WC.skip (WX.next (WC.seq (WC.region (WL.val rfl rfl rfl rfl (r_move rfl (ev_t rfl)) ?_))))
         refine WL.val rfl rfl rfl rfl (r_move rfl (ev_t rfl)) ?_
         refine WL.cons (SO.alloc rfl rfl rfl rfl (r_buildSlice1 (vs := [_]) rfl ⟨(ev_t rfl), trivial⟩ rfl row_66 rfl rfl) ?_)
         intro w10 hu10 hB10 hz10
         have hs10 := hu10.size
         replace hU := hU.trans hu10 (by exact (fun _ _ h => h.elim))
         replace hac := hac.upd hu10 (fun k hk hl hS => by exact (show False from hS).elim)
         replace hB1 := hB1.upd hu10 (by exact (fun h => h))
         replace hp := hp.upd hu10 (by exact (fun _ _ h => h))
         refine WL.cons (SO.appendA (a := (txtQ s1 3).1) hac (F2 := No) TM.sv (fun k hk => hk.elim) (Rd.of_blk (F := At _) (n := 1) (sz := 1) hB10 rfl rfl (by omega)) row_66 (by omega) rfl rfl (ev_t rfl) (ev_t rfl) rfl rfl rfl rfl ?_ (by omega))
         intro v5 w11 hac2 hu11 hBw
         have hs11 := hu11.size
         replace hU := hU.trans hu11 (by (intro k hl hk; first | exact hk | exact (show False from hk).elim | (have := hG k hk; omega) | (have := hR k (.inl hk); omega) | (have := hR k (.inr hk); omega) | (simp only [At] at *; exfalso; omega)))
         replace hB1 := hB1.upd hu11 (by (intro hS; have := hG _ hS; omega))
         replace hp := hp.upd hu11 (by (intro k hk hS; first | (simp only [At] at hS; omega) | (have := hG k hS; omega) | (have := hR k (.inl hS); omega) | (have := hR k (.inr hS); omega)))
         have hac := hac2
         have hG := hac.lt
         have hPn : Pst s1 (newQ ks (txtQ s1 3)) := (Pst.txt _ _).trans (Pst.new _ _)
         refine WL.val rfl rfl rfl rfl (r_assign rfl (ev_t rfl)) ?_
         refine WL.nil (WX.keep [(0, _), (2, _), (3, _), (4, _)] ⟨rfl, rfl, rfl, rfl, trivial⟩ (WX.next (WC.seq (WC.region (WL.val rfl rfl rfl rfl (r_move rfl (ev_t rfl)) ?_)))))
         refine WL.val rfl rfl rfl rfl (r_not rfl (ev_t rfl)) ?_
         refine WL.val rfl rfl rfl rfl (r_move rfl (ev_t rfl)) ?_
         refine WL.cases 49 rfl (fun hb10_2 => ?_) (fun hb10_2 => ?_)
         ·try simp only [cS, ne_eq, Decidable.not_not] at hb10_2
          refine WL.skip rfl rfl rfl (WL.skip rfl rfl rfl (WL.skip rfl rfl rfl (WL.val rfl rfl rfl rfl (r_pickT rfl (ev_t rfl) ev_c) ?_)))
          refine WL.nil (WX.keep [(0, _), (2, _), (3, _), (4, _), (53, _)] ⟨rfl, rfl, rfl, rfl, rfl, trivial⟩ (WX.next (WC.cond_true rfl (ev_t rfl) ?_)))
          refine WC.exit (WX.blockPast rfl (WX.thenExit (WX.blockHere (WX.meet [(0, _), (2, _), (3, _), (4, _)] ⟨rfl, rfl, rfl, rfl, trivial⟩ ?_))))
          first
           | (have he1 : s1.e ≠ 0 := by omega
              rw [varL_stop (s := s1) he1] at hvl
              subst hvl
              exact ⟨_, _, hU, hp, hPst, hac, by show ks.length ≤ 2100; omega, hB1, rfl⟩)
           | (have hm : many = false := by simpa using hb10_2
              rw [varL_last he0 (.inl hm)] at hvl
              subst hvl
              exact ⟨_, _, hU, hp, hPst.trans hPn, hac, by show (ks ++ _).length ≤ 2100; simp only [List.length_append, List.length_cons, List.length_nil]; omega, hB1, by rw [hm]⟩)
           | (have hq9 : isQ (newQ ks (txtQ s1 3)) [44] = false := by simpa using hc10
              rw [takQ_F hq9] at hp
              rw [varL_last he0 (.inr hq9)] at hvl
              subst hvl
              have hm : many = true := by simpa using hb10_2
              exact ⟨_, _, hU, hp, hPst.trans hPn, hac, by show (ks ++ _).length ≤ 2100; simp only [List.length_append, List.length_cons, List.length_nil]; omega, hB1, by rw [hm]⟩)
         ·try simp only [cS, ne_eq, Decidable.not_not] at hb10_2
          refine WL.val rfl rfl rfl rfl (r_move rfl (ev_t rfl)) ?_
          refine WL.cons (SO.call (take_ok (u := [44]) hp) rfl body_31 ⟨(ev_t rfl), ev_c, trivial⟩ rfl rfl rfl rfl ?_)
          rintro v9 w12 ⟨rfl, hp2, hu12⟩
          have hs12 := hu12.size
          replace hU := hU.trans hu12 (by exact (fun _ _ h => h))
          replace hB1 := hB1.upd hu12 (by (simp only [At]; omega))
          replace hac := hac.upd hu12 (fun k hk hl hS => by (simp only [At] at hS; omega))
          have hp := hp2
          refine WL.val rfl rfl rfl rfl (r_not rfl (ev_t rfl)) ?_
          refine WL.val rfl rfl rfl rfl (r_pickF rfl (ev_t rfl) (ev_t rfl)) ?_
          refine WL.nil (WX.keep [(0, _), (2, _), (3, _), (4, _), (53, _)] ⟨rfl, rfl, rfl, rfl, rfl, trivial⟩ (WX.next (WC.cond rfl (ev_t rfl) (fun hc10 => ?_) (fun hc10 => ?_))))
          ·try simp only [cS, ne_eq, Decidable.not_not] at hc10
           refine WC.exit (WX.blockPast rfl (WX.thenExit (WX.blockHere (WX.meet [(0, _), (2, _), (3, _), (4, _)] ⟨rfl, rfl, rfl, rfl, trivial⟩ ?_))))
           first
            | (have he1 : s1.e ≠ 0 := by omega
               rw [varL_stop (s := s1) he1] at hvl
               subst hvl
               exact ⟨_, _, hU, hp, hPst, hac, by show ks.length ≤ 2100; omega, hB1, rfl⟩)
            | (have hm : many = false := by simpa using hb10_2
               rw [varL_last he0 (.inl hm)] at hvl
               subst hvl
               exact ⟨_, _, hU, hp, hPst.trans hPn, hac, by show (ks ++ _).length ≤ 2100; simp only [List.length_append, List.length_cons, List.length_nil]; omega, hB1, by rw [hm]⟩)
            | (have hq9 : isQ (newQ ks (txtQ s1 3)) [44] = false := by simpa using hc10
               rw [takQ_F hq9] at hp
               rw [varL_last he0 (.inr hq9)] at hvl
               subst hvl
               have hm : many = true := by simpa using hb10_2
               exact ⟨_, _, hU, hp, hPst.trans hPn, hac, by show (ks ++ _).length ≤ 2100; simp only [List.length_append, List.length_cons, List.length_nil]; omega, hB1, by rw [hm]⟩)
          ·try simp only [cS, ne_eq, Decidable.not_not] at hc10
           refine WC.skip (WX.blockNormal (WX.meet [(0, _), (2, _), (3, _), (4, _)] ⟨rfl, rfl, rfl, rfl, trivial⟩ ?_))
           have hm : many = true := by simpa using hb10_2
           have hq9 : isQ (newQ ks (txtQ s1 3)) [44] = true := by simpa using hc10
           rw [takQ_T hq9] at hp
           rw [hm, varL_step he0 hq9, ← hm] at hvl
           have hle2 := hPn.2.1
           have htl := tlQ_len (newQ ks (txtQ s1 3))
           refine ⟨k2, by omega, _, _, _, _, _, rfl, by omega, hU, hp, hPst.trans (hPn.trans (Pst.tl _)), hac, ?_, hvl, hB1, by rw [hm]⟩
           simp only [List.length_append, List.length_cons, List.length_nil]
           omega
       ·try simp only [cS, ne_eq, Decidable.not_not] at hb7_5
        refine WL.skip rfl rfl rfl (WL.skip rfl rfl rfl (WL.skip rfl rfl rfl (WL.skip rfl rfl rfl (WL.val rfl rfl rfl rfl (r_pickF rfl (ev_t rfl) ev_c) ?_))))
        refine WL.nil (WX.keep [(0, _), (2, _), (3, _), (4, _), (5, _), (6, _), (39, _)] ⟨rfl, rfl, rfl, rfl, rfl, rfl, rfl, trivial⟩ (WX.next (WC.cond_false rfl (ev_t rfl) ?_)))
        have hnw : newQ ks (txtQ s1 3) = (txtQ s1 3).2 := by unfold newQ; rw [if_neg (by omega)]
        rw [← hnw] at hp
        refine WC.skip (WX.next (WC.seq (WC.region (WL.val rfl rfl rfl rfl (r_move rfl (ev_t rfl)) ?_))))
        refine WL.val rfl rfl rfl rfl (r_move rfl (ev_t rfl)) ?_
        refine WL.cons (SO.alloc rfl rfl rfl rfl (r_buildSlice1 (vs := [_]) rfl ⟨(ev_t rfl), trivial⟩ rfl row_66 rfl rfl) ?_)
        intro w13 hu13 hB13 hz13
        have hs13 := hu13.size
        replace hU := hU.trans hu13 (by exact (fun _ _ h => h.elim))
        replace hac := hac.upd hu13 (fun k hk hl hS => by exact (show False from hS).elim)
        replace hB1 := hB1.upd hu13 (by exact (fun h => h))
        replace hp := hp.upd hu13 (by exact (fun _ _ h => h))
        refine WL.cons (SO.appendA (a := (txtQ s1 3).1) hac (F2 := No) TM.sv (fun k hk => hk.elim) (Rd.of_blk (F := At _) (n := 1) (sz := 1) hB13 rfl rfl (by omega)) row_66 (by omega) rfl rfl (ev_t rfl) (ev_t rfl) rfl rfl rfl rfl ?_ (by omega))
        intro v5 w14 hac2 hu14 hBw
        have hs14 := hu14.size
        replace hU := hU.trans hu14 (by (intro k hl hk; first | exact hk | exact (show False from hk).elim | (have := hG k hk; omega) | (have := hR k (.inl hk); omega) | (have := hR k (.inr hk); omega) | (simp only [At] at *; exfalso; omega)))
        replace hB1 := hB1.upd hu14 (by (intro hS; have := hG _ hS; omega))
        replace hp := hp.upd hu14 (by (intro k hk hS; first | (simp only [At] at hS; omega) | (have := hG k hS; omega) | (have := hR k (.inl hS); omega) | (have := hR k (.inr hS); omega)))
        have hac := hac2
        have hG := hac.lt
        have hPn : Pst s1 (newQ ks (txtQ s1 3)) := (Pst.txt _ _).trans (Pst.new _ _)
        refine WL.val rfl rfl rfl rfl (r_assign rfl (ev_t rfl)) ?_
        refine WL.nil (WX.keep [(0, _), (2, _), (3, _), (4, _)] ⟨rfl, rfl, rfl, rfl, trivial⟩ (WX.next (WC.seq (WC.region (WL.val rfl rfl rfl rfl (r_move rfl (ev_t rfl)) ?_)))))
        refine WL.val rfl rfl rfl rfl (r_not rfl (ev_t rfl)) ?_
        refine WL.val rfl rfl rfl rfl (r_move rfl (ev_t rfl)) ?_
        refine WL.cases 49 rfl (fun hb10_2 => ?_) (fun hb10_2 => ?_)
        ·try simp only [cS, ne_eq, Decidable.not_not] at hb10_2
         refine WL.skip rfl rfl rfl (WL.skip rfl rfl rfl (WL.skip rfl rfl rfl (WL.val rfl rfl rfl rfl (r_pickT rfl (ev_t rfl) ev_c) ?_)))
         refine WL.nil (WX.keep [(0, _), (2, _), (3, _), (4, _), (53, _)] ⟨rfl, rfl, rfl, rfl, rfl, trivial⟩ (WX.next (WC.cond_true rfl (ev_t rfl) ?_)))
         refine WC.exit (WX.blockPast rfl (WX.thenExit (WX.blockHere (WX.meet [(0, _), (2, _), (3, _), (4, _)] ⟨rfl, rfl, rfl, rfl, trivial⟩ ?_))))
         first
          | (have he1 : s1.e ≠ 0 := by omega
             rw [varL_stop (s := s1) he1] at hvl
             subst hvl
             exact ⟨_, _, hU, hp, hPst, hac, by show ks.length ≤ 2100; omega, hB1, rfl⟩)
          | (have hm : many = false := by simpa using hb10_2
             rw [varL_last he0 (.inl hm)] at hvl
             subst hvl
             exact ⟨_, _, hU, hp, hPst.trans hPn, hac, by show (ks ++ _).length ≤ 2100; simp only [List.length_append, List.length_cons, List.length_nil]; omega, hB1, by rw [hm]⟩)
          | (have hq9 : isQ (newQ ks (txtQ s1 3)) [44] = false := by simpa using hc10
             rw [takQ_F hq9] at hp
             rw [varL_last he0 (.inr hq9)] at hvl
             subst hvl
             have hm : many = true := by simpa using hb10_2
             exact ⟨_, _, hU, hp, hPst.trans hPn, hac, by show (ks ++ _).length ≤ 2100; simp only [List.length_append, List.length_cons, List.length_nil]; omega, hB1, by rw [hm]⟩)
        ·try simp only [cS, ne_eq, Decidable.not_not] at hb10_2
         refine WL.val rfl rfl rfl rfl (r_move rfl (ev_t rfl)) ?_
         refine WL.cons (SO.call (take_ok (u := [44]) hp) rfl body_31 ⟨(ev_t rfl), ev_c, trivial⟩ rfl rfl rfl rfl ?_)
         rintro v9 w15 ⟨rfl, hp2, hu15⟩
         have hs15 := hu15.size
         replace hU := hU.trans hu15 (by exact (fun _ _ h => h))
         replace hB1 := hB1.upd hu15 (by (simp only [At]; omega))
         replace hac := hac.upd hu15 (fun k hk hl hS => by (simp only [At] at hS; omega))
         have hp := hp2
         refine WL.val rfl rfl rfl rfl (r_not rfl (ev_t rfl)) ?_
         refine WL.val rfl rfl rfl rfl (r_pickF rfl (ev_t rfl) (ev_t rfl)) ?_
         refine WL.nil (WX.keep [(0, _), (2, _), (3, _), (4, _), (53, _)] ⟨rfl, rfl, rfl, rfl, rfl, trivial⟩ (WX.next (WC.cond rfl (ev_t rfl) (fun hc10 => ?_) (fun hc10 => ?_))))
         ·try simp only [cS, ne_eq, Decidable.not_not] at hc10
          refine WC.exit (WX.blockPast rfl (WX.thenExit (WX.blockHere (WX.meet [(0, _), (2, _), (3, _), (4, _)] ⟨rfl, rfl, rfl, rfl, trivial⟩ ?_))))
          first
           | (have he1 : s1.e ≠ 0 := by omega
              rw [varL_stop (s := s1) he1] at hvl
              subst hvl
              exact ⟨_, _, hU, hp, hPst, hac, by show ks.length ≤ 2100; omega, hB1, rfl⟩)
           | (have hm : many = false := by simpa using hb10_2
              rw [varL_last he0 (.inl hm)] at hvl
              subst hvl
              exact ⟨_, _, hU, hp, hPst.trans hPn, hac, by show (ks ++ _).length ≤ 2100; simp only [List.length_append, List.length_cons, List.length_nil]; omega, hB1, by rw [hm]⟩)
           | (have hq9 : isQ (newQ ks (txtQ s1 3)) [44] = false := by simpa using hc10
              rw [takQ_F hq9] at hp
              rw [varL_last he0 (.inr hq9)] at hvl
              subst hvl
              have hm : many = true := by simpa using hb10_2
              exact ⟨_, _, hU, hp, hPst.trans hPn, hac, by show (ks ++ _).length ≤ 2100; simp only [List.length_append, List.length_cons, List.length_nil]; omega, hB1, by rw [hm]⟩)
         ·try simp only [cS, ne_eq, Decidable.not_not] at hc10
          refine WC.skip (WX.blockNormal (WX.meet [(0, _), (2, _), (3, _), (4, _)] ⟨rfl, rfl, rfl, rfl, trivial⟩ ?_))
          have hm : many = true := by simpa using hb10_2
          have hq9 : isQ (newQ ks (txtQ s1 3)) [44] = true := by simpa using hc10
          rw [takQ_T hq9] at hp
          rw [hm, varL_step he0 hq9, ← hm] at hvl
          have hle2 := hPn.2.1
          have htl := tlQ_len (newQ ks (txtQ s1 3))
          refine ⟨k2, by omega, _, _, _, _, _, rfl, by omega, hU, hp, hPst.trans (hPn.trans (Pst.tl _)), hac, ?_, hvl, hB1, by rw [hm]⟩
          simp only [List.length_append, List.length_cons, List.length_nil]
          omega
      ·try simp only [cS, ne_eq, Decidable.not_not] at hc4
       refine WC.exit (WX.thenExit (WX.thenExit (WX.blockHere (WX.meet [(0, _), (2, _), (3, _), (4, _)] ⟨rfl, rfl, rfl, rfl, trivial⟩ ?_))))
       first
        | (have he1 : s1.e ≠ 0 := by omega
           rw [varL_stop (s := s1) he1] at hvl
           subst hvl
           exact ⟨_, _, hU, hp, hPst, hac, by show ks.length ≤ 2100; omega, hB1, rfl⟩)
        | (have hm : many = false := by simpa using hb10_2
           rw [varL_last he0 (.inl hm)] at hvl
           subst hvl
           exact ⟨_, _, hU, hp, hPst.trans hPn, hac, by show (ks ++ _).length ≤ 2100; simp only [List.length_append, List.length_cons, List.length_nil]; omega, hB1, by rw [hm]⟩)
        | (have hq9 : isQ (newQ ks (txtQ s1 3)) [44] = false := by simpa using hc10
           rw [takQ_F hq9] at hp
           rw [varL_last he0 (.inr hq9)] at hvl
           subst hvl
           have hm : many = true := by simpa using hb10_2
           exact ⟨_, _, hU, hp, hPst.trans hPn, hac, by show (ks ++ _).length ≤ 2100; simp only [List.length_append, List.length_cons, List.length_nil]; omega, hB1, by rw [hm]⟩)
    ·clear hU hp hB1
     rintro E wA ⟨G, v1, hU, hp, hPst, hac, hkl, hB1, rfl⟩
     have hG := hac.lt
     have hsA := hU.size
     have hlt1 := hB1.lt
     refine WC.seq (WC.region (WL.val rfl rfl rfl rfl (r_move rfl (ev_t rfl)) ?_))
     refine WL.nil (WX.keep [(0, _), (2, _), (3, _), (54, _)] ⟨rfl, rfl, rfl, rfl, trivial⟩ (WX.next (WC.cond rfl (ev_t rfl) (fun hc11 => ?_) (fun hc11 => ?_))))
     ·refine WC.region (WL.val rfl rfl rfl rfl (r_move rfl (ev_t rfl)) ?_)
      refine WL.cons (SO.call (must_ok (u := [41]) hp) rfl body_84 ⟨(ev_t rfl), ev_c, trivial⟩ rfl rfl rfl rfl ?_)
      rintro v9 w16 ⟨hp2, hu16⟩
      have hs16 := hu16.size
      replace hU := hU.trans hu16 (by exact (fun _ _ h => h))
      replace hac := hac.upd hu16 (fun k hk hl hS => by (simp only [At] at hS; omega))
      replace hB1 := hB1.upd hu16 (by (simp only [At]; omega))
      have hp := hp2
      refine WL.nil (WX.keep [(0, _), (2, _), (3, _)] ⟨rfl, rfl, rfl, trivial⟩ (WX.meet [(0, _), (2, _), (3, _)] ⟨rfl, rfl, rfl, trivial⟩ ?_))
      first
       | (rw [if_pos (by assumption)] at hv9
          subst hv9
          exact ⟨_, _, hU, hp, hPst.trans (Pst.mus _ _), hac, hkl, hB1, rfl⟩)
       | (rw [if_neg (by simp_all)] at hv9
          subst hv9
          exact ⟨_, _, hU, hp, hPst, hac, hkl, hB1, rfl⟩)
       | (have hor : ¬ (many = true ∨ kdQ s0 3 = true) := by simpa using hc3
          rw [if_neg hor] at hv9
          subst hv9
          exact ⟨_, _, hU, hp, hP0, Acc.nil _ _, by simp, hB1, rfl⟩)
     ·refine WC.skip (WX.meet [(0, _), (2, _), (3, _)] ⟨rfl, rfl, rfl, trivial⟩ ?_)
      first
       | (rw [if_pos (by assumption)] at hv9
          subst hv9
          exact ⟨_, _, hU, hp, hPst.trans (Pst.mus _ _), hac, hkl, hB1, rfl⟩)
       | (rw [if_neg (by simp_all)] at hv9
          subst hv9
          exact ⟨_, _, hU, hp, hPst, hac, hkl, hB1, rfl⟩)
       | (have hor : ¬ (many = true ∨ kdQ s0 3 = true) := by simpa using hc3
          rw [if_neg hor] at hv9
          subst hv9
          exact ⟨_, _, hU, hp, hP0, Acc.nil _ _, by simp, hB1, rfl⟩)
   ·refine WC.skip (WX.meet [(0, _), (2, _), (3, _)] ⟨rfl, rfl, rfl, trivial⟩ ?_)
    first
     | (rw [if_pos (by assumption)] at hv9
        subst hv9
        exact ⟨_, _, hU, hp, hPst.trans (Pst.mus _ _), hac, hkl, hB1, rfl⟩)
     | (rw [if_neg (by simp_all)] at hv9
        subst hv9
        exact ⟨_, _, hU, hp, hPst, hac, hkl, hB1, rfl⟩)
     | (have hor : ¬ (many = true ∨ kdQ s0 3 = true) := by simpa using hc3
        rw [if_neg hor] at hv9
        subst hv9
        exact ⟨_, _, hU, hp, hP0, Acc.nil _ _, by simp, hB1, rfl⟩)
 ·clear hU hp hB1
  rintro E wA ⟨G, v1, hU, hp, hPst, hac, hkl, hB1, rfl⟩
  obtain ⟨A1, c1, rfl, hcc1⟩ := hac.form
  obtain ⟨xs, hv, hmx⟩ := hac.done (by omega)
  rw [Ms.sv hmx] at hv
  have hsA := hU.size
  have hlt1 := hB1.lt
  have hI := hp.I
  have hdv := hPst.1
  refine WC.seq (WC.region (WL.val rfl rfl rfl rfl (r_move rfl (ev_t rfl)) ?_))
  refine WL.val rfl rfl rfl rfl (r_lenSlice (ts := #[]) rfl (ev_t rfl) elem_66) ?_
  refine WL.val rfl rfl rfl rfl (r_move rfl (ev_t rfl)) ?_
  refine WL.cons (SO.call (text_ok9 (k := 1) hp (by decide)) rfl body_82 ⟨(ev_t rfl), ev_c, trivial⟩ rfl rfl rfl rfl ?_)
  rintro v9 w17 ⟨rfl, hp2, hu17⟩
  have hs17 := hu17.size
  replace hU := hU.trans hu17 (by exact (fun _ _ h => h))
  replace hv := hv.upd hu17 (fun k hk hl hS => by (simp only [At, Bt] at hS hk; omega))
  replace hB1 := hB1.upd hu17 (by (simp only [At]; omega))
  have hp := hp2
  rw [← ht9] at hp ⊢
  refine WL.val rfl rfl rfl rfl (r_build (cs := #[_, _, _, _, _, _, _, _, _, _, _]) (vs := [(0, _), (4, _), (1, _)]) rfl ⟨⟨rfl, ev_c⟩, ⟨rfl, (ev_t rfl)⟩, ⟨rfl, (ev_t rfl)⟩, trivial⟩ plc_39 zero_39 rfl) ?_
  refine WL.cons (SO.alloc rfl rfl rfl rfl (r_alloc rfl zero_39) ?_)
  intro w18 hu18 hB18 hz18
  have hs18 := hu18.size
  replace hU := hU.trans hu18 (by exact (fun _ _ h => h.elim))
  replace hv := hv.upd hu18 (fun k hk hl hS => by exact (show False from hS).elim)
  replace hB1 := hB1.upd hu18 (by exact (fun h => h))
  replace hp := hp.upd hu18 (by exact (fun _ _ h => h))
  refine WL.cons (SO.storeAll (us := [_, _, _, _, _, _, _, _, _, _, _]) rfl (ev_t rfl) (ev_t rfl) size_39 hB18 rfl rfl rfl rfl rfl ?_)
  intro w19 hu19 hB18 hz19
  have hs19 := hu19.size
  replace hU := hU.trans hu19 (by (intro k hl hk; (try simp only [At, New, Grow, From, No] at hk ⊢); omega))
  replace hv := hv.upd hu19 (fun k hk hl hS => by (simp only [At, Bt] at hS hk; omega))
  replace hB1 := hB1.upd hu19 (by (simp only [At]; omega))
  replace hp := hp.upd hu19 (by (intro k hk hS; first | (simp only [At] at hS; omega) | (have := hG k hS; omega) | (have := hR k (.inl hS); omega) | (have := hR k (.inr hS); omega)))
  refine WL.nil (WX.keep [(0, _), (2, _), (3, _), (7, _)] ⟨rfl, rfl, rfl, rfl, trivial⟩ ?_)
  have hb7 := hB18
  change Blk _ _ #[.int .u8 3, Sv t9.1, .bool false, .int .u8 0, .string ⟨#[]⟩, .int .i64 0, .bool false, .slice none 0 0, .slice none 0 0, .int .i64 (vq.1.length : Int), .slice none 0 0] _ at hb7
  have hlt7 := hb7.lt
  obtain ⟨b7, hb7e⟩ : ∃ b7, b7 = w17.heap.size := ⟨_, rfl⟩
  rw [← hb7e] at hb7 hlt7 ⊢
  have hb7w : wA.heap.size ≤ b7 := by omega
  refine WX.next (WC.seq (WC.region (WL.val rfl rfl rfl rfl (r_move rfl (ev_t rfl)) ?_)))
  refine WL.cons (SO.call (must_ok (u := [61]) hp) rfl body_84 ⟨(ev_t rfl), ev_c, trivial⟩ rfl rfl rfl rfl ?_)
  rintro v9 w20 ⟨hp2, hu20⟩
  have hs20 := hu20.size
  replace hU := hU.trans hu20 (by exact (fun _ _ h => h))
  replace hv := hv.upd hu20 (fun k hk hl hS => by (simp only [At, Bt] at hS hk; omega))
  replace hB1 := hB1.upd hu20 (by (simp only [At]; omega))
  replace hb7 := hb7.upd hu20 (by (simp only [At]; omega))
  have hp := hp2
  refine WL.nil (WX.keep [(0, _), (2, _), (3, _), (7, _)] ⟨rfl, rfl, rfl, rfl, trivial⟩ (WX.next (WC.seq (WC.region (WL.val rfl rfl rfl rfl (r_move rfl (ev_t rfl)) ?_)))))
  refine WL.cons (SO.call (take_ok (u := [124]) hp) rfl body_31 ⟨(ev_t rfl), ev_c, trivial⟩ rfl rfl rfl rfl ?_)
  rintro v9 w21 ⟨rfl, hp2, hu21⟩
  have hs21 := hu21.size
  replace hU := hU.trans hu21 (by exact (fun _ _ h => h))
  replace hv := hv.upd hu21 (fun k hk hl hS => by (simp only [At, Bt] at hS hk; omega))
  replace hB1 := hB1.upd hu21 (by (simp only [At]; omega))
  replace hb7 := hb7.upd hu21 (by (simp only [At]; omega))
  have hp := hp2
  rw [← hSb] at hp
  have hP2 : Pst s s2 := by rw [hSb, ht9]; exact hPst.trans ((Pst.txt _ _).trans ((Pst.mus _ _).trans (Pst.tak _ _)))
  refine WL.nil (WX.keep [(0, _), (2, _), (3, _), (7, _)] ⟨rfl, rfl, rfl, rfl, trivial⟩ (WX.next (WC.seq (WC.region (WL.val rfl rfl rfl rfl (r_assign rfl ev_c) ?_)))))
  refine WL.nil (WX.keep [(0, _), (2, _), (3, _), (7, _), (8, _)] ⟨rfl, rfl, rfl, rfl, rfl, trivial⟩ (WX.next ?_))
  -- cut 17: live [2, 7]
  refine WC.cut (fun E wB => ∃ (s3 : St) (cs : List Ct) (vC : Value), ctrL vq.1 (s2.ts.length + 2) [] s2 = (cs, s3) ∧ PS wB r B0 A s3 ∧ Pst s s3 ∧ AccR 41 wB (fun k => b7 + 1 ≤ k) vC cs ∧ cs.length ≤ 2100 ∧ Upd (At r) w wB ∧ Rd wB (Bt (w.heap.size + 1) wA.heap.size) (.slice A1 vq.1.length c1) vq.1.length 1 (vq.1.map Sv) ∧ Blk wB w.heap.size #[.int .u8 0, .string ⟨#[]⟩, .bool false, .int .u8 0, .string ⟨#[]⟩, .int .i64 0, .bool false, .slice none 0 0, .slice none 0 0, .int .i64 0, .slice none 0 0] 39 ∧ Blk wB b7 #[.int .u8 3, Sv t9.1, .bool false, .int .u8 0, .string ⟨#[]⟩, .int .i64 0, .bool false, .slice none 0 0, .slice none 0 0, .int .i64 (vq.1.length : Int), vC] 39 ∧ E = [(2, .pointer (some ⟨w.heap.size, 0, none⟩)), (7, .pointer (some ⟨b7, 0, none⟩))]) ?_ ?_
  ·refine WC.block ?_
   -- loop 2: live [0, 2, 3, 7, 8]
   refine WC.keep [(0, _), (2, _), (3, _), (7, _), (8, _)] ⟨rfl, rfl, rfl, rfl, rfl, trivial⟩ (WC.loop (fun qq E wB => ∃ (s1 : St) (cs : List Ct) (RN RC : Nat → Prop) (vN vC : Value) (k1 : Nat), qq = k1 ∧ s1.ts.length ≤ k1 ∧ PS wB r B0 A s1 ∧ Pst s s1 ∧ AccR 9 wB RN vN (cs.map (·.s)) ∧ AccR 41 wB RC vC cs ∧ (∀ k, RN k → ¬ RC k) ∧ (∀ k, RN k ∨ RC k → b7 + 1 ≤ k ∧ k < wB.heap.size) ∧ cs.length + s1.ts.length ≤ 2050 ∧ ctrL vq.1 (s2.ts.length + 2) [] s2 = ctrL vq.1 k1 cs s1 ∧ Upd (At r) w wB ∧ Rd wB (Bt (w.heap.size + 1) wA.heap.size) (.slice A1 vq.1.length c1) vq.1.length 1 (vq.1.map Sv) ∧ Blk wB w.heap.size #[.int .u8 0, .string ⟨#[]⟩, .bool false, .int .u8 0, .string ⟨#[]⟩, .int .i64 0, .bool false, .slice none 0 0, .slice none 0 0, .int .i64 0, .slice none 0 0] 39 ∧ Blk wB b7 #[.int .u8 3, Sv t9.1, .bool false, .int .u8 0, .string ⟨#[]⟩, .int .i64 0, .bool false, .slice none 0 0, .slice none 0 0, .int .i64 (vq.1.length : Int), vC] 39 ∧ E = [(0, (.pointer (some ⟨r, 0, none⟩))), (2, .pointer (some ⟨w.heap.size, 0, none⟩)), (3, .slice A1 vq.1.length c1), (7, .pointer (some ⟨b7, 0, none⟩)), (8, vN)]) (s2.ts.length + 2) ?_ ?_)
   ·exact ⟨_, [], No, No, _, _, _, rfl, by omega, hp, hP2, AccR.nil _ _, AccR.nil _ _, fun k h => h.elim, fun k h => h.elim (fun h => h.elim) (fun h => h.elim), by have := hP2.2.1; simp only [List.length_nil]; omega, rfl, hU, hv, hB1, hb7, rfl⟩
   ·clear hU hp hv hB1 hb7
    rintro qq E wB ⟨s1, cs, RN, RC, vN, vC, k1, rfl, hk1, hp, hPs, haN, haC, hdis, hR, hcl, hct, hU, hv, hB1, hb7, rfl⟩
    obtain ⟨A2, c2, rfl, hcc2⟩ := haN.form
    obtain ⟨A3, c3, rfl, hcc3⟩ := haC.form
    have hI := hp.I
    have hsB := hU.size
    have hlt1 := hB1.lt
    have hlt7 := hb7.lt
    have hds := hPs.1
    have hml : (cs.map (·.s)).length = cs.length := List.length_map _
    refine WC.seq (WC.seq (WC.region ?_))
    obtain ⟨FD, bD, offD, cD, zD, badD, hbD, hzD, hrD, hFD, hID⟩ := hp.open
    refine WL.val rfl rfl rfl rfl (r_move rfl (ev_t rfl)) ?_
    refine WL.val rfl rfl rfl rfl (r_nilCheck rfl (ev_t rfl)) ?_
    refine WL.val rfl rfl rfl rfl (r_field0 rfl (ev_t rfl) fld_58_4) ?_
    refine WL.val rfl rfl rfl rfl (r_load rfl (ev_t rfl) flat_3 (Blk.cell hbD rfl)) ?_
    refine WL.val rfl rfl rfl rfl (r_eql rfl (ev_t rfl) ev_c) ?_
    refine WL.nil (WX.keep [(0, _), (2, _), (3, _), (7, _), (8, _), (70, _)] ⟨rfl, rfl, rfl, rfl, rfl, rfl, trivial⟩ (WX.next (WC.cond rfl (ev_t rfl) (fun hc17 => ?_) (fun hc17 => ?_))))
    ·try simp only [cS, ne_eq, Decidable.not_not] at hc17
     have he0 : s1.e = 0 := by omega
     obtain ⟨k2, rfl⟩ : ∃ k2, qq = k2 + 1 := ⟨qq - 1, by omega⟩
     refine WC.skip (WX.next (WC.block (WC.seq (WC.region ?_))))
     obtain ⟨FD, bD, offD, cD, zD, badD, hbD, hzD, hrD, hFD, hID⟩ := hp.open
     refine WL.val rfl rfl rfl rfl (r_move rfl (ev_t rfl)) ?_
     refine WL.val rfl rfl rfl rfl (r_nilCheck rfl (ev_t rfl)) ?_
     refine WL.val rfl rfl rfl rfl (r_field0 rfl (ev_t rfl) fld_58_1) ?_
     refine WL.val rfl rfl rfl rfl (r_load rfl (ev_t rfl) flat_3 (Blk.cell hbD rfl)) ?_
     refine WL.val rfl rfl rfl rfl (r_assign rfl (ev_t rfl)) ?_
     refine WL.nil (WX.keep [(0, _), (2, _), (3, _), (7, _), (8, _), (9, _)] ⟨rfl, rfl, rfl, rfl, rfl, rfl, trivial⟩ (WX.next (WC.seq (WC.region (WL.val rfl rfl rfl rfl (r_move rfl (ev_t rfl)) ?_)))))
     refine WL.cons (SO.call (text_ok9 (k := 2) hp (by decide)) rfl body_82 ⟨(ev_t rfl), ev_c, trivial⟩ rfl rfl rfl rfl ?_)
     rintro v9 w22 ⟨rfl, hp2, hu22⟩
     have hs22 := hu22.size
     replace hU := hU.trans hu22 (by exact (fun _ _ h => h))
     replace haN := haN.upd hu22 (fun k hk hl hS => by (simp only [At] at hS; have := hR k (.inl hk); omega))
     replace haC := haC.upd hu22 (fun k hk hl hS => by (simp only [At] at hS; have := hR k (.inr hk); omega))
     replace hv := hv.upd hu22 (fun k hk hl hS => by (simp only [At, Bt] at hS hk; omega))
     replace hB1 := hB1.upd hu22 (by (simp only [At]; omega))
     replace hb7 := hb7.upd hu22 (by (simp only [At]; omega))
     have hp := hp2
     refine WL.val rfl rfl rfl rfl (r_build (cs := #[_, _, _, _, _]) (vs := [(0, _)]) rfl ⟨⟨rfl, (ev_t rfl)⟩, trivial⟩ plc_41 zero_41 rfl) ?_
     refine WL.cons (SO.alloc rfl rfl rfl rfl (r_alloc rfl zero_41) ?_)
     intro w23 hu23 hB23 hz23
     have hs23 := hu23.size
     replace hU := hU.trans hu23 (by exact (fun _ _ h => h.elim))
     replace haN := haN.upd hu23 (fun k hk hl hS => by exact (show False from hS).elim)
     replace haC := haC.upd hu23 (fun k hk hl hS => by exact (show False from hS).elim)
     replace hv := hv.upd hu23 (fun k hk hl hS => by exact (show False from hS).elim)
     replace hB1 := hB1.upd hu23 (by exact (fun h => h))
     replace hb7 := hb7.upd hu23 (by exact (fun h => h))
     replace hp := hp.upd hu23 (by exact (fun _ _ h => h))
     refine WL.cons (SO.storeAll (us := [_, _, _, _, _]) rfl (ev_t rfl) (ev_t rfl) size_41 hB23 rfl rfl rfl rfl rfl ?_)
     intro w24 hu24 hB23 hz24
     have hs24 := hu24.size
     replace hU := hU.trans hu24 (by (intro k hl hk; (try simp only [At, New, Grow, From, No] at hk ⊢); omega))
     replace haN := haN.upd hu24 (fun k hk hl hS => by (simp only [At] at hS; have := hR k (.inl hk); omega))
     replace haC := haC.upd hu24 (fun k hk hl hS => by (simp only [At] at hS; have := hR k (.inr hk); omega))
     replace hv := hv.upd hu24 (fun k hk hl hS => by (simp only [At, Bt] at hS hk; omega))
     replace hB1 := hB1.upd hu24 (by (simp only [At]; omega))
     replace hb7 := hb7.upd hu24 (by (simp only [At]; omega))
     replace hp := hp.upd hu24 (by (intro k hk hS; first | (simp only [At] at hS; omega) | (have := hG k hS; omega) | (have := hR k (.inl hS); omega) | (have := hR k (.inr hS); omega)))
     refine WL.nil (WX.keep [(0, _), (2, _), (3, _), (7, _), (8, _), (9, _), (10, _)] ⟨rfl, rfl, rfl, rfl, rfl, rfl, rfl, trivial⟩ ?_)
     have hb10 := hB23
     change Blk _ _ #[Sv (txtQ s1 2).1, .bool false, Sv [], .int .i64 0, .slice none 0 0] _ at hb10
     have hlt10 := hb10.lt
     obtain ⟨b10, hb10e⟩ : ∃ b10, b10 = w22.heap.size := ⟨_, rfl⟩
     rw [← hb10e] at hb10 hlt10 ⊢
     have hb10w : wB.heap.size ≤ b10 := by omega
     refine WX.next ?_
     -- cut 20: live [0, 2, 3, 7, 8, 10]
     refine WC.cut (fun E wC => PS wC r B0 A (newQ (cs.map (·.s)) (txtQ s1 2)) ∧ AccR 9 wC RN (.slice A2 (cs.map (·.s)).length c2) (cs.map (·.s)) ∧ AccR 41 wC RC (.slice A3 cs.length c3) cs ∧ Upd (At r) w wC ∧ Rd wC (Bt (w.heap.size + 1) wA.heap.size) (.slice A1 vq.1.length c1) vq.1.length 1 (vq.1.map Sv) ∧ Blk wC w.heap.size #[.int .u8 0, .string ⟨#[]⟩, .bool false, .int .u8 0, .string ⟨#[]⟩, .int .i64 0, .bool false, .slice none 0 0, .slice none 0 0, .int .i64 0, .slice none 0 0] 39 ∧ Blk wC b7 #[.int .u8 3, Sv t9.1, .bool false, .int .u8 0, .string ⟨#[]⟩, .int .i64 0, .bool false, .slice none 0 0, .slice none 0 0, .int .i64 (vq.1.length : Int), .slice A3 cs.length c3] 39 ∧ Blk wC b10 #[Sv (txtQ s1 2).1, .bool false, Sv [], .int .i64 0, .slice none 0 0] 41 ∧ E = [(0, (.pointer (some ⟨r, 0, none⟩))), (2, .pointer (some ⟨w.heap.size, 0, none⟩)), (3, .slice A1 vq.1.length c1), (7, .pointer (some ⟨b7, 0, none⟩)), (8, .slice A2 (cs.map (·.s)).length c2), (10, .pointer (some ⟨b10, 0, none⟩))]) ?_ ?_
     ·refine WC.seq (WC.region ?_)
      obtain ⟨FE, bE, offE, cE, zE, badE, hbE, hzE, hrE, hFE, hIE⟩ := hp.open
      obtain ⟨xs2, hrx, hmx2⟩ := haN.done (by omega)
      rw [Ms.sv hmx2] at hrx
      refine WL.val rfl rfl rfl rfl (r_move rfl (ev_t rfl)) ?_
      refine WL.val rfl rfl rfl rfl (r_nilCheck rfl (ev_t rfl)) ?_
      refine WL.val rfl rfl rfl rfl (r_field0 rfl (ev_t rfl) fld_58_4) ?_
      refine WL.val rfl rfl rfl rfl (r_load rfl (ev_t rfl) flat_3 (Blk.cell hbE rfl)) ?_
      refine WL.val rfl rfl rfl rfl (r_eql rfl (ev_t rfl) ev_c) ?_
      refine WL.val rfl rfl rfl rfl (r_move rfl (ev_t rfl)) ?_
      refine WL.cases 83 rfl (fun hb20_5 => ?_) (fun hb20_5 => ?_)
      ·try simp only [cS, ne_eq, Decidable.not_not] at hb20_5
       refine WL.val rfl rfl rfl rfl (r_move rfl (ev_t rfl)) ?_
       refine WL.val rfl rfl rfl rfl (r_field0 rfl (ev_t rfl) fld_41_0) ?_
       refine WL.val rfl rfl rfl rfl (r_load rfl (ev_t rfl) flat_9 (Blk.cell hb10 rfl)) ?_
       refine WL.cons (SO.call (rhas_ok hrx) rfl body_83 ⟨(ev_t rfl), (ev_t rfl), trivial⟩ rfl rfl rfl rfl ?_)
       rintro v9 w25 ⟨rfl, hu25⟩
       have hs25 := hu25.size
       replace hU := hU.trans hu25 (by exact (fun _ _ h => h.elim))
       replace haN := haN.upd hu25 (fun k hk hl hS => by exact (show False from hS).elim)
       replace haC := haC.upd hu25 (fun k hk hl hS => by exact (show False from hS).elim)
       replace hv := hv.upd hu25 (fun k hk hl hS => by exact (show False from hS).elim)
       replace hB1 := hB1.upd hu25 (by exact (fun h => h))
       replace hb7 := hb7.upd hu25 (by exact (fun h => h))
       replace hp := hp.upd hu25 (by exact (fun _ _ h => h))
       replace hb10 := hb10.upd hu25 (by exact (fun h => h))
       refine WL.val rfl rfl rfl rfl (r_gtr rfl (ev_t rfl) ev_c) ?_
       refine WL.val rfl rfl rfl rfl (r_pickT rfl (ev_t rfl) (ev_t rfl)) ?_
       refine WL.nil (WX.keep [(0, _), (2, _), (3, _), (7, _), (8, _), (9, _), (10, _), (89, _)] ⟨rfl, rfl, rfl, rfl, rfl, rfl, rfl, rfl, trivial⟩ (WX.next (WC.cond rfl (ev_t rfl) (fun hc20 => ?_) (fun hc20 => ?_))))
       ·try simp only [cS, ne_eq, Decidable.not_not] at hc20
        refine WC.region (WL.val rfl rfl rfl rfl (r_move rfl (ev_t rfl)) ?_)
        refine WL.val rfl rfl rfl rfl (r_move rfl (ev_t rfl)) ?_
        refine WL.cons (SO.call (fault_ok (e := 7) hp (by omega) (by decide)) rfl body_35 ⟨(ev_t rfl), (ev_t rfl), ev_c, trivial⟩ rfl rfl rfl rfl ?_)
        rintro v9 w26 ⟨hp2, hu26⟩
        have hs26 := hu26.size
        replace hU := hU.trans hu26 (by exact (fun _ _ h => h))
        replace haN := haN.upd hu26 (fun k hk hl hS => by (simp only [At] at hS; have := hR k (.inl hk); omega))
        replace haC := haC.upd hu26 (fun k hk hl hS => by (simp only [At] at hS; have := hR k (.inr hk); omega))
        replace hv := hv.upd hu26 (fun k hk hl hS => by (simp only [At, Bt] at hS hk; omega))
        replace hB1 := hB1.upd hu26 (by (simp only [At]; omega))
        replace hb7 := hb7.upd hu26 (by (simp only [At]; omega))
        replace hb10 := hb10.upd hu26 (by (simp only [At]; omega))
        have hp := hp2
        refine WL.nil (WX.keep [(0, _), (2, _), (3, _), (7, _), (8, _), (10, _)] ⟨rfl, rfl, rfl, rfl, rfl, rfl, trivial⟩ (WX.meet [(0, _), (2, _), (3, _), (7, _), (8, _), (10, _)] ⟨rfl, rfl, rfl, rfl, rfl, rfl, trivial⟩ ?_))
        first
         | (have hnw : newQ (cs.map (·.s)) (txtQ s1 2) = fauQ (txtQ s1 2).2 7 := by unfold newQ; rw [if_pos ⟨by omega, by omega⟩]
            rw [hnw]
            exact ⟨hp, haN, haC, hU, hv, hB1, hb7, hb10, rfl⟩)
         | (have hnw : newQ (cs.map (·.s)) (txtQ s1 2) = (txtQ s1 2).2 := by unfold newQ; rw [if_neg (by omega)]
            rw [hnw]
            exact ⟨hp, haN, haC, hU, hv, hB1, hb7, hb10, rfl⟩)
       ·try simp only [cS, ne_eq, Decidable.not_not] at hc20
        refine WC.skip (WX.meet [(0, _), (2, _), (3, _), (7, _), (8, _), (10, _)] ⟨rfl, rfl, rfl, rfl, rfl, rfl, trivial⟩ ?_)
        first
         | (have hnw : newQ (cs.map (·.s)) (txtQ s1 2) = fauQ (txtQ s1 2).2 7 := by unfold newQ; rw [if_pos ⟨by omega, by omega⟩]
            rw [hnw]
            exact ⟨hp, haN, haC, hU, hv, hB1, hb7, hb10, rfl⟩)
         | (have hnw : newQ (cs.map (·.s)) (txtQ s1 2) = (txtQ s1 2).2 := by unfold newQ; rw [if_neg (by omega)]
            rw [hnw]
            exact ⟨hp, haN, haC, hU, hv, hB1, hb7, hb10, rfl⟩)
      ·try simp only [cS, ne_eq, Decidable.not_not] at hb20_5
       refine WL.skip rfl rfl rfl (WL.skip rfl rfl rfl (WL.skip rfl rfl rfl (WL.skip rfl rfl rfl (WL.skip rfl rfl rfl (WL.val rfl rfl rfl rfl (r_pickF rfl (ev_t rfl) ev_c) ?_)))))
       refine WL.nil (WX.keep [(0, _), (2, _), (3, _), (7, _), (8, _), (9, _), (10, _), (89, _)] ⟨rfl, rfl, rfl, rfl, rfl, rfl, rfl, rfl, trivial⟩ (WX.next (WC.cond_false rfl (ev_t rfl) ?_)))
       refine WC.skip (WX.meet [(0, _), (2, _), (3, _), (7, _), (8, _), (10, _)] ⟨rfl, rfl, rfl, rfl, rfl, rfl, trivial⟩ ?_)
       first
        | (have hnw : newQ (cs.map (·.s)) (txtQ s1 2) = fauQ (txtQ s1 2).2 7 := by unfold newQ; rw [if_pos ⟨by omega, by omega⟩]
           rw [hnw]
           exact ⟨hp, haN, haC, hU, hv, hB1, hb7, hb10, rfl⟩)
        | (have hnw : newQ (cs.map (·.s)) (txtQ s1 2) = (txtQ s1 2).2 := by unfold newQ; rw [if_neg (by omega)]
           rw [hnw]
           exact ⟨hp, haN, haC, hU, hv, hB1, hb7, hb10, rfl⟩)
     ·clear hp haN haC hU hv hB1 hb7 hb10
      rintro E wC ⟨hp, haN, haC, hU, hv, hB1, hb7, hb10, rfl⟩
      have hsC := hU.size
      have hlt1c := hB1.lt
      have hlt7c := hb7.lt
      have hlt10c := hb10.lt
      refine WC.seq (WC.region (WL.val rfl rfl rfl rfl (r_move rfl (ev_t rfl)) ?_))
      refine WL.val rfl rfl rfl rfl (r_field0 rfl (ev_t rfl) fld_41_0) ?_
      refine WL.val rfl rfl rfl rfl (r_load rfl (ev_t rfl) flat_9 (Blk.cell hb10 rfl)) ?_
      refine WL.cons (SO.alloc rfl rfl rfl rfl (r_buildSlice1 (vs := [_]) rfl ⟨(ev_t rfl), trivial⟩ rfl row_66 rfl rfl) ?_)
      intro w27 hu27 hB27 hz27
      have hs27 := hu27.size
      replace hU := hU.trans hu27 (by exact (fun _ _ h => h.elim))
      replace hp := hp.upd hu27 (by exact (fun _ _ h => h))
      replace haN := haN.upd hu27 (fun k hk hl hS => by exact (show False from hS).elim)
      replace haC := haC.upd hu27 (fun k hk hl hS => by exact (show False from hS).elim)
      replace hv := hv.upd hu27 (fun k hk hl hS => by exact (show False from hS).elim)
      replace hB1 := hB1.upd hu27 (by exact (fun h => h))
      replace hb7 := hb7.upd hu27 (by exact (fun h => h))
      replace hb10 := hb10.upd hu27 (by exact (fun h => h))
      refine WL.cons (SO.appendR (a := (txtQ s1 2).1) haN (F2 := No) TM.sv (fun k hk => hk.elim) (Rd.of_blk (F := At _) (n := 1) (sz := 1) hB27 rfl rfl (by omega)) row_66 (by omega) rfl rfl (ev_t rfl) (ev_t rfl) rfl rfl rfl rfl ?_)
      intro v5 w28 haN2 hu28
      have hs28 := hu28.size
      replace hU := hU.trans hu28 (by (intro k hl hk; first | exact hk | exact (show False from hk).elim | (have := hG k hk; omega) | (have := hR k (.inl hk); omega) | (have := hR k (.inr hk); omega) | (simp only [At] at *; exfalso; omega)))
      replace hp := hp.upd hu28 (by (intro k hk hS; first | (simp only [At] at hS; omega) | (have := hG k hS; omega) | (have := hR k (.inl hS); omega) | (have := hR k (.inr hS); omega)))
      replace haC := haC.upd hu28 (fun k hk hl hS => by exact hdis k hS hk)
      replace hv := hv.upd hu28 (fun k hk hl hS => by (have := hR k (.inl hS); simp only [Bt] at hk; omega))
      replace hB1 := hB1.upd hu28 (by (intro hS; have := hR _ (.inl hS); omega))
      replace hb7 := hb7.upd hu28 (by (intro hS; have := hR _ (.inl hS); omega))
      replace hb10 := hb10.upd hu28 (by (intro hS; have := hR _ (.inl hS); omega))
      obtain ⟨A5, c5, rfl, _⟩ := haN2.form
      obtain ⟨lo, hlo⟩ : ∃ lo, lo = w28.heap.size := ⟨_, rfl⟩
      obtain ⟨RN2, haN3, hRNd⟩ : ∃ RN2 : Nat → Prop, AccR 9 w28 RN2 (.slice A5 (cs.map (·.s) ++ [(txtQ s1 2).1]).length c5) (cs.map (·.s) ++ [(txtQ s1 2).1]) ∧ ∀ k, RN2 k → (RN k ∨ w27.heap.size ≤ k) ∧ k < lo := ⟨fun k => (RN k ∨ w27.heap.size ≤ k) ∧ k < lo, haN2.mono (fun k hk hl => by
          rcases hk with h | h | h
          · exact ⟨.inl h, by omega⟩
          · exact h.elim
          · exact ⟨.inr h.1, by omega⟩), fun k hk => hk⟩
      clear haN2
      have hRN2 : ∀ k, RN2 k → b7 + 1 ≤ k ∧ k ≠ b10 := fun k hk => by
       rcases (hRNd k hk).1 with h | h
       ·have := hR k (.inl h); omega
       ·omega
      have hdis2 : ∀ k, RN2 k → ¬ RC k := fun k hk hC => by
       have hc9 := hR k (.inr hC)
       rcases (hRNd k hk).1 with h | h
       ·exact hdis k h hC
       ·omega
      refine WL.val rfl rfl rfl rfl (r_assign rfl (ev_t rfl)) ?_
      refine WL.nil (WX.keep [(0, _), (2, _), (3, _), (7, _), (8, _), (10, _)] ⟨rfl, rfl, rfl, rfl, rfl, rfl, trivial⟩ (WX.next ?_))
      -- cut 23: live [0, 2, 3, 7, 8, 10]
      refine WC.cut (fun E wD => ∃ (y2 y3 y4 : Value), PS wD r B0 A (ctQ vq.1 cs s1).2 ∧ AccR 9 wD RN2 (.slice A5 (cs.map (·.s) ++ [(txtQ s1 2).1]).length c5) (cs.map (·.s) ++ [(txtQ s1 2).1]) ∧ AccR 41 wD RC (.slice A3 cs.length c3) cs ∧ Upd (At r) w wD ∧ lo ≤ wD.heap.size ∧ Rd wD (Bt (w.heap.size + 1) wA.heap.size) (.slice A1 vq.1.length c1) vq.1.length 1 (vq.1.map Sv) ∧ Blk wD w.heap.size #[.int .u8 0, .string ⟨#[]⟩, .bool false, .int .u8 0, .string ⟨#[]⟩, .int .i64 0, .bool false, .slice none 0 0, .slice none 0 0, .int .i64 0, .slice none 0 0] 39 ∧ Blk wD b7 #[.int .u8 3, Sv t9.1, .bool false, .int .u8 0, .string ⟨#[]⟩, .int .i64 0, .bool false, .slice none 0 0, .slice none 0 0, .int .i64 (vq.1.length : Int), .slice A3 cs.length c3] 39 ∧ Blk wD b10 #[Sv (ctQ vq.1 cs s1).1.s, .bool (ctQ vq.1 cs s1).1.h, y2, y3, y4] 41 ∧ TM wD (Bt lo wD.heap.size) [y2, y3, y4] (ctQ vq.1 cs s1).1.t ∧ (ctQ vq.1 cs s1).1.s = (txtQ s1 2).1 ∧ E = [(0, (.pointer (some ⟨r, 0, none⟩))), (2, .pointer (some ⟨w.heap.size, 0, none⟩)), (3, .slice A1 vq.1.length c1), (7, .pointer (some ⟨b7, 0, none⟩)), (8, .slice A5 (cs.map (·.s) ++ [(txtQ s1 2).1]).length c5), (10, .pointer (some ⟨b10, 0, none⟩))]) ?_ ?_
      ·refine WC.seq (WC.region (WL.val rfl rfl rfl rfl (r_move rfl (ev_t rfl)) ?_))
       refine WL.cons (SO.call (take_ok (u := [111, 102]) hp) rfl body_31 ⟨(ev_t rfl), ev_c, trivial⟩ rfl rfl rfl rfl ?_)
       rintro v9 w29 ⟨rfl, hp2, hu29⟩
       have hs29 := hu29.size
       replace hU := hU.trans hu29 (by exact (fun _ _ h => h))
       replace haC := haC.upd hu29 (fun k hk hl hS => by (simp only [At] at hS; have := hR k (.inr hk); omega))
       replace hv := hv.upd hu29 (fun k hk hl hS => by (simp only [At, Bt] at hS hk; omega))
       replace hB1 := hB1.upd hu29 (by (simp only [At]; omega))
       replace hb7 := hb7.upd hu29 (by (simp only [At]; omega))
       replace hb10 := hb10.upd hu29 (by (simp only [At]; omega))
       replace haN3 := haN3.upd hu29 (fun k hk hl hS => by (simp only [At] at hS; have := hRN2 k hk; have := hRNd k hk; omega))
       have hp := hp2
       refine WL.nil (WX.keep [(0, _), (2, _), (3, _), (7, _), (8, _), (10, _), (99, _)] ⟨rfl, rfl, rfl, rfl, rfl, rfl, rfl, trivial⟩ (WX.next (WC.cond rfl (ev_t rfl) (fun hc23 => ?_) (fun hc23 => ?_))))
       ·rw [takQ_T hc23] at hp
        have hdn : (newQ (cs.map (·.s)) (txtQ s1 2)).d = 0 := by rw [(Pst.new _ _).1, txtQ_d]; omega
        have hcq : ctQ vq.1 cs s1 = (⟨(txtQ s1 2).1, true, ((tq 51).arr vq.1 (tlQ (newQ (cs.map (·.s)) (txtQ s1 2)))).1⟩, ((tq 51).arr vq.1 (tlQ (newQ (cs.map (·.s)) (txtQ s1 2)))).2) := by unfold ctQ; exact if_pos hc23
        refine WC.seq (WC.region (WL.val rfl rfl rfl rfl (r_field0 rfl (ev_t rfl) fld_41_1) ?_))
        refine WL.cons (SO.store rfl (ev_t rfl) ev_c size_4 hb10 rfl rfl rfl rfl rfl ?_)
        intro w30 hu30 hb10 hz30
        have hs30 := hu30.size
        replace hU := hU.trans hu30 (by (intro k hl hk; (try simp only [At, New, Grow, From, No] at hk ⊢); omega))
        replace haC := haC.upd hu30 (fun k hk hl hS => by (simp only [At] at hS; have := hR k (.inr hk); omega))
        replace hv := hv.upd hu30 (fun k hk hl hS => by (simp only [At, Bt] at hS hk; omega))
        replace hB1 := hB1.upd hu30 (by (simp only [At]; omega))
        replace hb7 := hb7.upd hu30 (by (simp only [At]; omega))
        replace haN3 := haN3.upd hu30 (fun k hk hl hS => by (simp only [At] at hS; have := hRN2 k hk; have := hRNd k hk; omega))
        replace hp := hp.upd hu30 (by (intro k hk hS; first | (simp only [At] at hS; omega) | (have := hG k hS; omega) | (have := hR k (.inl hS); omega) | (have := hR k (.inr hS); omega)))
        refine WL.nil (WX.keep [(0, _), (2, _), (3, _), (7, _), (8, _), (10, _)] ⟨rfl, rfl, rfl, rfl, rfl, rfl, trivial⟩ (WX.next (WC.region (WL.val rfl rfl rfl rfl (r_move rfl (ev_t rfl)) ?_))))
        refine WL.val rfl rfl rfl rfl (r_move rfl (ev_t rfl)) ?_
        refine WL.cons (SO.call ((typs_ok 51).1 _ _ _ _ _ _ _ _ vq.1 hp (by rw [tlQ_d]; omega) (by omega) hv (fun k hk => by simp only [Bt] at hk; omega)) rfl body_85 ⟨(ev_t rfl), (ev_t rfl), trivial⟩ rfl rfl rfl rfl ?_)
        rintro v9 w31 ⟨c9, rfl, ht, hp2, hst, hu31⟩
        have hs31 := hu31.size
        replace hU := hU.trans hu31 (by exact (fun _ _ h => h))
        replace haC := haC.upd hu31 (fun k hk hl hS => by (simp only [At] at hS; have := hR k (.inr hk); omega))
        replace hv := hv.upd hu31 (fun k hk hl hS => by (simp only [At, Bt] at hS hk; omega))
        replace hB1 := hB1.upd hu31 (by (simp only [At]; omega))
        replace hb7 := hb7.upd hu31 (by (simp only [At]; omega))
        replace hb10 := hb10.upd hu31 (by (simp only [At]; omega))
        replace haN3 := haN3.upd hu31 (fun k hk hl hS => by (simp only [At] at hS; have := hRN2 k hk; have := hRNd k hk; omega))
        have hp := hp2
        obtain ⟨tn, tv, tks, tA, tp, txs, het, rfl, _⟩ := ht.mk3
        refine WL.val rfl rfl rfl rfl (r_field0 rfl (ev_t rfl) fld_41_2) ?_
        refine WL.cons (SO.storeN (us := [_, _, _]) rfl (ev_t rfl) (ev_t rfl) size_24 hb10 (by simp) rfl rfl rfl rfl ?_)
        intro w32 hu32 hb10 hz9
        have hs32 := hu32.size
        replace hU := hU.trans hu32 (by (intro k hl hk; (try simp only [At, New, Grow, From, No] at hk ⊢); omega))
        replace haC := haC.upd hu32 (fun k hk hl hS => by (simp only [At] at hS; have := hR k (.inr hk); omega))
        replace hv := hv.upd hu32 (fun k hk hl hS => by (simp only [At, Bt] at hS hk; omega))
        replace hB1 := hB1.upd hu32 (by (simp only [At]; omega))
        replace hb7 := hb7.upd hu32 (by (simp only [At]; omega))
        replace haN3 := haN3.upd hu32 (fun k hk hl hS => by (simp only [At] at hS; have := hRN2 k hk; have := hRNd k hk; omega))
        replace hp := hp.upd hu32 (by (intro k hk hS; first | (simp only [At] at hS; omega) | (have := hG k hS; omega) | (have := hR k (.inl hS); omega) | (have := hR k (.inr hS); omega)))
        replace ht := ht.upd hu32 (fun k hk hl hS => by (simp only [At, Bt] at hS hk; omega))
        change Blk _ _ #[Sv (txtQ s1 2).1, .bool true, Sv tn, .int .i64 tv, .slice tA tks.length tp] _ at hb10
        refine WL.nil (WX.keep [(0, _), (2, _), (3, _), (7, _), (8, _), (10, _)] ⟨rfl, rfl, rfl, rfl, rfl, rfl, trivial⟩ (WX.meet [(0, _), (2, _), (3, _), (7, _), (8, _), (10, _)] ⟨rfl, rfl, rfl, rfl, rfl, rfl, trivial⟩ ?_))
        rw [hcq]
        first
         | exact ⟨_, _, _, hp, haN3, haC, hU, by omega, hv, hB1, hb7, hb10, ht.mono fun k hk => by simp only [Bt] at *; omega, rfl, rfl⟩
         | exact ⟨_, _, _, hp, haN3, haC, hU, by omega, hv, hB1, hb7, hb10, TM.trz _ _, rfl, rfl⟩
       ·rw [takQ_F hc23] at hp
        have hcq : ctQ vq.1 cs s1 = (⟨(txtQ s1 2).1, false, Tr.z⟩, newQ (cs.map (·.s)) (txtQ s1 2)) := by unfold ctQ; exact if_neg (by simp [hc23])
        refine WC.skip (WX.meet [(0, _), (2, _), (3, _), (7, _), (8, _), (10, _)] ⟨rfl, rfl, rfl, rfl, rfl, rfl, trivial⟩ ?_)
        rw [hcq]
        first
         | exact ⟨_, _, _, hp, haN3, haC, hU, by omega, hv, hB1, hb7, hb10, ht.mono fun k hk => by simp only [Bt] at *; omega, rfl, rfl⟩
         | exact ⟨_, _, _, hp, haN3, haC, hU, by omega, hv, hB1, hb7, hb10, TM.trz _ _, rfl, rfl⟩
      ·clear hp haN3 haC hU hv hB1 hb7 hb10
       rintro E wD ⟨y2, y3, y4, hp, haN3, haC, hU, hloD, hv, hB1, hb7, hb10, htt, hct9, rfl⟩
       have hsD := hU.size
       have hlt1d := hB1.lt
       have hlt7d := hb7.lt
       have hlt10d := hb10.lt
       have hmC := Mo.ct vq.1 cs s1
       have htc : TM wD (Bt lo wD.heap.size) [Sv (ctQ vq.1 cs s1).1.s, .bool (ctQ vq.1 cs s1).1.h, y2, y3, y4] (ctQ vq.1 cs s1).1 := ⟨_, rfl, htt⟩
       obtain ⟨tn, tv, tks, tA, tp, txs, het, hcs9, _⟩ := htt.mk3
       obtain ⟨rfl, rfl, rfl⟩ : y2 = _ ∧ y3 = _ ∧ y4 = _ := by simpa using hcs9
       refine WC.seq (WC.region (WL.val rfl rfl rfl rfl (r_field0 rfl (ev_t rfl) fld_39_5) ?_))
       refine WL.val rfl rfl rfl rfl (r_load rfl (ev_t rfl) flat_37 (Blk.cell hb7 rfl)) ?_
       refine WL.val rfl rfl rfl rfl (r_loadAgg (vs := [_, _, _, _, _]) rfl (ev_t rfl) agg_41 size_41 (Blk.cellsL hb10)) ?_
       refine WL.cons (SO.alloc rfl rfl rfl rfl (r_buildSlice5 rfl (ev_t rfl) row_37) ?_)
       intro w33 hu33 hB33 hz33
       have hs33 := hu33.size
       replace hU := hU.trans hu33 (by exact (fun _ _ h => h.elim))
       replace hp := hp.upd hu33 (by exact (fun _ _ h => h))
       replace haN3 := haN3.upd hu33 (fun k hk hl hS => by exact (show False from hS).elim)
       replace haC := haC.upd hu33 (fun k hk hl hS => by exact (show False from hS).elim)
       replace hv := hv.upd hu33 (fun k hk hl hS => by exact (show False from hS).elim)
       replace hB1 := hB1.upd hu33 (by exact (fun h => h))
       replace hb7 := hb7.upd hu33 (by exact (fun h => h))
       replace hb10 := hb10.upd hu33 (by exact (fun h => h))
       replace htc := htc.upd hu33 (fun k hk hl hS => by exact (show False from hS).elim)
       refine WL.cons (SO.appendR haC htc (fun k hk hR9 => by have := hR k (.inr hR9); simp only [Bt] at hk; omega) (Rd.of_blk (F := At _) (n := 1) (sz := 5) hB33 rfl rfl (by omega)) row_37 (by omega) rfl rfl (ev_t rfl) (ev_t rfl) rfl rfl rfl rfl ?_)
       intro v5 w34 haC2 hu34
       have hs34 := hu34.size
       replace hU := hU.trans hu34 (by (intro k hl hk; first | exact hk | exact (show False from hk).elim | (have := hG k hk; omega) | (have := hR k (.inl hk); omega) | (have := hR k (.inr hk); omega) | (simp only [At] at *; exfalso; omega)))
       replace hp := hp.upd hu34 (by (intro k hk hS; first | (simp only [At] at hS; omega) | (have := hG k hS; omega) | (have := hR k (.inl hS); omega) | (have := hR k (.inr hS); omega)))
       replace haN3 := haN3.upd hu34 (fun k hk hl hS => by exact hdis2 k hk hS)
       replace hv := hv.upd hu34 (fun k hk hl hS => by (have := hR k (.inr hS); simp only [Bt] at hk; omega))
       replace hB1 := hB1.upd hu34 (by (intro hS; have := hR _ (.inr hS); omega))
       replace hb7 := hb7.upd hu34 (by (intro hS; have := hR _ (.inr hS); omega))
       obtain ⟨A6, c6, rfl, _⟩ := haC2.form
       obtain ⟨RC2, haC3, hRCd⟩ : ∃ RC2 : Nat → Prop, AccR 41 w34 RC2 (.slice A6 (cs ++ [(ctQ vq.1 cs s1).1]).length c6) (cs ++ [(ctQ vq.1 cs s1).1]) ∧ ∀ k, RC2 k → (RC k ∨ lo ≤ k) ∧ k < w34.heap.size := ⟨fun k => (RC k ∨ lo ≤ k) ∧ k < w34.heap.size, haC2.mono (fun k hk hl => by
           rcases hk with h | h | h
           · exact ⟨.inl h, hl⟩
           · simp only [Bt] at h; exact ⟨.inr h.1, hl⟩
           · exact ⟨.inr (by omega), hl⟩), fun k hk => hk⟩
       clear haC2
       have hRC2 : ∀ k, RC2 k → b7 + 1 ≤ k := fun k hk => by
        rcases (hRCd k hk).1 with h | h
        ·exact (hR k (.inr h)).1
        ·omega
       refine WL.val rfl rfl rfl rfl (r_field0 rfl (ev_t rfl) fld_39_5) ?_
       refine WL.cons (SO.store rfl (ev_t rfl) (ev_t rfl) size_37 hb7 rfl rfl rfl rfl rfl ?_)
       intro w35 hu35 hb7 hz35
       have hs35 := hu35.size
       replace hU := hU.trans hu35 (by (intro k hl hk; (try simp only [At, New, Grow, From, No] at hk ⊢); omega))
       replace hp := hp.upd hu35 (by (intro k hk hS; first | (simp only [At] at hS; omega) | (have := hG k hS; omega) | (have := hR k (.inl hS); omega) | (have := hR k (.inr hS); omega)))
       replace haN3 := haN3.upd hu35 (fun k hk hl hS => by (simp only [At] at hS; have := hRN2 k hk; have := hRNd k hk; omega))
       replace hv := hv.upd hu35 (fun k hk hl hS => by (simp only [At, Bt] at hS hk; omega))
       replace hB1 := hB1.upd hu35 (by (simp only [At]; omega))
       replace haC3 := haC3.upd hu35 (fun k hk hl hS => by (simp only [At] at hS; have := hRC2 k hk; omega))
       refine WL.nil (WX.keep [(0, _), (2, _), (3, _), (7, _), (8, _)] ⟨rfl, rfl, rfl, rfl, rfl, trivial⟩ ?_)
       change Blk _ _ #[.int .u8 3, Sv t9.1, .bool false, .int .u8 0, .string ⟨#[]⟩, .int .i64 0, .bool false, .slice none 0 0, .slice none 0 0, .int .i64 (vq.1.length : Int), .slice A6 _ c6] _ at hb7
       refine WX.next (WC.seq (WC.region (WL.val rfl rfl rfl rfl (r_move rfl (ev_t rfl)) ?_)))
       refine WL.cons (SO.call (take_ok (u := [124]) hp) rfl body_31 ⟨(ev_t rfl), ev_c, trivial⟩ rfl rfl rfl rfl ?_)
       rintro v9 w36 ⟨rfl, hp2, hu36⟩
       have hs36 := hu36.size
       replace hU := hU.trans hu36 (by exact (fun _ _ h => h))
       replace haN3 := haN3.upd hu36 (fun k hk hl hS => by (simp only [At] at hS; have := hRN2 k hk; have := hRNd k hk; omega))
       replace hv := hv.upd hu36 (fun k hk hl hS => by (simp only [At, Bt] at hS hk; omega))
       replace hB1 := hB1.upd hu36 (by (simp only [At]; omega))
       replace hb7 := hb7.upd hu36 (by (simp only [At]; omega))
       replace haC3 := haC3.upd hu36 (fun k hk hl hS => by (simp only [At] at hS; have := hRC2 k hk; omega))
       have hp := hp2
       refine WL.val rfl rfl rfl rfl (r_not rfl (ev_t rfl)) ?_
       refine WL.nil (WX.keep [(0, _), (2, _), (3, _), (7, _), (8, _), (113, _)] ⟨rfl, rfl, rfl, rfl, rfl, rfl, trivial⟩ (WX.next (WC.cond rfl (ev_t rfl) (fun hc27 => ?_) (fun hc27 => ?_))))
       ·try simp only [cS, ne_eq, Decidable.not_not] at hc27
        refine WC.exit (WX.blockPast rfl (WX.thenExit (WX.blockHere (WX.meet [(2, _), (7, _)] ⟨rfl, rfl, trivial⟩ ?_))))
        first
         | (have he1 : s1.e ≠ 0 := by omega
            rw [ctrL_stop (s := s1) he1] at hct
            exact ⟨_, _, _, hct, hp, hPs, haC.mono fun k hk _ => (hR k (.inr hk)).1, by omega, hU, hv, hB1, hb7, rfl⟩)
         | (have hq9 : isQ (ctQ vq.1 cs s1).2 [124] = false := by simpa using hc27
            rw [takQ_F hq9] at hp
            rw [ctrL_last he0 hq9] at hct
            exact ⟨_, _, _, hct, hp, hPs.trans hmC, haC3.mono fun k hk _ => hRC2 k hk, by simp only [List.length_append, List.length_cons, List.length_nil]; omega, hU, hv, hB1, hb7, rfl⟩)
       ·try simp only [cS, ne_eq, Decidable.not_not] at hc27
        refine WC.skip (WX.blockNormal (WX.meet [(0, _), (2, _), (3, _), (7, _), (8, _)] ⟨rfl, rfl, rfl, rfl, rfl, trivial⟩ ?_))
        have hq9 : isQ (ctQ vq.1 cs s1).2 [124] = true := by simpa using hc27
        rw [takQ_T hq9] at hp
        rw [ctrL_step he0 hq9] at hct
        have hle2 := hmC.2.1
        have htl := tlQ_len (ctQ vq.1 cs s1).2
        have hmap : (cs ++ [(ctQ vq.1 cs s1).1]).map (·.s) = cs.map (·.s) ++ [(txtQ s1 2).1] := by rw [List.map_append, ← hct9]; rfl
        rw [← hmap] at haN3
        rw [← hmap]
        refine ⟨k2, by omega, _, _, RN2, RC2, _, _, k2, rfl, by omega, hp, hPs.trans (hmC.trans (Pst.tl _)), haN3, haC3, fun k hk hC => ?_, fun k hk => ?_, ?_, hct, hU, hv, hB1, hb7, rfl⟩
        ·rcases (hRCd k hC).1 with h | h
         ·exact hdis2 k hk h
         ·have := (hRNd k hk).2; omega
        ·rcases hk with hk | hk
         ·have h1 := hRN2 k hk; have h2 := (hRNd k hk).2; exact ⟨h1.1, by omega⟩
         ·exact ⟨hRC2 k hk, by have := (hRCd k hk).2; omega⟩
        ·simp only [List.length_append, List.length_cons, List.length_nil]; omega
    ·try simp only [cS, ne_eq, Decidable.not_not] at hc17
     refine WC.exit (WX.thenExit (WX.thenExit (WX.blockHere (WX.meet [(2, _), (7, _)] ⟨rfl, rfl, trivial⟩ ?_))))
     first
      | (have he1 : s1.e ≠ 0 := by omega
         rw [ctrL_stop (s := s1) he1] at hct
         exact ⟨_, _, _, hct, hp, hPs, haC.mono fun k hk _ => (hR k (.inr hk)).1, by omega, hU, hv, hB1, hb7, rfl⟩)
      | (have hq9 : isQ (ctQ vq.1 cs s1).2 [124] = false := by simpa using hc27
         rw [takQ_F hq9] at hp
         rw [ctrL_last he0 hq9] at hct
         exact ⟨_, _, _, hct, hp, hPs.trans hmC, haC3.mono fun k hk _ => hRC2 k hk, by simp only [List.length_append, List.length_cons, List.length_nil]; omega, hU, hv, hB1, hb7, rfl⟩)
  ·clear hU hp hv hB1 hb7
   rintro E wB ⟨s3, cs, vC, hct, hp, hPs, haC, hcl, hU, hv, hB1, hb7, rfl⟩
   obtain ⟨A3, c3, rfl, hcc3⟩ := haC.form
   obtain ⟨xs3, hrc, hmc⟩ := haC.done (by omega)
   have hsB := hU.size
   have hlt1 := hB1.lt
   have hlt7 := hb7.lt
   refine WC.seq (WC.region (WL.val rfl rfl rfl rfl (r_loadAgg (vs := [_, _, _, _, _, _, _, _, _, _, _]) rfl (ev_t rfl) agg_39 size_39 (Blk.cellsL hb7)) ?_))
   refine WL.cons (SO.storeAll (us := [_, _, _, _, _, _, _, _, _, _, _]) rfl (ev_t rfl) (ev_t rfl) size_39 hB1 rfl rfl rfl rfl rfl ?_)
   intro w37 hu37 hB1 hz37
   have hs37 := hu37.size
   replace hU := hU.trans hu37 (by (intro k hl hk; (try simp only [At, New, Grow, From, No] at hk ⊢); omega))
   replace hp := hp.upd hu37 (by (intro k hk hS; first | (simp only [At] at hS; omega) | (have := hG k hS; omega) | (have := hR k (.inl hS); omega) | (have := hR k (.inr hS); omega)))
   replace hb7 := hb7.upd hu37 (by (simp only [At]; omega))
   replace hrc := hrc.upd hu37 (fun k hk hl hS => by (simp only [At] at hS; omega))
   replace hmc := hmc.upd hu37 (fun k hk hl hS => by (simp only [At] at hS; omega))
   refine WL.nil (WX.keep [(2, _)] ⟨rfl, trivial⟩ (WX.next (WC.ret (WX.retC (vs := [_, _, _, _, _, _, _, _, _, _, _]) rfl rfl agg_39 size_39 (Blk.cellsL hB1) ?_))))
   rw [htyp, hct]
   refine ⟨_, rfl, ?_, hp, hPs, hU⟩
   exact ⟨[.int .u8 0, .string ⟨#[]⟩, .int .i64 0, .bool false, .slice none 0 0, .slice none 0 0], _, xs3, rfl, (show TM _ _ _ Ex.z from TM.ex0 (by simp [inK])), hrc.mono fun k hk => by simp only [Bt]; omega, hmc.mono fun k hk => by simp only [Bt]; omega, by show vq.1.length ≤ 1000000; omega⟩
end Go.Proofs.YtomkdhkkggbioaaGreatDoor

/-
  Types as the parser makes them: how great they are, and of what form; in plain Lean.
-/
namespace Go.Proofs.YtomkdhkkggbioaaGreatDoor
open Go
set_option linter.unusedSimpArgs false
set_option linter.unusedVariables false

mutual
def szT : Tr → Nat
  | .mk _ _ ks => 1 + szTs ks
def szTs : List Tr → Nat
  | [] => 0
  | t :: r => szT t + szTs r
end
theorem szTs_append : ∀ (a b : List Tr), szTs (a ++ b) = szTs a + szTs b
  | [], b => by rw [List.nil_append, szTs, Nat.zero_add]
  | x :: a, b => by rw [List.cons_append, szTs, szTs, szTs_append a b, Nat.add_assoc]
theorem szT_pos (t : Tr) : 0 < szT t := by cases t; rw [szT]; omega
theorem szTs_one (t : Tr) : szTs [t] = szT t := by rw [szTs, szTs, Nat.add_zero]
theorem szTs_len : ∀ l : List Tr, l.length ≤ szTs l
  | [] => Nat.zero_le _
  | t :: r => by have := szT_pos t; have := szTs_len r; rw [szTs, List.length_cons]; omega
theorem szTs_mem : ∀ {l : List Tr} {t : Tr}, t ∈ l → szT t ≤ szTs l
  | t :: r, u, h => by
    rw [szTs]
    rcases List.mem_cons.1 h with h | h
    · rw [h]; omega
    · have := szTs_mem h; omega
def ZB (g : St → Tr × St) : Prop := ∀ s, szT (g s).1 + 2 * (g s).2.ts.length ≤ 2 * s.ts.length + 1
theorem isQ_pos {s : St} {u : List UInt8} (h : isQ s u = true) : 0 < s.ts.length := by
  rcases Nat.eq_zero_or_pos s.ts.length with h0 | h0
  · have h1 := (isQ_kind h).2.2
    unfold St.hd at h1
    rw [List.eq_nil_of_length_eq_zero h0] at h1
    exact absurd rfl h1
  · exact h0
theorem kdQ_pos {s : St} {k : Nat} (h : kdQ s k = true) (hk : k ≠ 0) : 0 < s.ts.length := by
  rcases Nat.eq_zero_or_pos s.ts.length with h0 | h0
  · have h1 := (kdQ_kind h).2
    unfold St.hd at h1
    rw [List.eq_nil_of_length_eq_zero h0] at h1
    exact absurd h1.symm hk
  · exact h0
theorem ZB.sep {g : St → Tr × St} (hg : ZB g) (u : List UInt8) : ∀ (k : Nat) (l : List Tr) (s : St), szTs (sepQ g u k l s).1 + 2 * (sepQ g u k l s).2.ts.length + (sepQ g u k l s).1.length ≤ szTs l + 2 * s.ts.length + l.length
  | 0, l, s => by rw [sepQ]; exact Nat.le_refl _
  | k + 1, l, s => by
    rw [sepQ]
    split
    · rename_i h
      have hp := isQ_pos h
      have h1 := ZB.sep hg u k (l ++ [(g (tlQ s)).1]) (g (tlQ s)).2
      have h2 := hg (tlQ s)
      rw [szTs_append, szTs_one, List.length_append, List.length_singleton] at h1
      rw [tlQ_len] at h2
      omega
    · exact Nat.le_refl _
theorem tnm_sz : ∀ (k : Nat) (l : List Tr) (s : St), szTs (tnmQ k l s).1 + 2 * (tnmQ k l s).2.ts.length ≤ szTs l + 2 * s.ts.length
  | 0, l, s => by rw [tnmQ]; exact Nat.le_refl _
  | k + 1, l, s => by
    rw [tnmQ]
    split
    · rename_i h
      have hp := kdQ_pos h (by decide)
      have h1 := tnm_sz k [.mk s.hd.s 0 l] (tlQ s)
      rw [szTs_one, szT, tlQ_len] at h1
      omega
    · exact Nat.le_refl _
theorem headD_sz2 {l : List Tr} (h : l ≠ []) : szT (l.headD Tr.z) ≤ szTs l := by
  cases l with
  | nil => exact absurd rfl h
  | cons t r => show szT t ≤ _; rw [szTs]; omega
theorem star_sz (l : List Tr) : szT (starQ l) ≤ szTs l + 1 := by
  by_cases h : l.length = 1
  · obtain ⟨t, rfl⟩ := List.length_eq_one_iff.1 h
    rw [starQ_one, szTs_one]; omega
  · match l, h with
    | [], _ => show szT (.mk [42] 0 []) ≤ _; rw [szT]; omega
    | a :: b :: r, _ => show szT (.mk [42] 0 _) ≤ _; rw [szT]; omega
theorem star_sz1 {l : List Tr} (h : l.length = 1) : szT (starQ l) ≤ szTs l := by
  obtain ⟨t, rfl⟩ := List.length_eq_one_iff.1 h
  rw [starQ_one, szTs_one]
  exact Nat.le_refl _
theorem tnm_ne : ∀ (k : Nat) (l : List Tr) (s : St), l ≠ [] → (tnmQ k l s).1 ≠ []
  | 0, l, s, h => by rw [tnmQ]; exact h
  | k + 1, l, s, h => by
    rw [tnmQ]
    split
    · exact tnm_ne k _ _ (by simp)
    · exact h
theorem sep_len {g : St → Tr × St} (u : List UInt8) : ∀ (k : Nat) (l : List Tr) (s : St), l.length ≤ (sepQ g u k l s).1.length
  | 0, l, s => by rw [sepQ]; exact Nat.le_refl _
  | k + 1, l, s => by
    rw [sepQ]
    split
    · have := sep_len (g := g) u k (l ++ [(g (tlQ s)).1]) (g (tlQ s)).2
      rw [List.length_append] at this
      omega
    · exact Nat.le_refl _
theorem apb_ne (f : TQ) (vs : List (List UInt8)) (s : St) : (apbB f vs s).1 ≠ [] := by
  unfold apbB
  split
  · simp
  · split
    · simp
    · dsimp only
      have := sep_len (g := f.arr vs) [44] (f.arr vs (musQ s [40])).2.ts.length [(f.arr vs (musQ s [40])).1] (f.arr vs (musQ s [40])).2
      intro h
      rw [h] at this
      simp at this
theorem ZB.all (vs : List (List UInt8)) : ∀ n, ZB ((tq n).arr vs) ∧ ZB ((tq n).app vs)
  | 0 => ⟨fun s => by show szT Tr.z + _ ≤ _; rw [Tr.z, szT, szTs]; show 1 + 0 + 2 * s.ts.length ≤ _; omega, fun s => by show szT Tr.z + _ ≤ _; rw [Tr.z, szT, szTs]; show 1 + 0 + 2 * s.ts.length ≤ _; omega⟩
  | n + 1 => by
    obtain ⟨h1, h2⟩ := ZB.all vs n
    have hz : szT Tr.z = 1 := by rw [Tr.z, szT, szTs]
    refine ⟨fun s => ?_, fun s => ?_⟩
    · show szT (arrB _ vs s).1 + 2 * (arrB _ vs s).2.ts.length ≤ _
      have hol := opnQ_len s
      unfold arrB
      split
      · dsimp only
        have h3 := h2 (opnQ s)
        have h4 := ZB.sep h2 [42] ((tq n).app vs (opnQ s)).2.ts.length [((tq n).app vs (opnQ s)).1] ((tq n).app vs (opnQ s)).2
        rw [szTs_one, List.length_singleton] at h4
        have h11 := sep_len (g := (tq n).app vs) [42] ((tq n).app vs (opnQ s)).2.ts.length [((tq n).app vs (opnQ s)).1] ((tq n).app vs (opnQ s)).2
        rw [List.length_singleton] at h11
        generalize sepQ ((tq n).app vs) [42] ((tq n).app vs (opnQ s)).2.ts.length [((tq n).app vs (opnQ s)).1] ((tq n).app vs (opnQ s)).2 = q at *
        have hst : szT (starQ q.1) + 2 * q.2.ts.length ≤ 2 * s.ts.length + 1 := by
          by_cases h : q.1.length = 1
          · have := star_sz1 h; omega
          · have := star_sz q.1
            omega
        split
        · rename_i hq
          have hp := isQ_pos hq
          have h5 := h1 (tlQ q.2)
          rw [tlQ_len] at h5
          rw [szT, szTs, szTs, szTs, clsQ_ts]
          simp only [Nat.add_zero]
          omega
        · rw [clsQ_ts]; exact hst
      · rw [clsQ_ts]; simp only [hz]; omega
    · show szT (appB _ vs s).1 + 2 * (appB _ vs s).2.ts.length ≤ _
      have hol := opnQ_len s
      unfold appB
      split
      · dsimp only
        rw [clsQ_ts]
        have h3 := tnm_sz (apbB (tq n) vs (opnQ s)).2.ts.length (apbB (tq n) vs (opnQ s)).1 (apbB (tq n) vs (opnQ s)).2
        have h4 := headD_sz2 (tnm_ne (apbB (tq n) vs (opnQ s)).2.ts.length (apbB (tq n) vs (opnQ s)).1 (apbB (tq n) vs (opnQ s)).2 (apb_ne _ _ _))
        have h5 : szTs (apbB (tq n) vs (opnQ s)).1 + 2 * (apbB (tq n) vs (opnQ s)).2.ts.length ≤ 2 * (opnQ s).ts.length + 1 := by
          unfold apbB
          split
          · dsimp only
            rw [szTs_one, szT, szTs]
            split
            · rw [fauQ_ts]; omega
            · rw [tlQ_len]; omega
          · split
            · dsimp only
              rw [szTs_one, szT, szTs, tlQ_len]; omega
            · dsimp only
              have h6 := h1 (musQ (opnQ s) [40])
              have h7 := musQ_len (opnQ s) [40]
              have h8 := ZB.sep h1 [44] ((tq n).arr vs (musQ (opnQ s) [40])).2.ts.length [((tq n).arr vs (musQ (opnQ s) [40])).1] ((tq n).arr vs (musQ (opnQ s) [40])).2
              rw [szTs_one, List.length_singleton] at h8
              have h10 := sep_len (g := (tq n).arr vs) [44] ((tq n).arr vs (musQ (opnQ s) [40])).2.ts.length [((tq n).arr vs (musQ (opnQ s) [40])).1] ((tq n).arr vs (musQ (opnQ s) [40])).2
              rw [List.length_singleton] at h10
              generalize sepQ ((tq n).arr vs) [44] ((tq n).arr vs (musQ (opnQ s) [40])).2.ts.length [((tq n).arr vs (musQ (opnQ s) [40])).1] ((tq n).arr vs (musQ (opnQ s) [40])).2 = b at *
              have h9 := musQ_len b.2 [41]
              split
              · rw [fauQ_ts]; omega
              · omega
        omega
      · rw [clsQ_ts]; simp only [hz]; omega

/-! names -/
/-- a name as a token has it -/
def nameB (n : List UInt8) : Bool := match n with
  | [] => false
  | c :: r => smB c && r.all inB && decide (n.length ≤ 24) && !(wordF n)
/-- what is so of each token that was read, more exactly -/
def TokN (t : Tok) : Prop := t.k = 1 → nameB t.s = true
mutual
def gT (N : Nat) : Tr → Prop
  | .mk n v ks => ((n = [] ∧ ks = [] ∧ 1 ≤ v ∧ v ≤ N) ∨ (v = 0 ∧ ((n = [45, 62] ∧ ks.length = 2) ∨ (n = [42] ∧ 2 ≤ ks.length) ∨ nameB n = true))) ∧ gTs N ks
def gTs (N : Nat) : List Tr → Prop
  | [] => True
  | t :: r => gT N t ∧ gTs N r
end
theorem gTs_mem {N : Nat} : ∀ {l : List Tr}, gTs N l ↔ ∀ t ∈ l, gT N t
  | [] => by simp [gTs]
  | t :: r => by rw [gTs, gTs_mem (l := r)]; simp
theorem hasQ_in {l : List (List UInt8)} {s : List UInt8} : hasQ l s ≤ l.length := hasQ_le l s
theorem gT_z {N : Nat} {v : Nat} (h1 : v ≠ 0) (h2 : v ≤ N) : gT N (.mk [] v []) := by
  rw [gT]
  exact ⟨.inl ⟨rfl, rfl, by omega, by omega⟩, by rw [gTs]; trivial⟩
theorem gT_n {N : Nat} {n : List UInt8} {ks : List Tr} (h : nameB n = true) (hk : gTs N ks) : gT N (.mk n 0 ks) := by
  rw [gT]
  exact ⟨.inr ⟨rfl, .inr (.inr h)⟩, hk⟩
/-- no fault behind it: so it is good, and none ahead of it -/
def Gd {α : Type} (G : α → Prop) (g : St → α × St) (n : Nat) : Prop := ∀ s, s.d ≤ 50 → 51 ≤ s.d + n → (∀ t ∈ s.ts, TokN t) → (g s).2.e = 0 → G (g s).1 ∧ (g s).2.ts <:+ s.ts
theorem suf_tl (s : St) : (tlQ s).ts <:+ s.ts := List.tail_suffix _
theorem Pst.back {s s' : St} (h : Pst s s') (he : s'.e = 0) : s.e = 0 := by
  rcases Nat.eq_zero_or_pos s.e with h0 | h0
  · exact h0
  · have := h.2.2.1 (by omega); omega
theorem musQ_suf {s : St} {u : List UInt8} : (musQ s u).ts <:+ s.ts := by
  unfold musQ
  split
  · exact suf_tl s
  · rw [fauQ_ts]; exact List.suffix_refl _
theorem toks_suf {a b : List Tok} (h : ∀ t ∈ b, TokN t) (hs : a <:+ b) : ∀ t ∈ a, TokN t := fun t ht => h t (hs.subset ht)
theorem Gd.sep {α : Type} {G : α → Prop} {g : St → α × St} {n : Nat} (hm : Mo g) (hg : Gd G g n) (u : List UInt8) : ∀ (k : Nat) (l : List α) (s : St), s.d ≤ 50 → 51 ≤ s.d + n → (∀ t ∈ s.ts, TokN t) → (∀ x ∈ l, G x) → (sepQ g u k l s).2.e = 0 → (∀ x ∈ (sepQ g u k l s).1, G x) ∧ (sepQ g u k l s).2.ts <:+ s.ts
  | 0, l, s, _, _, ht, hl, he => by rw [sepQ]; exact ⟨hl, List.suffix_refl _⟩
  | k + 1, l, s, hd, hn, ht, hl, he => by
    rw [sepQ] at he ⊢
    split at he
    · rename_i h
      rw [if_pos h]
      have h0 := (Mo.sep hm u k (l ++ [(g (tlQ s)).1]) (g (tlQ s)).2).back he
      have h1 := hg (tlQ s) hd hn (toks_suf ht (suf_tl s)) h0
      have hde := (hm (tlQ s)).1
      rw [tlQ_d] at hde
      have h2 := Gd.sep hm hg u k (l ++ [(g (tlQ s)).1]) (g (tlQ s)).2 (by omega) (by omega) (toks_suf ht (h1.2.trans (suf_tl s))) (fun x hx => by
        rcases List.mem_append.1 hx with hx | hx
        · exact hl x hx
        · obtain rfl := List.mem_singleton.1 hx; exact h1.1) he
      exact ⟨h2.1, h2.2.trans (h1.2.trans (suf_tl s))⟩
    · rename_i h
      rw [if_neg h]
      exact ⟨hl, List.suffix_refl _⟩
theorem hd_mem {s : St} (h : 0 < s.ts.length) : s.hd ∈ s.ts := by
  unfold St.hd
  cases hs : s.ts with
  | nil => rw [hs] at h; simp at h
  | cons a l => simp
theorem gT_tnm {N : Nat} : ∀ (k : Nat) (l : List Tr) (s : St), (∀ t ∈ s.ts, TokN t) → (∀ t ∈ l, gT N t) → (l.length ≤ 1 ∨ kdQ s 1 = true) → (∀ t ∈ (tnmQ k l s).1, gT N t) ∧ (tnmQ k l s).2.ts <:+ s.ts
  | 0, l, s, ht, hl, _ => by rw [tnmQ]; exact ⟨hl, List.suffix_refl _⟩
  | k + 1, l, s, ht, hl, hn => by
    rw [tnmQ]
    split
    · rename_i h
      have hh := ht _ (hd_mem (kdQ_pos h (by decide))) (kdQ_kind h).2
      have h1 := gT_tnm (N := N) k [.mk s.hd.s 0 l] (tlQ s) (toks_suf ht (suf_tl s)) (fun t hm => by obtain rfl := List.mem_singleton.1 hm; exact gT_n hh (gTs_mem.2 hl)) (.inl (by simp))
      exact ⟨h1.1, h1.2.trans (suf_tl s)⟩
    · exact ⟨hl, List.suffix_refl _⟩
theorem gT_star {N : Nat} {l : List Tr} (h : ∀ t ∈ l, gT N t) (h0 : l ≠ []) : gT N (starQ l) := by
  by_cases h1 : l.length = 1
  · obtain ⟨t, rfl⟩ := List.length_eq_one_iff.1 h1
    exact h t (by simp)
  · have h2 : 1 < l.length := by
      cases l with
      | nil => exact absurd rfl h0
      | cons a r => cases r with
        | nil => simp at h1
        | cons b r => simp
    rw [starQ_more h2, gT]
    exact ⟨.inr ⟨rfl, .inr (.inl ⟨rfl, h2⟩)⟩, gTs_mem.2 h⟩
theorem gT_all (vs : List (List UInt8)) : ∀ n, Gd (gT vs.length) ((tq n).arr vs) n ∧ Gd (gT vs.length) ((tq n).app vs) n
  | 0 => ⟨fun s hd hn => absurd hn (by omega), fun s hd hn => absurd hn (by omega)⟩
  | n + 1 => by
    obtain ⟨h1, h2⟩ := gT_all vs n
    obtain ⟨m1, m2⟩ := Mo.tq vs n
    refine ⟨fun s hd hn ht he => ?_, fun s hd hn ht he => ?_⟩
    · have he' : (arrB (tq n) vs s).2.e = 0 := he
      show gT vs.length (arrB (tq n) vs s).1 ∧ (arrB (tq n) vs s).2.ts <:+ s.ts
      have hod := opnQ_d s
      have hot := opnQ_ts s
      by_cases h0 : (opnQ s).e = 0
      · have hd5 := opnQ_ok h0
        unfold arrB at he' ⊢
        rw [if_pos h0] at he' ⊢
        dsimp only at he' ⊢
        obtain ⟨q, hq⟩ : ∃ q, q = sepQ ((tq n).app vs) [42] ((tq n).app vs (opnQ s)).2.ts.length [((tq n).app vs (opnQ s)).1] ((tq n).app vs (opnQ s)).2 := ⟨_, rfl⟩
        have hmq : Pst ((tq n).app vs (opnQ s)).2 q.2 := by rw [hq]; exact Mo.sep m2 _ _ _ _
        have hdq : q.2.d = s.d + 1 := by rw [hmq.1, (m2 _).1, hod]
        have key : q.2.e = 0 → (∀ t ∈ q.1, gT vs.length t) ∧ q.2.ts <:+ s.ts := fun hqe => by
          have hpe := hmq.back hqe
          have h3 := h2 (opnQ s) (by omega) (by omega) (by rw [hot]; exact ht) hpe
          rw [hot] at h3
          have hde := (m2 (opnQ s)).1
          rw [hq] at hqe
          have h4 := Gd.sep m2 h2 [42] _ [((tq n).app vs (opnQ s)).1] ((tq n).app vs (opnQ s)).2 (by omega) (by omega) (toks_suf ht h3.2) (fun x hx => by obtain rfl := List.mem_singleton.1 hx; exact h3.1) hqe
          rw [← hq] at h4
          exact ⟨h4.1, h4.2.trans h3.2⟩
        rw [← hq] at he' ⊢
        have hne : q.1 ≠ [] := by
          have := sep_len (g := (tq n).app vs) [42] ((tq n).app vs (opnQ s)).2.ts.length [((tq n).app vs (opnQ s)).1] ((tq n).app vs (opnQ s)).2
          rw [← hq] at this
          intro h
          rw [h] at this
          simp at this
        by_cases ha : isQ q.2 [45, 62] = true
        · rw [if_pos ha] at he' ⊢
          have hue : ((tq n).arr vs (tlQ q.2)).2.e = 0 := he'
          have hqe : q.2.e = 0 := (m1 (tlQ q.2)).back hue
          obtain ⟨hg, hs⟩ := key hqe
          have h5 := h1 (tlQ q.2) (by rw [tlQ_d]; omega) (by rw [tlQ_d]; omega) (toks_suf ht ((suf_tl _).trans hs)) hue
          refine ⟨?_, h5.2.trans ((suf_tl _).trans hs)⟩
          show gT vs.length (.mk [45, 62] 0 [starQ q.1, _])
          rw [gT]
          exact ⟨.inr ⟨rfl, .inl ⟨rfl, rfl⟩⟩, gTs_mem.2 fun t hm => by
            rcases List.mem_cons.1 hm with hm | hm
            · rw [hm]; exact gT_star hg hne
            · obtain rfl := List.mem_singleton.1 hm; exact h5.1⟩
        · rw [if_neg ha] at he' ⊢
          obtain ⟨hg, hs⟩ := key he'
          exact ⟨gT_star hg hne, hs⟩
      · exfalso
        unfold arrB at he'
        rw [if_neg h0] at he'
        exact h0 he'
    · have he' : (appB (tq n) vs s).2.e = 0 := he
      show gT vs.length (appB (tq n) vs s).1 ∧ (appB (tq n) vs s).2.ts <:+ s.ts
      have hod := opnQ_d s
      have hot := opnQ_ts s
      by_cases h0 : (opnQ s).e = 0
      · have hd5 := opnQ_ok h0
        unfold appB at he' ⊢
        rw [if_pos h0] at he' ⊢
        dsimp only at he' ⊢
        have hqe : (apbB (tq n) vs (opnQ s)).2.e = 0 := (Mo.tnm _ _ _).back he'
        have key : (∀ t ∈ (apbB (tq n) vs (opnQ s)).1, gT vs.length t) ∧ (apbB (tq n) vs (opnQ s)).2.ts <:+ s.ts ∧ ((apbB (tq n) vs (opnQ s)).1.length ≤ 1 ∨ kdQ (apbB (tq n) vs (opnQ s)).2 1 = true) := by
          unfold apbB at hqe ⊢
          by_cases c1 : kdQ (opnQ s) 3 = true
          · rw [if_pos c1] at hqe ⊢
            dsimp only at hqe ⊢
            by_cases c2 : hasQ vs (opnQ s).hd.s = 0
            · rw [if_pos c2, fauQ_z h0] at hqe; cases hqe
            · rw [if_neg c2]
              exact ⟨fun t hm => by obtain rfl := List.mem_singleton.1 hm; exact gT_z c2 hasQ_in, by have := suf_tl (opnQ s); rwa [hot] at this, .inl (by simp)⟩
          · rw [if_neg c1] at hqe ⊢
            by_cases c2 : kdQ (opnQ s) 1 = true
            · rw [if_pos c2]
              have hh := ht _ (by have := hd_mem (kdQ_pos c2 (by decide)); rwa [hot] at this) (kdQ_kind c2).2
              exact ⟨fun t hm => by obtain rfl := List.mem_singleton.1 hm; exact gT_n hh (by rw [gTs]; trivial), by have := suf_tl (opnQ s); rwa [hot] at this, .inl (by simp)⟩
            · rw [if_neg c2] at hqe ⊢
              dsimp only at hqe ⊢
              obtain ⟨b, hb⟩ : ∃ b, b = sepQ ((tq n).arr vs) [44] ((tq n).arr vs (musQ (opnQ s) [40])).2.ts.length [((tq n).arr vs (musQ (opnQ s) [40])).1] ((tq n).arr vs (musQ (opnQ s) [40])).2 := ⟨_, rfl⟩
              rw [← hb] at hqe ⊢
              have hmb : Pst ((tq n).arr vs (musQ (opnQ s) [40])).2 b.2 := by rw [hb]; exact Mo.sep m1 _ _ _ _
              have hbe : (musQ b.2 [41]).e = 0 := by
                split at hqe
                · rename_i h9; exact h9.2.1
                · exact hqe
              have hbe2 := (Pst.mus b.2 [41]).back hbe
              have hpe := hmb.back hbe2
              have hdm := musQ_d (opnQ s) [40]
              have hsm : (musQ (opnQ s) [40]).ts <:+ s.ts := by have := musQ_suf (s := opnQ s) (u := [40]); rwa [hot] at this
              have h3 := h1 (musQ (opnQ s) [40]) (by omega) (by omega) (toks_suf ht hsm) hpe
              have hde := (m1 (musQ (opnQ s) [40])).1
              rw [hb] at hbe2
              have h4 := Gd.sep m1 h1 [44] _ [((tq n).arr vs (musQ (opnQ s) [40])).1] ((tq n).arr vs (musQ (opnQ s) [40])).2 (by omega) (by omega) (toks_suf ht (h3.2.trans hsm)) (fun x hx => by obtain rfl := List.mem_singleton.1 hx; exact h3.1) hbe2
              rw [← hb] at h4
              by_cases c3 : 1 < b.1.length ∧ (musQ b.2 [41]).e = 0 ∧ kdQ (musQ b.2 [41]) 1 = false
              · rw [if_pos c3, fauQ_z c3.2.1] at hqe; cases hqe
              · rw [if_neg c3]
                refine ⟨h4.1, musQ_suf.trans (h4.2.trans (h3.2.trans hsm)), ?_⟩
                by_cases c4 : b.1.length ≤ 1
                · exact .inl c4
                · right
                  cases hk : kdQ (musQ b.2 [41]) 1 with
                  | true => rfl
                  | false => exact absurd ⟨by omega, hbe, hk⟩ c3
        have h6 := gT_tnm (N := vs.length) (apbB (tq n) vs (opnQ s)).2.ts.length (apbB (tq n) vs (opnQ s)).1 (apbB (tq n) vs (opnQ s)).2 (toks_suf ht key.2.1) key.1 key.2.2
        have hne := tnm_ne (apbB (tq n) vs (opnQ s)).2.ts.length (apbB (tq n) vs (opnQ s)).1 (apbB (tq n) vs (opnQ s)).2 (apb_ne _ _ _)
        refine ⟨?_, h6.2.trans key.2.1⟩
        cases hl : (tnmQ (apbB (tq n) vs (opnQ s)).2.ts.length (apbB (tq n) vs (opnQ s)).1 (apbB (tq n) vs (opnQ s)).2).1 with
        | nil => exact absurd hl hne
        | cons a r => exact h6.1 a (by rw [hl]; simp)
      · exfalso
        unfold appB at he'
        rw [if_neg h0] at he'
        exact h0 he'
end Go.Proofs.YtomkdhkkggbioaaGreatDoor

/-
  A type's text: its length, its tokens; these are read as the type. In plain Lean.
-/
namespace Go.Proofs.YtomkdhkkggbioaaGreatDoor
open Go
set_option linter.unusedSimpArgs false
set_option linter.unusedVariables false

def inter {α : Type} (sep : List α) : List (List α) → List α
  | [] => []
  | [x] => x
  | x :: y :: r => x ++ sep ++ inter sep (y :: r)
theorem join_inter (sep : List UInt8) : ∀ l : List (List UInt8), Lib.join l sep = inter sep l
  | [] => by simp [Lib.join, List.intercalate, inter]
  | [x] => by simp [Lib.join, List.intercalate, inter]
  | x :: y :: r => by
    have h : Lib.join (x :: y :: r) sep = x ++ sep ++ Lib.join (y :: r) sep := by simp [Lib.join, List.intercalate]
    rw [h, join_inter sep (y :: r), inter]
theorem nameB_len {n : List UInt8} (h : nameB n = true) : n.length ≤ 24 ∧ n ≠ [] ∧ n ≠ [45, 62] ∧ n ≠ [42] := by
  unfold nameB at h
  split at h
  · cases h
  · rename_i c r
    simp only [Bool.and_eq_true, decide_eq_true_eq] at h
    refine ⟨h.1.2, by simp, fun e => ?_, fun e => ?_⟩
    · injection e with e _
      subst e
      exact absurd h.1.1.1 (by decide)
    · injection e with e _
      subst e
      exact absurd h.1.1.1 (by decide)
theorem inter_len {sep : List UInt8} (hs : sep.length ≤ 3) {f : Nat} {b : Int} : ∀ ks : List Tr, (∀ k ∈ ks, (typS f k b).length + 10 ≤ 130 * szT k) → (inter sep (ks.map fun k => typS f k b)).length ≤ 130 * szTs ks
  | [], _ => by simp [inter]
  | [x], h => by
    have := h x (by simp)
    simp only [List.map_cons, List.map_nil, inter, szTs_one]
    omega
  | x :: y :: r, h => by
    have h1 := h x (by simp)
    have h2 := inter_len hs (y :: r) (fun k hk => h k (by simp [hk]))
    simp only [List.map_cons, inter, List.length_append] at h2 ⊢
    rw [szTs]
    omega
theorem typS_nil {f : Nat} {v a : Int} {ks : List Tr} : typS (f + 1) (.mk [] v ks) a = varS v := rfl
theorem typS_arr {f : Nat} {v a : Int} {k0 k1 : Tr} : typS (f + 1) (.mk [45, 62] v [k0, k1]) a = brk (decide (0 < a)) (typS f k0 1 ++ [32, 45, 62, 32] ++ typS f k1 0) := rfl
theorem typS_star {f : Nat} {v a : Int} {ks : List Tr} : typS (f + 1) (.mk [42] v ks) a = brk (decide (1 < a)) (Lib.join (ks.map fun k => typS f k 2) [32, 42, 32]) := rfl
theorem typS_bare {f : Nat} {n : List UInt8} {v a : Int} (h0 : n ≠ []) (h1 : n ≠ [45, 62]) (h2 : n ≠ [42]) : typS (f + 1) (.mk n v []) a = n := by
  unfold typS
  rw [if_neg h0, if_neg h1, if_neg h2]
theorem typS_one {f : Nat} {n : List UInt8} {v a : Int} {k0 : Tr} (h0 : n ≠ []) (h1 : n ≠ [45, 62]) (h2 : n ≠ [42]) : typS (f + 1) (.mk n v [k0]) a = typS f k0 2 ++ [32] ++ n := by
  conv => lhs; unfold typS
  rw [if_neg h0, if_neg h1, if_neg h2]
theorem typS_many {f : Nat} {n : List UInt8} {v a : Int} {k0 k1 : Tr} {r : List Tr} (h0 : n ≠ []) (h1 : n ≠ [45, 62]) (h2 : n ≠ [42]) : typS (f + 1) (.mk n v (k0 :: k1 :: r)) a = [40] ++ Lib.join ((k0 :: k1 :: r).map fun k => typS f k 0) [44, 32] ++ [41, 32] ++ n := by
  conv => lhs; unfold typS
  rw [if_neg h0, if_neg h1, if_neg h2]
theorem typ_len {N : Nat} (hN : N ≤ 1000000) : ∀ (f : Nat) (t : Tr) (a : Int), szT t ≤ f → gT N t → (typS f t a).length + 10 ≤ 130 * szT t
  | 0, t, a, h, _ => by have := szT_pos t; omega
  | f + 1, .mk n v ks, a, h, hg => by
    rw [szT] at h ⊢
    rw [gT, gTs_mem] at hg
    obtain ⟨hsh, hk⟩ := hg
    have each : ∀ b : Int, ∀ k ∈ ks, (typS f k b).length + 10 ≤ 130 * szT k := fun b k hm => typ_len hN f k b (by have := szTs_mem hm; omega) (hk k hm)
    have hj := fun (b : Int) (sep : List UInt8) (hs : sep.length ≤ 3) => inter_len hs ks (each b)
    rcases hsh with ⟨rfl, rfl, h1, h2⟩ | ⟨rfl, ⟨rfl, hl⟩ | ⟨rfl, hl⟩ | h⟩
    · have := varS_len9 (n := v) (by simp only [inK]; omega)
      rw [typS_nil]
      omega
    · obtain ⟨k0, k1, rfl⟩ : ∃ k0 k1, ks = [k0, k1] := by
        match ks, hl with
        | [a, b], _ => exact ⟨a, b, rfl⟩
      have e0 := each 1 k0 (by simp)
      have e1 := each 0 k1 (by simp)
      rw [typS_arr]
      have := brk_len (decide (0 < a)) (typS f k0 1 ++ [32, 45, 62, 32] ++ typS f k1 0)
      simp only [List.length_append, List.length_cons, List.length_nil] at this
      have e2 : szTs [k0, k1] = szT k0 + szT k1 := by rw [szTs, szTs_one]
      omega
    · rw [typS_star, join_inter]
      have := hj 2 [32, 42, 32] (by decide)
      have := brk_len (decide (1 < a)) (inter [32, 42, 32] (ks.map fun k => typS f k 2))
      omega
    · obtain ⟨hl, h0, h4, h5⟩ := nameB_len h
      match ks, each, hj with
      | [], _, _ => rw [typS_bare h0 h4 h5]; omega
      | [k0], each, _ =>
        have e0 := each 2 k0 (by simp)
        have e1 := szTs_one k0
        rw [typS_one h0 h4 h5]
        simp only [List.length_append, List.length_cons, List.length_nil]
        omega
      | k0 :: k1 :: r, _, hj =>
        have := hj 0 [44, 32] (by decide)
        rw [typS_many h0 h4 h5, join_inter]
        simp only [List.length_append, List.length_cons, List.length_nil] at this ⊢
        omega

/-! the tokens -/
def sgT (w : List UInt8) : Tok := ⟨7, w⟩
def brkT (b : Bool) (l : List Tok) : List Tok := if b = true then sgT [40] :: (l ++ [sgT [41]]) else l
def tkT : Nat → Tr → Int → List Tok
  | 0, _, _ => []
  | f + 1, .mk n v ks, a =>
    if n = [] then [⟨3, varS v⟩]
    else if n = [45, 62] then match ks with
      | [k0, k1] => brkT (decide (0 < a)) (tkT f k0 1 ++ sgT [45, 62] :: tkT f k1 0)
      | _ => []
    else if n = [42] then brkT (decide (1 < a)) (inter [sgT [42]] (ks.map fun k => tkT f k 2))
    else match ks with
      | [] => [⟨1, n⟩]
      | [k0] => tkT f k0 2 ++ [⟨1, n⟩]
      | _ => sgT [40] :: (inter [sgT [44]] (ks.map fun k => tkT f k 0) ++ [sgT [41], ⟨1, n⟩])

/-! lexing -/
def LX (s : List UInt8) (ts : List Tok) (r : List UInt8) : Prop := lexF (s ++ r) = (lexF r).map (ts ++ ·)
/-- no letter, digit nor the like stands there -/
def Stp (r : List UInt8) : Prop := ∀ c, r.head? = some c → inB c = false
theorem LX.nil (r : List UInt8) : LX [] [] r := by unfold LX; cases h : lexF r <;> simp [h, Except.map]
theorem LX.app {s1 s2 : List UInt8} {t1 t2 : List Tok} {r : List UInt8} (h1 : LX s1 t1 (s2 ++ r)) (h2 : LX s2 t2 r) : LX (s1 ++ s2) (t1 ++ t2) r := by
  unfold LX at *
  rw [List.append_assoc, h1, h2]
  cases lexF r <;> simp [Except.map]
theorem lex_ws {c : UInt8} {r : List UInt8} (h : wsB c = true) : lexF (c :: r) = lexF r := by
  have hs : skipF (c :: r) = skipF r := skipF_ws h
  cases h1 : skipF r with
  | none => rw [lexF_none h1, lexF_none (hs.trans h1)]
  | some q =>
    by_cases hq : q = []
    · subst hq; rw [lexF_end h1, lexF_end (hs.trans h1)]
    · cases ho : oneF q with
      | error e => rw [lexF_err h1 hq ho, lexF_err (hs.trans h1) hq ho]
      | ok p => obtain ⟨t, u⟩ := p; rw [lexF_step h1 hq ho, lexF_step (hs.trans h1) hq ho]
theorem LX.sp (r : List UInt8) : LX [32] [] r := by
  unfold LX
  rw [show [32] ++ r = 32 :: r from rfl, lex_ws (by decide)]
  cases lexF r <;> simp [Except.map]
theorem LX.one {c : UInt8} {l r : List UInt8} {t : Tok} (h1 : wsB c = false) (h2 : atF (c :: (l ++ r)) 0 [40, 42] = false) (h3 : oneF (c :: (l ++ r)) = .ok (t, r)) : LX (c :: l) [t] r := by
  unfold LX
  rw [List.cons_append, lexF_step (skipF_stop h1 h2) (by simp) h3]
  rfl
theorem atF_head {c d : UInt8} {l : List UInt8} (h : c ≠ d) (w : List UInt8) : atF (c :: l) 0 (d :: w) = false := by
  simp only [atF, List.drop_zero, List.length_cons, List.take_succ_cons, decide_eq_false_iff_not]
  intro e
  injection e with e _
  exact h e
theorem takeW_stop {p : UInt8 → Bool} : ∀ {l r : List UInt8}, l.all p = true → (∀ c, r.head? = some c → p c = false) → (l ++ r).takeWhile p = l ∧ (l ++ r).dropWhile p = r
  | [], r, _, h => by
    cases r with
    | nil => simp
    | cons c r => have := h c rfl; simp [List.takeWhile_cons, List.dropWhile_cons, this]
  | a :: l, r, h1, h2 => by
    simp only [List.all_cons, Bool.and_eq_true] at h1
    have := takeW_stop (l := l) h1.2 h2
    simp [List.takeWhile_cons, List.dropWhile_cons, h1.1, this]
theorem LX.name {n r : List UInt8} (h : nameB n = true) (hr : Stp r) : LX n [⟨1, n⟩] r := by
  have hn := nameB_len h
  unfold nameB at h
  split at h
  · cases h
  · rename_i c l
    simp only [Bool.and_eq_true, Bool.not_eq_true', decide_eq_true_eq] at h
    obtain ⟨⟨⟨hc, hl⟩, h24⟩, hw⟩ := h
    obtain ⟨ht, hd⟩ := takeW_stop hl hr
    have hc9 : 97 ≤ c.toNat ∧ c.toNat ≤ 122 := by simpa [smB] using hc
    refine LX.one ?_ (atF_head (fun e => by subst e; revert hc; decide) _) ?_
    · simp only [wsB, decide_eq_false_iff_not]; omega
    · rw [oneF, if_pos (by simp [hc]), ht, hd, if_neg (by omega), if_neg (by simp [hw]), if_neg (by omega), if_neg (by simp only [grB, decide_eq_true_eq]; omega)]
theorem LX.var {v : Int} {r : List UInt8} (h1 : 1 ≤ v) (h2 : v ≤ 26) (hr : Stp r) : LX (varS v) [⟨3, varS v⟩] r := by
  obtain ⟨k, rfl⟩ : ∃ k : Nat, v = (k : Int) := ⟨v.toNat, by omega⟩
  have hv : varS (k : Int) = [39, UInt8.ofNat (96 + k)] := by unfold varS; rw [if_pos ⟨h1, h2⟩]; rfl
  have hc : (UInt8.ofNat (96 + k)).toNat = 96 + k := by simp only [UInt8.toNat_ofNat']; omega
  rw [hv]
  generalize UInt8.ofNat (96 + k) = c at hc
  have hs : smB c = true := by simp only [smB, decide_eq_true_eq]; omega
  have hi : inB c = true := by simp [inB, hs]
  obtain ⟨ht, hd⟩ := takeW_stop (p := inB) (l := [c]) (r := r) (by simp [hi]) hr
  refine LX.one (by decide) (atF_head (by decide) _) ?_
  have hw : wordF [39, c] = false := by
    simp only [wordF, decide_eq_false_iff_not]
    intro hm
    simp only [wordsL, List.mem_cons, List.not_mem_nil, or_false] at hm
    simp at hm
  rw [oneF, if_pos (by decide), ht, hd]
  rw [if_neg (by simp), if_neg (by simp [hw]), if_pos (by decide), if_pos (by simp [hs])]
theorem LX.sign {c : UInt8} {l r : List UInt8} (h0 : wsB c = false) (h1 : smB c = false) (h2 : grB c = false) (h3 : c.toNat ≠ 39) (h4 : dgB c = false) (h5 : c.toNat ≠ 34) (h6 : atF (c :: (l ++ r)) 0 [40, 42] = false) (h7 : signsL.find? (fun w => atF (c :: (l ++ r)) 0 w) = some (c :: l)) : LX (c :: l) [sgT (c :: l)] r := by
  refine LX.one h0 h6 ?_
  rw [oneF, if_neg (by simp [h1, h2, h3]), if_neg (by simp [h4]), if_neg h5, h7]
  simp [sgT]
theorem LX.arrow (r : List UInt8) : LX [45, 62] [sgT [45, 62]] r := LX.sign (by decide) (by decide) (by decide) (by decide) (by decide) (by decide) (atF_head (by decide) _) (by simp [signsL, atF])
theorem LX.star (r : List UInt8) : LX [42] [sgT [42]] r := LX.sign (by decide) (by decide) (by decide) (by decide) (by decide) (by decide) (atF_head (by decide) _) (by simp [signsL, atF])
theorem LX.comma (r : List UInt8) : LX [44] [sgT [44]] r := LX.sign (by decide) (by decide) (by decide) (by decide) (by decide) (by decide) (atF_head (by decide) _) (by simp [signsL, atF])
theorem LX.shut (r : List UInt8) : LX [41] [sgT [41]] r := LX.sign (by decide) (by decide) (by decide) (by decide) (by decide) (by decide) (atF_head (by decide) _) (by simp [signsL, atF])
theorem LX.opn {r : List UInt8} (h : r.head? ≠ some 42) : LX [40] [sgT [40]] r := LX.sign (by decide) (by decide) (by decide) (by decide) (by decide) (by decide) (by
    cases r with
    | nil => decide
    | cons c r =>
      simp only [List.head?_cons, ne_eq, Option.some.injEq] at h
      simp [atF, h]) (by simp [signsL, atF])
theorem Stp.of {c : UInt8} {r : List UInt8} (h : inB c = false) : Stp (c :: r) := fun d hd => by simp at hd; subst hd; exact h
/-- a type's text begins with a letter, a quote or a bracket -/
def Bgn (s : List UInt8) : Prop := ∃ c r, s = c :: r ∧ c ≠ 42
theorem Bgn.app {s : List UInt8} (h : Bgn s) (r : List UInt8) : (s ++ r).head? ≠ some 42 := by
  obtain ⟨c, l, rfl, hc⟩ := h
  simpa using hc
theorem nameB_bgn {n : List UInt8} (h : nameB n = true) : Bgn n := by
  unfold nameB at h
  split at h
  · cases h
  · rename_i c r
    simp only [Bool.and_eq_true] at h
    exact ⟨c, r, rfl, fun e => by subst e; exact absurd h.1.1.1 (by decide)⟩
end Go.Proofs.YtomkdhkkggbioaaGreatDoor
