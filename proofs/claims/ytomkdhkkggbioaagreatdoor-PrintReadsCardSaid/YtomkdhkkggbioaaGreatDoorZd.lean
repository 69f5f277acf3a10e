/-
  Several texts put together: Pah, PaQ, Pai, Paj, Pak, Pal.
-/
import Derived.Test.YtomkdhkkggbioaaGreatDoorZc
/-
 The reference's parser: what is open already, of an expression.
-/
namespace Go.Proofs.YtomkdhkkggbioaaGreatDoor
open Go
set_option linter.unusedSimpArgs false
set_option linter.unusedVariables false

theorem etupQ_one (t : Ex) : etupQ [t] = t := rfl
theorem etupQ_more {l : List Ex} (h : l.length ≠ 1) : etupQ l = .mk 7 [] 0 false [] l := by
 match l, h with
 | [], _ => rfl
 | a :: b :: r, _ => rfl
set_option maxHeartbeats 4000000 in
theorem thing_ok {n : Nat} (ihE : PC 59 (eq9 n).expr n) (ihO : PC 88 (eq9 n).one n) (ihA : PC 141 (eq9 n).atom n) : PC 151 (thgB (eq9 n)) n := by
 intro w r B0 A s hp hd hn
 obtain ⟨hI1, hI2, hI3, hI4, hI5⟩ := hp.I
 refine enterRet (vs := [_]) (N := 125) Tryz.func151 rfl rfl rfl ?_
 have hU := Upd.refl (At r) w
 refine WC.keep [(0, _)] ⟨rfl, trivial⟩ (WC.seq (WC.region (WL.cons (SO.alloc rfl rfl rfl rfl (r_alloc rfl zero_36) ?_))))
 intro w1 hu1 hB1 hz1
 have hs1 := hu1.size
 replace hU := hU.trans hu1 (by exact (fun _ _ h => h.elim))
 replace hp := hp.upd hu1 (by exact (fun _ _ h => h))
 refine WL.nil (WX.keep [(0, _), (2, _)] ⟨rfl, rfl, trivial⟩ (WX.next (WC.seq (WC.block (WC.seq (WC.region (WL.val rfl rfl rfl rfl (r_move rfl (ev_t rfl)) ?_)))))))
 refine WL.cons (SO.call (kind_ok (k := 4) hp) rfl body_32 ⟨(ev_t rfl), ev_c, trivial⟩ rfl rfl rfl rfl ?_)
 rintro v9 w2 ⟨rfl, hu2⟩
 have hs2 := hu2.size
 replace hU := hU.trans hu2 (by exact (fun _ _ h => h.elim))
 replace hp := hp.upd hu2 (by exact (fun _ _ h => h))
 replace hB1 := hB1.upd hu2 (by exact (fun h => h))
 refine WL.val rfl rfl rfl rfl (r_assign rfl (ev_t rfl)) ?_
 refine WL.nil (WX.keep [(0, _), (2, _), (9, _)] ⟨rfl, rfl, rfl, trivial⟩ (WX.next (WC.cond rfl (ev_t rfl) (fun hc1 => ?_) (fun hc1 => ?_))))
 ·refine WC.seq ?_
  have hpD := hp
  refine WC.region (WL.val rfl rfl rfl rfl (r_move rfl (ev_t rfl)) ?_)
  refine WL.cons (SO.call (text_ok9 (k := 4) hp (by decide)) rfl body_82 ⟨(ev_t rfl), ev_c, trivial⟩ rfl rfl rfl rfl ?_)
  rintro v9 w3 ⟨rfl, hp2, hu3⟩
  have hs3 := hu3.size
  replace hU := hU.trans hu3 (by exact (fun _ _ h => h))
  replace hB1 := hB1.upd hu3 (by (simp only [At]; omega))
  have hp := hp2
  have hdg := hpD.digits
  refine WL.cons (SO.call (lnumber_ok (by omega) hdg.1) rfl body_80 ⟨(ev_t rfl), trivial⟩ rfl rfl rfl rfl ?_)
  rintro v9 w4 ⟨rfl, hu4⟩
  have hs4 := hu4.size
  replace hU := hU.trans hu4 (by exact (fun _ _ h => h.elim))
  replace hB1 := hB1.upd hu4 (by exact (fun h => h))
  replace hp := hp.upd hu4 (by exact (fun _ _ h => h))
  refine WL.val rfl rfl rfl rfl (r_move rfl (ev_t rfl)) ?_
  refine WL.val rfl rfl rfl rfl (r_extract rfl (ev_t rfl) rfl) ?_
  refine WL.val rfl rfl rfl rfl (r_extract rfl (ev_t rfl) rfl) ?_
  refine WL.val rfl rfl rfl rfl (r_assign rfl (ev_t rfl)) ?_
  refine WL.val rfl rfl rfl rfl (r_assign rfl (ev_t rfl)) ?_
  refine WL.nil (WX.keep [(2, _), (3, _)] ⟨rfl, rfl, trivial⟩ ?_)
  have hnV := numV_in (txtQ (s) 4).1
  change (0 : Int) ≤ (((numF 0 (txtQ (s) 4).1).getD 0 : Nat) : Int) ∧ (((numF 0 (txtQ (s) 4).1).getD 0 : Nat) : Int) ≤ 4611686018427387903 at hnV
  refine WX.next (WC.seq (WC.region (WL.val rfl rfl rfl rfl (r_move rfl (ev_t rfl)) ?_)))
  refine WL.val rfl rfl rfl rfl (r_build (cs := #[_, _, _, _, _, _]) (vs := [(0, _), (2, _)]) rfl ⟨⟨rfl, ev_c⟩, ⟨rfl, (ev_t rfl)⟩, trivial⟩ plc_36 zero_36 rfl) ?_
  refine WL.cons (SO.storeAll (us := [_, _, _, _, _, _]) rfl (ev_t rfl) (ev_t rfl) size_36 hB1 rfl rfl rfl rfl rfl ?_)
  intro w5 hu5 hB1 hz5
  have hs5 := hu5.size
  replace hU := hU.trans hu5 (by (intro k hl hk; (try simp only [At, New, Grow, From, No] at hk ⊢); omega))
  replace hp := hp.upd hu5 (by (intro k hk hS; first | (simp only [At] at hS; omega) | (have := hG k hS; omega)))
  refine WL.nil (WX.keep [(2, _)] ⟨rfl, trivial⟩ (WX.next (WC.ret (WX.blockRet (WX.thenRet (WX.retC (vs := [_, _, _, _, _, _]) rfl rfl agg_36 size_36 (Blk.cellsL hB1) ?_))))))
  rw [txtQ_T hc1]
  rw [txtQ_T hc1] at hp hnV
  have he9 : thgB (eq9 n) s = (Ex.mk 1 [] (numV s.hd.s) false [] [], tlQ s) := by unfold thgB; rw [if_pos hc1]
  rw [he9]
  exact ⟨_, rfl, TM.ex0 (numV_inK _), hp, Pst.tl _, hU⟩
 ·refine WC.seq (WC.region (WL.val rfl rfl rfl rfl (r_move rfl (ev_t rfl)) ?_))
  refine WL.cons (SO.call (kind_ok (k := 5) hp) rfl body_32 ⟨(ev_t rfl), ev_c, trivial⟩ rfl rfl rfl rfl ?_)
  rintro v9 w6 ⟨rfl, hu6⟩
  have hs6 := hu6.size
  replace hU := hU.trans hu6 (by exact (fun _ _ h => h.elim))
  replace hp := hp.upd hu6 (by exact (fun _ _ h => h))
  replace hB1 := hB1.upd hu6 (by exact (fun h => h))
  refine WL.val rfl rfl rfl rfl (r_assign rfl (ev_t rfl)) ?_
  refine WL.nil (WX.keep [(0, _), (2, _), (20, _)] ⟨rfl, rfl, rfl, trivial⟩ (WX.next (WC.cond rfl (ev_t rfl) (fun hc4 => ?_) (fun hc4 => ?_))))
  ·refine WC.seq (WC.region (WL.val rfl rfl rfl rfl (r_move rfl (ev_t rfl)) ?_))
   refine WL.cons (SO.call (text_ok9 (k := 5) hp (by decide)) rfl body_82 ⟨(ev_t rfl), ev_c, trivial⟩ rfl rfl rfl rfl ?_)
   rintro v9 w7 ⟨rfl, hp2, hu7⟩
   have hs7 := hu7.size
   replace hU := hU.trans hu7 (by exact (fun _ _ h => h))
   replace hB1 := hB1.upd hu7 (by (simp only [At]; omega))
   have hp := hp2
   rw [txtQ_T hc4]
   replace hp : PS w7 r B0 A (tlQ s) := by rw [txtQ_T hc4] at hp; exact hp
   refine WL.val rfl rfl rfl rfl (r_build (cs := #[_, _, _, _, _, _]) (vs := [(0, _), (1, _)]) rfl ⟨⟨rfl, ev_c⟩, ⟨rfl, (ev_t rfl)⟩, trivial⟩ plc_36 zero_36 rfl) ?_
   refine WL.cons (SO.storeAll (us := [_, _, _, _, _, _]) rfl (ev_t rfl) (ev_t rfl) size_36 hB1 rfl rfl rfl rfl rfl ?_)
   intro w8 hu8 hB1 hz8
   have hs8 := hu8.size
   replace hU := hU.trans hu8 (by (intro k hl hk; (try simp only [At, New, Grow, From, No] at hk ⊢); omega))
   replace hp := hp.upd hu8 (by (intro k hk hS; first | (simp only [At] at hS; omega) | (have := hG k hS; omega)))
   refine WL.nil (WX.keep [(2, _)] ⟨rfl, trivial⟩ (WX.next (WC.ret (WX.blockRet (WX.thenRet (WX.retC (vs := [_, _, _, _, _, _]) rfl rfl agg_36 size_36 (Blk.cellsL hB1) ?_))))))
   have he9 : thgB (eq9 n) s = (Ex.mk 2 s.hd.s 0 false [] [], tlQ s) := by unfold thgB; rw [if_neg (by simp [hc1]), if_pos hc4]
   rw [he9]
   exact ⟨_, rfl, TM.ex0 (by simp [inK]), hp, Pst.tl _, hU⟩
  ·refine WC.seq (WC.region (WL.val rfl rfl rfl rfl (r_move rfl (ev_t rfl)) ?_))
   refine WL.cons (SO.call (kind_ok (k := 1) hp) rfl body_32 ⟨(ev_t rfl), ev_c, trivial⟩ rfl rfl rfl rfl ?_)
   rintro v9 w9 ⟨rfl, hu9⟩
   have hs9 := hu9.size
   replace hU := hU.trans hu9 (by exact (fun _ _ h => h.elim))
   replace hp := hp.upd hu9 (by exact (fun _ _ h => h))
   replace hB1 := hB1.upd hu9 (by exact (fun h => h))
   refine WL.val rfl rfl rfl rfl (r_assign rfl (ev_t rfl)) ?_
   refine WL.nil (WX.keep [(0, _), (2, _), (26, _)] ⟨rfl, rfl, rfl, trivial⟩ (WX.next (WC.cond rfl (ev_t rfl) (fun hc6 => ?_) (fun hc6 => ?_))))
   ·refine WC.seq (WC.region (WL.val rfl rfl rfl rfl (r_move rfl (ev_t rfl)) ?_))
    refine WL.cons (SO.call (text_ok9 (k := 1) hp (by decide)) rfl body_82 ⟨(ev_t rfl), ev_c, trivial⟩ rfl rfl rfl rfl ?_)
    rintro v9 w10 ⟨rfl, hp2, hu10⟩
    have hs10 := hu10.size
    replace hU := hU.trans hu10 (by exact (fun _ _ h => h))
    replace hB1 := hB1.upd hu10 (by (simp only [At]; omega))
    have hp := hp2
    rw [txtQ_T hc6]
    replace hp : PS w10 r B0 A (tlQ s) := by rw [txtQ_T hc6] at hp; exact hp
    refine WL.val rfl rfl rfl rfl (r_build (cs := #[_, _, _, _, _, _]) (vs := [(0, _), (1, _)]) rfl ⟨⟨rfl, ev_c⟩, ⟨rfl, (ev_t rfl)⟩, trivial⟩ plc_36 zero_36 rfl) ?_
    refine WL.cons (SO.storeAll (us := [_, _, _, _, _, _]) rfl (ev_t rfl) (ev_t rfl) size_36 hB1 rfl rfl rfl rfl rfl ?_)
    intro w11 hu11 hB1 hz11
    have hs11 := hu11.size
    replace hU := hU.trans hu11 (by (intro k hl hk; (try simp only [At, New, Grow, From, No] at hk ⊢); omega))
    replace hp := hp.upd hu11 (by (intro k hk hS; first | (simp only [At] at hS; omega) | (have := hG k hS; omega)))
    refine WL.nil (WX.keep [(2, _)] ⟨rfl, trivial⟩ (WX.next (WC.ret (WX.blockRet (WX.thenRet (WX.retC (vs := [_, _, _, _, _, _]) rfl rfl agg_36 size_36 (Blk.cellsL hB1) ?_))))))
    have he9 : thgB (eq9 n) s = (Ex.mk 5 s.hd.s 0 false [] [], tlQ s) := by unfold thgB; rw [if_neg (by simp [hc1]), if_neg (by simp [hc4]), if_pos hc6]
    rw [he9]
    exact ⟨_, rfl, TM.ex0 (by simp [inK]), hp, Pst.tl _, hU⟩
   ·refine WC.seq (WC.region (WL.val rfl rfl rfl rfl (r_move rfl (ev_t rfl)) ?_))
    refine WL.cons (SO.call (kind_ok (k := 2) hp) rfl body_32 ⟨(ev_t rfl), ev_c, trivial⟩ rfl rfl rfl rfl ?_)
    rintro v9 w12 ⟨rfl, hu12⟩
    have hs12 := hu12.size
    replace hU := hU.trans hu12 (by exact (fun _ _ h => h.elim))
    replace hp := hp.upd hu12 (by exact (fun _ _ h => h))
    replace hB1 := hB1.upd hu12 (by exact (fun h => h))
    refine WL.val rfl rfl rfl rfl (r_assign rfl (ev_t rfl)) ?_
    refine WL.nil (WX.keep [(0, _), (2, _), (32, _)] ⟨rfl, rfl, rfl, trivial⟩ (WX.next (WC.cond rfl (ev_t rfl) (fun hc8 => ?_) (fun hc8 => ?_))))
    ·refine WC.seq (WC.region (WL.val rfl rfl rfl rfl (r_move rfl (ev_t rfl)) ?_))
     refine WL.cons (SO.call (text_ok9 (k := 2) hp (by decide)) rfl body_82 ⟨(ev_t rfl), ev_c, trivial⟩ rfl rfl rfl rfl ?_)
     rintro v9 w13 ⟨rfl, hp2, hu13⟩
     have hs13 := hu13.size
     replace hU := hU.trans hu13 (by exact (fun _ _ h => h))
     replace hB1 := hB1.upd hu13 (by (simp only [At]; omega))
     have hp := hp2
     rw [txtQ_T hc8]
     replace hp : PS w13 r B0 A (tlQ s) := by rw [txtQ_T hc8] at hp; exact hp
     refine WL.val rfl rfl rfl rfl (r_build (cs := #[_, _, _, _, _, _]) (vs := [(0, _), (1, _)]) rfl ⟨⟨rfl, ev_c⟩, ⟨rfl, (ev_t rfl)⟩, trivial⟩ plc_36 zero_36 rfl) ?_
     refine WL.cons (SO.storeAll (us := [_, _, _, _, _, _]) rfl (ev_t rfl) (ev_t rfl) size_36 hB1 rfl rfl rfl rfl rfl ?_)
     intro w14 hu14 hB1 hz14
     have hs14 := hu14.size
     replace hU := hU.trans hu14 (by (intro k hl hk; (try simp only [At, New, Grow, From, No] at hk ⊢); omega))
     replace hp := hp.upd hu14 (by (intro k hk hS; first | (simp only [At] at hS; omega) | (have := hG k hS; omega)))
     refine WL.nil (WX.keep [(2, _)] ⟨rfl, trivial⟩ (WX.next (WC.ret (WX.blockRet (WX.thenRet (WX.retC (vs := [_, _, _, _, _, _]) rfl rfl agg_36 size_36 (Blk.cellsL hB1) ?_))))))
     have he9 : thgB (eq9 n) s = (Ex.mk 6 s.hd.s 0 false [] [], tlQ s) := by unfold thgB; rw [if_neg (by simp [hc1]), if_neg (by simp [hc4]), if_neg (by simp [hc6]), if_pos hc8]
     rw [he9]
     exact ⟨_, rfl, TM.ex0 (by simp [inK]), hp, Pst.tl _, hU⟩
    ·refine WC.seq (WC.region (WL.val rfl rfl rfl rfl (r_move rfl (ev_t rfl)) ?_))
     refine WL.cons (SO.call (take_ok (u := [116, 114, 117, 101]) hp) rfl body_31 ⟨(ev_t rfl), ev_c, trivial⟩ rfl rfl rfl rfl ?_)
     rintro v9 w15 ⟨rfl, hp2, hu15⟩
     have hs15 := hu15.size
     replace hU := hU.trans hu15 (by exact (fun _ _ h => h))
     replace hB1 := hB1.upd hu15 (by (simp only [At]; omega))
     have hp := hp2
     refine WL.val rfl rfl rfl rfl (r_assign rfl (ev_t rfl)) ?_
     refine WL.nil (WX.keep [(0, _), (2, _), (38, _)] ⟨rfl, rfl, rfl, trivial⟩ (WX.next (WC.cond rfl (ev_t rfl) (fun hc10 => ?_) (fun hc10 => ?_))))
     ·rw [takQ_T hc10] at hp
      refine WC.seq (WC.region (WL.val rfl rfl rfl rfl (r_build (cs := #[_, _, _, _, _, _]) (vs := [(0, _), (2, _)]) rfl ⟨⟨rfl, ev_c⟩, ⟨rfl, ev_c⟩, trivial⟩ plc_36 zero_36 rfl) ?_))
      refine WL.cons (SO.storeAll (us := [_, _, _, _, _, _]) rfl (ev_t rfl) (ev_t rfl) size_36 hB1 rfl rfl rfl rfl rfl ?_)
      intro w16 hu16 hB1 hz16
      have hs16 := hu16.size
      replace hU := hU.trans hu16 (by (intro k hl hk; (try simp only [At, New, Grow, From, No] at hk ⊢); omega))
      replace hp := hp.upd hu16 (by (intro k hk hS; first | (simp only [At] at hS; omega) | (have := hG k hS; omega)))
      refine WL.nil (WX.keep [(2, _)] ⟨rfl, trivial⟩ (WX.next (WC.ret (WX.blockRet (WX.thenRet (WX.retC (vs := [_, _, _, _, _, _]) rfl rfl agg_36 size_36 (Blk.cellsL hB1) ?_))))))
      have he9 : thgB (eq9 n) s = (Ex.mk 3 [] 1 false [] [], tlQ s) := by unfold thgB; rw [if_neg (by simp [hc1]), if_neg (by simp [hc4]), if_neg (by simp [hc6]), if_neg (by simp [hc8]), if_pos hc10]
      rw [he9]
      exact ⟨_, rfl, TM.ex0 (by simp [inK]), hp, Pst.tl _, hU⟩
     ·rw [takQ_F hc10] at hp
      refine WC.seq (WC.region (WL.val rfl rfl rfl rfl (r_move rfl (ev_t rfl)) ?_))
      refine WL.cons (SO.call (take_ok (u := [102, 97, 108, 115, 101]) hp) rfl body_31 ⟨(ev_t rfl), ev_c, trivial⟩ rfl rfl rfl rfl ?_)
      rintro v9 w17 ⟨rfl, hp2, hu17⟩
      have hs17 := hu17.size
      replace hU := hU.trans hu17 (by exact (fun _ _ h => h))
      replace hB1 := hB1.upd hu17 (by (simp only [At]; omega))
      have hp := hp2
      refine WL.val rfl rfl rfl rfl (r_assign rfl (ev_t rfl)) ?_
      refine WL.nil (WX.keep [(0, _), (2, _), (42, _)] ⟨rfl, rfl, rfl, trivial⟩ (WX.next (WC.cond rfl (ev_t rfl) (fun hc12 => ?_) (fun hc12 => ?_))))
      ·rw [takQ_T hc12] at hp
       refine WC.seq (WC.region (WL.val rfl rfl rfl rfl (r_build (cs := #[_, _, _, _, _, _]) (vs := [(0, _)]) rfl ⟨⟨rfl, ev_c⟩, trivial⟩ plc_36 zero_36 rfl) ?_))
       refine WL.cons (SO.storeAll (us := [_, _, _, _, _, _]) rfl (ev_t rfl) (ev_t rfl) size_36 hB1 rfl rfl rfl rfl rfl ?_)
       intro w18 hu18 hB1 hz18
       have hs18 := hu18.size
       replace hU := hU.trans hu18 (by (intro k hl hk; (try simp only [At, New, Grow, From, No] at hk ⊢); omega))
       replace hp := hp.upd hu18 (by (intro k hk hS; first | (simp only [At] at hS; omega) | (have := hG k hS; omega)))
       refine WL.nil (WX.keep [(2, _)] ⟨rfl, trivial⟩ (WX.next (WC.ret (WX.blockRet (WX.thenRet (WX.retC (vs := [_, _, _, _, _, _]) rfl rfl agg_36 size_36 (Blk.cellsL hB1) ?_))))))
       have he9 : thgB (eq9 n) s = (Ex.mk 3 [] 0 false [] [], tlQ s) := by unfold thgB; rw [if_neg (by simp [hc1]), if_neg (by simp [hc4]), if_neg (by simp [hc6]), if_neg (by simp [hc8]), if_neg (by simp [hc10]), if_pos hc12]
       rw [he9]
       exact ⟨_, rfl, TM.ex0 (by simp [inK]), hp, Pst.tl _, hU⟩
      ·rw [takQ_F hc12] at hp
       refine WC.seq (WC.region (WL.val rfl rfl rfl rfl (r_move rfl (ev_t rfl)) ?_))
       refine WL.cons (SO.call (take_ok (u := [33]) hp) rfl body_31 ⟨(ev_t rfl), ev_c, trivial⟩ rfl rfl rfl rfl ?_)
       rintro v9 w19 ⟨rfl, hp2, hu19⟩
       have hs19 := hu19.size
       replace hU := hU.trans hu19 (by exact (fun _ _ h => h))
       replace hB1 := hB1.upd hu19 (by (simp only [At]; omega))
       have hp := hp2
       refine WL.val rfl rfl rfl rfl (r_assign rfl (ev_t rfl)) ?_
       refine WL.nil (WX.keep [(0, _), (2, _), (46, _)] ⟨rfl, rfl, rfl, trivial⟩ (WX.next (WC.cond rfl (ev_t rfl) (fun hc14 => ?_) (fun hc14 => ?_))))
       ·rw [takQ_T hc14] at hp
        refine WC.seq (WC.region (WL.val rfl rfl rfl rfl (r_move rfl (ev_t rfl)) ?_))
        refine WL.cons (SO.call (ihA _ _ _ _ _ hp (by (try simp only [tlQ_d, musQ_d, takQ_d, txtQ_d]); omega) (by (try simp only [tlQ_d, musQ_d, takQ_d, txtQ_d]); omega)) rfl body_141 ⟨(ev_t rfl), trivial⟩ rfl rfl rfl rfl ?_)
        rintro v9 w20 ⟨c9, rfl, ht, hp2, hst, hu20⟩
        have hs20 := hu20.size
        replace hU := hU.trans hu20 (by exact (fun _ _ h => h))
        replace hB1 := hB1.upd hu20 (by (simp only [At]; omega))
        have hp := hp2
        have hsd := hst.1
        try simp only [tlQ_d, musQ_d, takQ_d, txtQ_d] at hsd
        obtain ⟨tk, ts, tn, trc, tps, tks, tA9, tp9, tA, tp, tys, txs, het, rfl, _⟩ := ht.mk6
        refine WL.cons (SO.alloc rfl rfl rfl rfl (r_buildSlice6 rfl (ev_t rfl) row_34) ?_)
        intro w21 hu21 hB21 hz21
        have hs21 := hu21.size
        replace hU := hU.trans hu21 (by exact (fun _ _ h => h.elim))
        replace hB1 := hB1.upd hu21 (by exact (fun h => h))
        replace hp := hp.upd hu21 (by exact (fun _ _ h => h))
        replace ht := ht.upd hu21 (fun k hk hl hS => by exact (show False from hS).elim)
        have hrow := hB21
        change Blk _ _ #[.int .u8 (tk : Int), Sv ts, .int .i64 tn, .bool trc, .slice tA9 tps.length tp9, .slice tA tks.length tp] _ at hrow
        refine WL.val rfl rfl rfl rfl (r_build (cs := #[_, _, _, _, _, _]) (vs := [(0, _), (5, _)]) rfl ⟨⟨rfl, ev_c⟩, ⟨rfl, (ev_t rfl)⟩, trivial⟩ plc_36 zero_36 rfl) ?_
        refine WL.cons (SO.storeAll (us := [_, _, _, _, _, _]) rfl (ev_t rfl) (ev_t rfl) size_36 hB1 rfl rfl rfl rfl rfl ?_)
        intro w22 hu22 hB1 hz22
        have hs22 := hu22.size
        replace hU := hU.trans hu22 (by (intro k hl hk; (try simp only [At, New, Grow, From, No] at hk ⊢); omega))
        replace hp := hp.upd hu22 (by (intro k hk hS; first | (simp only [At] at hS; omega) | (have := hG k hS; omega)))
        replace ht := ht.upd hu22 (fun k hk hl hS => by (simp only [At, Bt] at hS hk; omega))
        replace hrow := hrow.updA hu22
        refine WL.nil (WX.keep [(2, _)] ⟨rfl, trivial⟩ (WX.next (WC.ret (WX.blockRet (WX.thenRet (WX.retC (vs := [_, _, _, _, _, _]) rfl rfl agg_36 size_36 (Blk.cellsL hB1) ?_))))))
        have he9 : thgB (eq9 n) s = (Ex.mk 19 [] 0 false [] [((eq9 n).atom (tlQ s)).1], ((eq9 n).atom (tlQ s)).2) := by unfold thgB; rw [if_neg (by simp [hc1]), if_neg (by simp [hc4]), if_neg (by simp [hc6]), if_neg (by simp [hc8]), if_neg (by simp [hc10]), if_neg (by simp [hc12]), if_pos hc14]
        rw [he9]
        exact ⟨_, rfl, TM.exK (xs := [[_, _, _, _, _, _]]) (Rd.of_blk (F := Bt _ _) (n := 1) (sz := 6) hrow (by have := hrow.lt; simp only [Bt]; omega) rfl (by omega)) (Ms.cons (ht.mono fun k hk => by simp only [Bt] at *; omega) (Ms.nil _ _)) (by simp [inK]), hp, (Pst.tl _).trans hst, hU⟩
       ·rw [takQ_F hc14] at hp
        refine WC.seq (WC.region (WL.val rfl rfl rfl rfl (r_move rfl (ev_t rfl)) ?_))
        refine WL.cons (SO.call (take_ok (u := [40]) hp) rfl body_31 ⟨(ev_t rfl), ev_c, trivial⟩ rfl rfl rfl rfl ?_)
        rintro v9 w23 ⟨rfl, hp2, hu23⟩
        have hs23 := hu23.size
        replace hU := hU.trans hu23 (by exact (fun _ _ h => h))
        replace hB1 := hB1.upd hu23 (by (simp only [At]; omega))
        have hp := hp2
        refine WL.val rfl rfl rfl rfl (r_assign rfl (ev_t rfl)) ?_
        refine WL.nil (WX.keep [(0, _), (2, _), (53, _)] ⟨rfl, rfl, rfl, trivial⟩ (WX.next (WC.cond rfl (ev_t rfl) (fun hc16 => ?_) (fun hc16 => ?_))))
        ·rw [takQ_T hc16] at hp
         refine WC.seq (WC.seq (WC.region (WL.val rfl rfl rfl rfl (r_move rfl (ev_t rfl)) ?_)))
         refine WL.cons (SO.call (take_ok (u := [41]) hp) rfl body_31 ⟨(ev_t rfl), ev_c, trivial⟩ rfl rfl rfl rfl ?_)
         rintro v9 w24 ⟨rfl, hp2, hu24⟩
         have hs24 := hu24.size
         replace hU := hU.trans hu24 (by exact (fun _ _ h => h))
         replace hB1 := hB1.upd hu24 (by (simp only [At]; omega))
         have hp := hp2
         refine WL.nil (WX.keep [(0, _), (2, _), (57, _)] ⟨rfl, rfl, rfl, trivial⟩ (WX.next (WC.cond rfl (ev_t rfl) (fun hc17 => ?_) (fun hc17 => ?_))))
         ·rw [takQ_T hc17] at hp
          refine WC.seq (WC.region (WL.val rfl rfl rfl rfl (r_build (cs := #[_, _, _, _, _, _]) (vs := [(0, _)]) rfl ⟨⟨rfl, ev_c⟩, trivial⟩ plc_36 zero_36 rfl) ?_))
          refine WL.cons (SO.storeAll (us := [_, _, _, _, _, _]) rfl (ev_t rfl) (ev_t rfl) size_36 hB1 rfl rfl rfl rfl rfl ?_)
          intro w25 hu25 hB1 hz25
          have hs25 := hu25.size
          replace hU := hU.trans hu25 (by (intro k hl hk; (try simp only [At, New, Grow, From, No] at hk ⊢); omega))
          replace hp := hp.upd hu25 (by (intro k hk hS; first | (simp only [At] at hS; omega) | (have := hG k hS; omega)))
          refine WL.nil (WX.keep [(2, _)] ⟨rfl, trivial⟩ (WX.next (WC.ret (WX.thenRet (WX.blockRet (WX.thenRet (WX.retC (vs := [_, _, _, _, _, _]) rfl rfl agg_36 size_36 (Blk.cellsL hB1) ?_)))))))
          have he9 : thgB (eq9 n) s = (Ex.mk 4 [] 0 false [] [], tlQ (tlQ s)) := by unfold thgB; rw [if_neg (by simp [hc1]), if_neg (by simp [hc4]), if_neg (by simp [hc6]), if_neg (by simp [hc8]), if_neg (by simp [hc10]), if_neg (by simp [hc12]), if_neg (by simp [hc14]), if_pos hc16, if_pos hc17]
          rw [he9]
          exact ⟨_, rfl, TM.ex0 (by simp [inK]), hp, (Pst.tl _).trans (Pst.tl _), hU⟩
         ·rw [takQ_F hc17] at hp
          refine WC.skip (WX.next (WC.seq ?_))
          obtain ⟨g, hg⟩ : ∃ g, g = (eq9 n).expr := ⟨_, rfl⟩
          refine WC.region (WL.val rfl rfl rfl rfl (r_move rfl (ev_t rfl)) ?_)
          refine WL.cons (SO.call (ihE _ _ _ _ _ hp (by (try simp only [tlQ_d, musQ_d, takQ_d, txtQ_d]); omega) (by (try simp only [tlQ_d, musQ_d, takQ_d, txtQ_d]); omega)) rfl body_59 ⟨(ev_t rfl), trivial⟩ rfl rfl rfl rfl ?_)
          rintro v9 w26 ⟨c9, rfl, ht, hp2, hst, hu26⟩
          have hs26 := hu26.size
          replace hU := hU.trans hu26 (by exact (fun _ _ h => h))
          replace hB1 := hB1.upd hu26 (by (simp only [At]; omega))
          have hp := hp2
          have hsd := hst.1
          try simp only [tlQ_d, musQ_d, takQ_d, txtQ_d] at hsd
          rw [← hg] at ht hp hst
          obtain ⟨tk, ts, tn, trc, tps, tks, tA9, tp9, tA, tp, tys, txs, het, rfl, _⟩ := ht.mk6
          refine WL.cons (SO.alloc rfl rfl rfl rfl (r_buildSlice6 rfl (ev_t rfl) row_34) ?_)
          intro w27 hu27 hB27 hz27
          have hs27 := hu27.size
          replace hU := hU.trans hu27 (by exact (fun _ _ h => h.elim))
          replace hB1 := hB1.upd hu27 (by exact (fun h => h))
          replace hp := hp.upd hu27 (by exact (fun _ _ h => h))
          replace ht := ht.upd hu27 (fun k hk hl hS => by exact (show False from hS).elim)
          refine WL.val rfl rfl rfl rfl (r_assign rfl (ev_t rfl)) ?_
          refine WL.nil (WX.keep [(0, _), (2, _), (5, _)] ⟨rfl, rfl, rfl, trivial⟩ ?_)
          have hrow := hB27
          change Blk _ _ #[.int .u8 (tk : Int), Sv ts, .int .i64 tn, .bool trc, .slice tA9 tps.length tp9, .slice tA tks.length tp] _ at hrow
          have hac : Acc 36 w27 (w.heap.size + 1) _ _ [(g (tlQ s)).1] := Acc.single hrow rfl ht (fun k hk => by simp only [Bt] at hk; omega) (by omega)
          have hPst := (Pst.tl s).trans hst
          have htl := tlQ_len s
          refine WX.next (WC.seq (WC.block ?_))
          -- loop 1: live [0, 2, 5]
          refine WC.keep [(0, _), (2, _), (5, _)] ⟨rfl, rfl, rfl, trivial⟩ (WC.loop (fun qq E wA => ∃ (s1 : St) (ks : List Ex) (G : Nat → Prop) (v1 : Value) (k1 : Nat), qq = k1 ∧ s1.ts.length ≤ k1 ∧ Upd (At r) w wA ∧ PS wA r B0 A s1 ∧ Pst s s1 ∧ Acc 36 wA (w.heap.size + 1) G v1 ks ∧ 0 < ks.length ∧ ks.length + s1.ts.length ≤ 2100 ∧ sepQ g [44] (g (tlQ s)).2.ts.length [(g (tlQ s)).1] (g (tlQ s)).2 = sepQ g [44] k1 ks s1 ∧ Blk wA w.heap.size #[.int .u8 0, .string ⟨#[]⟩, .int .i64 0, .bool false, .slice none 0 0, .slice none 0 0] 36 ∧ E = [(0, (.pointer (some ⟨r, 0, none⟩))), (2, .pointer (some ⟨w.heap.size, 0, none⟩)), (5, v1)]) ((g (tlQ s)).2.ts.length) ?_ ?_)
          ·exact ⟨_, _, _, _, _, rfl, Nat.le_refl _, hU, hp, hPst, hac, by simp, by have := hst.2.1; simp only [List.length_cons, List.length_nil]; omega, rfl, hB1, rfl⟩
          ·clear hU hp hPst hac hB1 hst ht hrow hsd
           rintro qq E wA ⟨s1, ks, G, v1, k1, rfl, hk1, hU, hp, hPst, hac, hk0, hkl, hsep, hB1, rfl⟩
           obtain ⟨A1, c1, rfl, hcc1⟩ := hac.form
           have hG := hac.lt
           have hI := hp.I
           have hsC := hU.size
           have hlt1 := hB1.lt
           have hd1 := hPst.1
           refine WC.seq (WC.seq (WC.region (WL.val rfl rfl rfl rfl (r_move rfl (ev_t rfl)) ?_)))
           refine WL.cons (SO.call (take_ok (u := [44]) hp) rfl body_31 ⟨(ev_t rfl), ev_c, trivial⟩ rfl rfl rfl rfl ?_)
           rintro v9 w28 ⟨rfl, hp2, hu28⟩
           have hs28 := hu28.size
           replace hU := hU.trans hu28 (by exact (fun _ _ h => h))
           replace hac := hac.upd hu28 (fun k hk hl hS => by (simp only [At] at hS; omega))
           replace hB1 := hB1.upd hu28 (by (simp only [At]; omega))
           have hp := hp2
           refine WL.nil (WX.keep [(0, _), (2, _), (5, _), (63, _)] ⟨rfl, rfl, rfl, rfl, trivial⟩ (WX.next (WC.cond rfl (ev_t rfl) (fun hc20 => ?_) (fun hc20 => ?_))))
           ·rw [takQ_T hc20] at hp
            obtain ⟨k2, rfl⟩ : ∃ k2, qq = k2 + 1 := ⟨qq - 1, by omega⟩
            rw [sepQ_step hc20] at hsep
            have htl1 := tlQ_len s1
            refine WC.skip (WX.next (WC.block (WC.region (WL.val rfl rfl rfl rfl (r_move rfl (ev_t rfl)) ?_))))
            refine WL.val rfl rfl rfl rfl (r_move rfl (ev_t rfl)) ?_
            refine WL.cons (SO.call (ihE _ _ _ _ _ hp (by (try simp only [tlQ_d, musQ_d, takQ_d, txtQ_d]); omega) (by (try simp only [tlQ_d, musQ_d, takQ_d, txtQ_d]); omega)) rfl body_59 ⟨(ev_t rfl), trivial⟩ rfl rfl rfl rfl ?_)
            rintro v9 w29 ⟨c9, rfl, ht, hp2, hst, hu29⟩
            have hs29 := hu29.size
            replace hU := hU.trans hu29 (by exact (fun _ _ h => h))
            replace hac := hac.upd hu29 (fun k hk hl hS => by (simp only [At] at hS; omega))
            replace hB1 := hB1.upd hu29 (by (simp only [At]; omega))
            have hp := hp2
            have hsd := hst.1
            try simp only [tlQ_d, musQ_d, takQ_d, txtQ_d] at hsd
            rw [← hg] at ht hp hst
            obtain ⟨tk, ts, tn, trc, tps, tks, tA9, tp9, tA, tp, tys, txs, het, rfl, _⟩ := ht.mk6
            refine WL.cons (SO.alloc rfl rfl rfl rfl (r_buildSlice6 rfl (ev_t rfl) row_34) ?_)
            intro w30 hu30 hB30 hz30
            have hs30 := hu30.size
            replace hU := hU.trans hu30 (by exact (fun _ _ h => h.elim))
            replace hac := hac.upd hu30 (fun k hk hl hS => by exact (show False from hS).elim)
            replace hB1 := hB1.upd hu30 (by exact (fun h => h))
            replace hp := hp.upd hu30 (by exact (fun _ _ h => h))
            replace ht := ht.upd hu30 (fun k hk hl hS => by exact (show False from hS).elim)
            refine WL.cons (SO.appendA hac ht (fun k hk => ⟨fun hG9 => by have := hG _ hG9; simp only [Bt] at hk; omega, by simp only [Bt] at hk; omega⟩) (Rd.of_blk (F := At _) (n := 1) (sz := 6) hB30 rfl rfl (by omega)) row_34 (by omega) rfl rfl (ev_t rfl) (ev_t rfl) rfl rfl rfl rfl ?_ (by omega))
            intro v5 w31 hac2 hu31 hBw
            have hs31 := hu31.size
            replace hU := hU.trans hu31 (by (intro k hl hk; first | exact hk | exact (show False from hk).elim | (have := hG k hk; omega) | (simp only [At] at *; exfalso; omega)))
            replace hB1 := hB1.upd hu31 (by (intro hS; have := hG _ hS; omega))
            replace hp := hp.upd hu31 (by (intro k hk hS; first | (simp only [At] at hS; omega) | (have := hG k hS; omega)))
            refine WL.val rfl rfl rfl rfl (r_assign rfl (ev_t rfl)) ?_
            refine WL.nil (WX.keep [(0, _), (2, _), (5, _)] ⟨rfl, rfl, rfl, trivial⟩ (WX.blockNormal (WX.meet [(0, _), (2, _), (5, _)] ⟨rfl, rfl, rfl, trivial⟩ ?_)))
            refine ⟨k2, by omega, _, _, _, _, _, rfl, by have := hst.2.1; omega, hU, hp, hPst.trans ((Pst.tl _).trans hst), hac2, by simp, ?_, hsep, hB1, rfl⟩
            have := hst.2.1
            simp only [List.length_append, List.length_cons, List.length_nil]
            omega
           ·rw [takQ_F hc20] at hp
            rw [sepQ_stop hc20] at hsep
            obtain ⟨xs, hrx, hmx⟩ := hac.done (by omega)
            obtain ⟨b1, o1, rfl, _⟩ := hrx.open hk0
            refine WC.exit (WX.thenExit (WX.thenExit (WX.blockHere (WX.next (WC.seq (WC.region (WL.val rfl rfl rfl rfl (r_move rfl (ev_t rfl)) ?_)))))))
            refine WL.cons (SO.call (must_ok (u := [41]) hp) rfl body_84 ⟨(ev_t rfl), ev_c, trivial⟩ rfl rfl rfl rfl ?_)
            rintro v9 w32 ⟨hp2, hu32⟩
            have hs32 := hu32.size
            replace hU := hU.trans hu32 (by exact (fun _ _ h => h))
            replace hB1 := hB1.upd hu32 (by (simp only [At]; omega))
            replace hrx := hrx.upd hu32 (fun k hk hl hS => by (simp only [At, Bt] at hS hk; omega))
            replace hmx := hmx.upd hu32 (fun k hk hl hS => by (simp only [At, Bt] at hS hk; omega))
            have hp := hp2
            have hPst := hPst.trans (Pst.mus s1 [41])
            have he9 : thgB (eq9 n) s = (etupQ ks, musQ s1 [41]) := by
             unfold thgB
             rw [if_neg (by simp [hc1]), if_neg (by simp [hc4]), if_neg (by simp [hc6]), if_neg (by simp [hc8]), if_neg (by simp [hc10]), if_neg (by simp [hc12]), if_neg (by simp [hc14]), if_pos hc16, if_neg (by simp [hc17]), ← hg]
             simp only
             rw [hsep]
            refine WL.nil (WX.keep [(2, _), (5, _)] ⟨rfl, rfl, trivial⟩ (WX.next (WC.seq (WC.seq (WC.region (WL.val rfl rfl rfl rfl (r_move rfl (ev_t rfl)) ?_))))))
            refine WL.val rfl rfl rfl rfl (r_lenSlice (ts := #[]) rfl (ev_t rfl) elem_34) ?_
            refine WL.val rfl rfl rfl rfl (r_eql rfl (ev_t rfl) ev_c) ?_
            refine WL.nil (WX.keep [(2, _), (5, _), (73, _)] ⟨rfl, rfl, rfl, trivial⟩ (WX.next (WC.cond rfl (ev_t rfl) (fun hc23 => ?_) (fun hc23 => ?_))))
            ·try simp only [cS, ne_eq, Decidable.not_not] at hc23
             refine WC.seq ?_
             obtain ⟨k0, rfl⟩ := List.length_eq_one_iff.1 (show ks.length = 1 by omega)
             obtain ⟨c0, hx0, ht0⟩ := hmx.get (i := 0) (k := k0) rfl
             obtain ⟨tk, ts, tn, trc, tps, tks, tA9, tp9, tA, tp, tys, txs, het, rfl, _⟩ := ht0.mk6
             refine WC.region (WL.val rfl rfl rfl rfl (r_move rfl (ev_t rfl)) ?_)
             refine WL.val rfl rfl rfl rfl (r_indexAddr rfl (ev_t rfl) ev_c elem_34 size_36 (by omega) (by omega)) ?_
             refine WL.val rfl rfl rfl rfl (r_loadAgg (vs := [_, _, _, _, _, _]) rfl (ev_t rfl) agg_36 size_36 (Rd.cellsL (us := [_, _, _, _, _, _]) hrx (i := 0 * 6) (by omega) (fun q v hv => flat_getN hmx.one_len hx0 hv))) ?_
             refine WL.cons (SO.storeAll (us := [_, _, _, _, _, _]) rfl (ev_t rfl) (ev_t rfl) size_36 hB1 rfl rfl rfl rfl rfl ?_)
             intro w33 hu33 hB1 hz33
             have hs33 := hu33.size
             replace hU := hU.trans hu33 (by (intro k hl hk; (try simp only [At, New, Grow, From, No] at hk ⊢); omega))
             replace hrx := hrx.upd hu33 (fun k hk hl hS => by (simp only [At, Bt] at hS hk; omega))
             replace hmx := hmx.upd hu33 (fun k hk hl hS => by (simp only [At, Bt] at hS hk; omega))
             replace hp := hp.upd hu33 (by (intro k hk hS; first | (simp only [At] at hS; omega) | (have := hG k hS; omega)))
             replace ht0 := ht0.upd hu33 (fun k hk hl hS => by (simp only [At, Bt] at hS hk; omega))
             refine WL.nil (WX.keep [(2, _)] ⟨rfl, trivial⟩ (WX.next (WC.ret (WX.thenRet (WX.blockRet (WX.thenRet (WX.retC (vs := [_, _, _, _, _, _]) rfl rfl agg_36 size_36 (Blk.cellsL hB1) ?_)))))))
             rw [he9, etupQ_one]
             exact ⟨_, rfl, ht0.mono fun k hk => by simp only [Bt] at *; omega, hp, hPst, hU⟩
            ·try simp only [cS, ne_eq, Decidable.not_not] at hc23
             refine WC.skip (WX.next (WC.seq (WC.region (WL.val rfl rfl rfl rfl (r_move rfl (ev_t rfl)) ?_))))
             refine WL.val rfl rfl rfl rfl (r_build (cs := #[_, _, _, _, _, _]) (vs := [(0, _), (5, _)]) rfl ⟨⟨rfl, ev_c⟩, ⟨rfl, (ev_t rfl)⟩, trivial⟩ plc_36 zero_36 rfl) ?_
             refine WL.cons (SO.storeAll (us := [_, _, _, _, _, _]) rfl (ev_t rfl) (ev_t rfl) size_36 hB1 rfl rfl rfl rfl rfl ?_)
             intro w34 hu34 hB1 hz34
             have hs34 := hu34.size
             replace hU := hU.trans hu34 (by (intro k hl hk; (try simp only [At, New, Grow, From, No] at hk ⊢); omega))
             replace hrx := hrx.upd hu34 (fun k hk hl hS => by (simp only [At, Bt] at hS hk; omega))
             replace hmx := hmx.upd hu34 (fun k hk hl hS => by (simp only [At, Bt] at hS hk; omega))
             replace hp := hp.upd hu34 (by (intro k hk hS; first | (simp only [At] at hS; omega) | (have := hG k hS; omega)))
             refine WL.nil (WX.keep [(2, _)] ⟨rfl, trivial⟩ (WX.next (WC.ret (WX.blockRet (WX.thenRet (WX.retC (vs := [_, _, _, _, _, _]) rfl rfl agg_36 size_36 (Blk.cellsL hB1) ?_))))))
             rw [he9, etupQ_more (by omega)]
             exact ⟨_, rfl, TM.exK (hrx.mono fun k hk => by simp only [Bt] at *; omega) (hmx.mono fun k hk => by simp only [Bt] at *; omega) (by simp [inK]), hp, hPst, hU⟩
        ·rw [takQ_F hc16] at hp
         refine WC.seq (WC.region (WL.val rfl rfl rfl rfl (r_move rfl (ev_t rfl)) ?_))
         refine WL.cons (SO.call (take_ok (u := [91]) hp) rfl body_31 ⟨(ev_t rfl), ev_c, trivial⟩ rfl rfl rfl rfl ?_)
         rintro v9 w35 ⟨rfl, hp2, hu35⟩
         have hs35 := hu35.size
         replace hU := hU.trans hu35 (by exact (fun _ _ h => h))
         replace hB1 := hB1.upd hu35 (by (simp only [At]; omega))
         have hp := hp2
         refine WL.val rfl rfl rfl rfl (r_assign rfl (ev_t rfl)) ?_
         refine WL.nil (WX.keep [(0, _), (2, _), (79, _)] ⟨rfl, rfl, rfl, trivial⟩ (WX.next (WC.cond rfl (ev_t rfl) (fun hc26 => ?_) (fun hc26 => ?_))))
         ·rw [takQ_T hc26] at hp
          refine WC.seq ?_
          obtain ⟨g, hg⟩ : ∃ g, g = (eq9 n).one := ⟨_, rfl⟩
          have htl := tlQ_len s
          refine WC.region (WL.val rfl rfl rfl rfl (r_assign rfl ev_c) ?_)
          refine WL.nil (WX.keep [(0, _), (2, _), (6, _)] ⟨rfl, rfl, rfl, trivial⟩ ?_)
          have hac : Acc 36 w35 (w.heap.size + 1) No (.slice none 0 0) ([] : List Ex) := Acc.nil _ _
          refine WX.next ?_
          -- cut 28: live [2, 6]
          refine WC.cut (fun E wA => ∃ (s2 : St) (ks : List Ex) (G : Nat → Prop) (v1 : Value), lstQ g ((tlQ s).ts.length + 2) [] (tlQ s) = (ks, s2) ∧ Upd (At r) w wA ∧ PS wA r B0 A s2 ∧ Pst s s2 ∧ Acc 36 wA (w.heap.size + 1) G v1 ks ∧ ks.length ≤ 2100 ∧ Blk wA w.heap.size #[.int .u8 0, .string ⟨#[]⟩, .int .i64 0, .bool false, .slice none 0 0, .slice none 0 0] 36 ∧ E = [(2, .pointer (some ⟨w.heap.size, 0, none⟩)), (6, v1)]) ?_ ?_
          ·refine WC.block ?_
           -- loop 2: live [0, 2, 6]
           refine WC.keep [(0, _), (2, _), (6, _)] ⟨rfl, rfl, rfl, trivial⟩ (WC.loop (fun qq E wA => ∃ (s1 : St) (ks : List Ex) (G : Nat → Prop) (v1 : Value) (k1 : Nat), qq = lstM ks.length s1 ∧ lstM ks.length s1 ≤ k1 ∧ Upd (At r) w wA ∧ PS wA r B0 A s1 ∧ Pst s s1 ∧ Acc 36 wA (w.heap.size + 1) G v1 ks ∧ ks.length + lstM ks.length s1 ≤ 2100 ∧ lstQ g ((tlQ s).ts.length + 2) [] (tlQ s) = lstQ g k1 ks s1 ∧ Blk wA w.heap.size #[.int .u8 0, .string ⟨#[]⟩, .int .i64 0, .bool false, .slice none 0 0, .slice none 0 0] 36 ∧ E = [(0, (.pointer (some ⟨r, 0, none⟩))), (2, .pointer (some ⟨w.heap.size, 0, none⟩)), (6, v1)]) (lstM 0 (tlQ s)) ?_ ?_)
           ·exact ⟨_, _, _, _, _, rfl, by unfold lstM; split <;> split <;> omega, hU, hp, Pst.tl _, hac, by unfold lstM; simp only [List.length_nil]; split <;> split <;> omega, rfl, hB1, rfl⟩
           ·clear hU hp hac hB1
            rintro qq E wA ⟨s1, ks, G, v1, k1, rfl, hk1, hU, hp, hPst, hac, hkl, hlst, hB1, rfl⟩
            obtain ⟨A1, c1, rfl, hcc1⟩ := hac.form
            have hG := hac.lt
            have hI := hp.I
            have hsC := hU.size
            have hlt1 := hB1.lt
            have hd1 := hPst.1
            have hkl9 : ks.length ≤ 2100 := by omega
            refine WC.seq (WC.seq (WC.region ?_))
            obtain ⟨FD, bD, offD, cD, zD, badD, hbD, hzD, hrD, hFD, hID⟩ := hp.open
            refine WL.val rfl rfl rfl rfl (r_move rfl (ev_t rfl)) ?_
            refine WL.val rfl rfl rfl rfl (r_nilCheck rfl (ev_t rfl)) ?_
            refine WL.val rfl rfl rfl rfl (r_field0 rfl (ev_t rfl) fld_58_4) ?_
            refine WL.val rfl rfl rfl rfl (r_load rfl (ev_t rfl) flat_3 (Blk.cell hbD rfl)) ?_
            refine WL.val rfl rfl rfl rfl (r_eql rfl (ev_t rfl) ev_c) ?_
            refine WL.val rfl rfl rfl rfl (r_move rfl (ev_t rfl)) ?_
            refine WL.cases 87 rfl (fun hb28_5 => ?_) (fun hb28_5 => ?_)
            ·try simp only [cS, ne_eq, Decidable.not_not] at hb28_5
             refine WL.val rfl rfl rfl rfl (r_move rfl (ev_t rfl)) ?_
             refine WL.cons (SO.call (take_ok (u := [93]) hp) rfl body_31 ⟨(ev_t rfl), ev_c, trivial⟩ rfl rfl rfl rfl ?_)
             rintro v9 w36 ⟨rfl, hp2, hu36⟩
             have hs36 := hu36.size
             replace hU := hU.trans hu36 (by exact (fun _ _ h => h))
             replace hac := hac.upd hu36 (fun k hk hl hS => by (simp only [At] at hS; omega))
             replace hB1 := hB1.upd hu36 (by (simp only [At]; omega))
             have hp := hp2
             refine WL.val rfl rfl rfl rfl (r_not rfl (ev_t rfl)) ?_
             refine WL.val rfl rfl rfl rfl (r_pickT rfl (ev_t rfl) (ev_t rfl)) ?_
             refine WL.nil (WX.keep [(0, _), (2, _), (6, _), (91, _)] ⟨rfl, rfl, rfl, rfl, trivial⟩ (WX.next (WC.cond rfl (ev_t rfl) (fun hc28 => ?_) (fun hc28 => ?_))))
             ·try simp only [cS, ne_eq, Decidable.not_not] at hc28
              have he0 : s1.e = 0 := by omega
              have hq9 : isQ s1 [93] = false := by simpa using hc28
              rw [takQ_F hq9] at hp
              obtain ⟨k2, rfl⟩ : ∃ k2, k1 = k2 + 1 := ⟨k1 - 1, by have := lstM_pos (n := ks.length) hI.1; omega⟩
              rw [lstQ_step he0 hq9] at hlst
              refine WC.skip (WX.next (WC.block (WC.seq (WC.seq (WC.region (WL.val rfl rfl rfl rfl (r_move rfl (ev_t rfl)) ?_))))))
              refine WL.val rfl rfl rfl rfl (r_lenSlice (ts := #[]) rfl (ev_t rfl) elem_34) ?_
              refine WL.val rfl rfl rfl rfl (r_gtr rfl (ev_t rfl) ev_c) ?_
              refine WL.nil (WX.keep [(0, _), (2, _), (6, _), (94, _)] ⟨rfl, rfl, rfl, rfl, trivial⟩ (WX.next (WC.cond rfl (ev_t rfl) (fun hc29 => ?_) (fun hc29 => ?_))))
              ·try simp only [cS, ne_eq, Decidable.not_not] at hc29
               refine WC.region (WL.val rfl rfl rfl rfl (r_move rfl (ev_t rfl)) ?_)
               refine WL.cons (SO.call (must_ok (u := [59]) hp) rfl body_84 ⟨(ev_t rfl), ev_c, trivial⟩ rfl rfl rfl rfl ?_)
               rintro v9 w37 ⟨hp2, hu37⟩
               have hs37 := hu37.size
               replace hU := hU.trans hu37 (by exact (fun _ _ h => h))
               replace hac := hac.upd hu37 (fun k hk hl hS => by (simp only [At] at hS; omega))
               replace hB1 := hB1.upd hu37 (by (simp only [At]; omega))
               have hp := hp2
               have hs9 : (if ks.length = 0 then s1 else musQ s1 [59]) = musQ s1 [59] := if_neg (by omega)
               have hs9d : (musQ s1 [59]).d = s.d := by rw [musQ_d]; exact hd1
               rw [← hs9] at hp hs9d
               refine WL.nil (WX.keep [(0, _), (2, _), (6, _)] ⟨rfl, rfl, rfl, trivial⟩ (WX.next (WC.region (WL.val rfl rfl rfl rfl (r_move rfl (ev_t rfl)) ?_))))
               refine WL.val rfl rfl rfl rfl (r_move rfl (ev_t rfl)) ?_
               refine WL.cons (SO.call (ihO _ _ _ _ _ hp (by (try simp only [tlQ_d, musQ_d, takQ_d, txtQ_d]); omega) (by (try simp only [tlQ_d, musQ_d, takQ_d, txtQ_d]); omega)) rfl body_88 ⟨(ev_t rfl), trivial⟩ rfl rfl rfl rfl ?_)
               rintro v9 w38 ⟨c9, rfl, ht, hp2, hst, hu38⟩
               have hs38 := hu38.size
               replace hU := hU.trans hu38 (by exact (fun _ _ h => h))
               replace hac := hac.upd hu38 (fun k hk hl hS => by (simp only [At] at hS; omega))
               replace hB1 := hB1.upd hu38 (by (simp only [At]; omega))
               have hp := hp2
               have hsd := hst.1
               try simp only [tlQ_d, musQ_d, takQ_d, txtQ_d] at hsd
               rw [← hg] at ht hp hst
               obtain ⟨tk, ts, tn, trc, tps, tks, tA9, tp9, tA, tp, tys, txs, het, rfl, _⟩ := ht.mk6
               refine WL.cons (SO.alloc rfl rfl rfl rfl (r_buildSlice6 rfl (ev_t rfl) row_34) ?_)
               intro w39 hu39 hB39 hz39
               have hs39 := hu39.size
               replace hU := hU.trans hu39 (by exact (fun _ _ h => h.elim))
               replace hac := hac.upd hu39 (fun k hk hl hS => by exact (show False from hS).elim)
               replace hB1 := hB1.upd hu39 (by exact (fun h => h))
               replace hp := hp.upd hu39 (by exact (fun _ _ h => h))
               replace ht := ht.upd hu39 (fun k hk hl hS => by exact (show False from hS).elim)
               refine WL.cons (SO.appendA hac ht (fun k hk => ⟨fun hG9 => by have := hG _ hG9; simp only [Bt] at hk; omega, by simp only [Bt] at hk; omega⟩) (Rd.of_blk (F := At _) (n := 1) (sz := 6) hB39 rfl rfl (by omega)) row_34 (by omega) rfl rfl (ev_t rfl) (ev_t rfl) rfl rfl rfl rfl ?_ (by omega))
               intro v5 w40 hac2 hu40 hBw
               have hs40 := hu40.size
               replace hU := hU.trans hu40 (by (intro k hl hk; first | exact hk | exact (show False from hk).elim | (have := hG k hk; omega) | (simp only [At] at *; exfalso; omega)))
               replace hB1 := hB1.upd hu40 (by (intro hS; have := hG _ hS; omega))
               replace hp := hp.upd hu40 (by (intro k hk hS; first | (simp only [At] at hS; omega) | (have := hG k hS; omega)))
               refine WL.val rfl rfl rfl rfl (r_assign rfl (ev_t rfl)) ?_
               refine WL.nil (WX.keep [(0, _), (2, _), (6, _)] ⟨rfl, rfl, rfl, trivial⟩ (WX.blockNormal (WX.meet [(0, _), (2, _), (6, _)] ⟨rfl, rfl, rfl, trivial⟩ ?_)))
               have hM := lstM_step (n := ks.length) he0 hI.1 hst
               have hP9 : Pst s1 (if ks.length = 0 then s1 else musQ s1 [59]) := by rw [hs9]; first | exact Pst.refl _ | exact Pst.mus _ _
               refine ⟨_, ?_, _, _, _, _, k2, rfl, ?_, hU, hp, hPst.trans (hP9.trans hst), hac2, ?_, hlst, hB1, rfl⟩
               ·rw [List.length_append, List.length_singleton]
                omega
               ·rw [List.length_append, List.length_singleton]
                omega
               ·rw [List.length_append, List.length_singleton]
                omega
              ·try simp only [cS, ne_eq, Decidable.not_not] at hc29
               have hs9 : (if ks.length = 0 then s1 else musQ s1 [59]) = s1 := if_pos (by omega)
               have hs9d : s1.d = s.d := hd1
               rw [← hs9] at hp hs9d
               refine WC.skip (WX.next (WC.region (WL.val rfl rfl rfl rfl (r_move rfl (ev_t rfl)) ?_)))
               refine WL.val rfl rfl rfl rfl (r_move rfl (ev_t rfl)) ?_
               refine WL.cons (SO.call (ihO _ _ _ _ _ hp (by (try simp only [tlQ_d, musQ_d, takQ_d, txtQ_d]); omega) (by (try simp only [tlQ_d, musQ_d, takQ_d, txtQ_d]); omega)) rfl body_88 ⟨(ev_t rfl), trivial⟩ rfl rfl rfl rfl ?_)
               rintro v9 w41 ⟨c9, rfl, ht, hp2, hst, hu41⟩
               have hs41 := hu41.size
               replace hU := hU.trans hu41 (by exact (fun _ _ h => h))
               replace hac := hac.upd hu41 (fun k hk hl hS => by (simp only [At] at hS; omega))
               replace hB1 := hB1.upd hu41 (by (simp only [At]; omega))
               have hp := hp2
               have hsd := hst.1
               try simp only [tlQ_d, musQ_d, takQ_d, txtQ_d] at hsd
               rw [← hg] at ht hp hst
               obtain ⟨tk, ts, tn, trc, tps, tks, tA9, tp9, tA, tp, tys, txs, het, rfl, _⟩ := ht.mk6
               refine WL.cons (SO.alloc rfl rfl rfl rfl (r_buildSlice6 rfl (ev_t rfl) row_34) ?_)
               intro w42 hu42 hB42 hz42
               have hs42 := hu42.size
               replace hU := hU.trans hu42 (by exact (fun _ _ h => h.elim))
               replace hac := hac.upd hu42 (fun k hk hl hS => by exact (show False from hS).elim)
               replace hB1 := hB1.upd hu42 (by exact (fun h => h))
               replace hp := hp.upd hu42 (by exact (fun _ _ h => h))
               replace ht := ht.upd hu42 (fun k hk hl hS => by exact (show False from hS).elim)
               refine WL.cons (SO.appendA hac ht (fun k hk => ⟨fun hG9 => by have := hG _ hG9; simp only [Bt] at hk; omega, by simp only [Bt] at hk; omega⟩) (Rd.of_blk (F := At _) (n := 1) (sz := 6) hB42 rfl rfl (by omega)) row_34 (by omega) rfl rfl (ev_t rfl) (ev_t rfl) rfl rfl rfl rfl ?_ (by omega))
               intro v5 w43 hac2 hu43 hBw
               have hs43 := hu43.size
               replace hU := hU.trans hu43 (by (intro k hl hk; first | exact hk | exact (show False from hk).elim | (have := hG k hk; omega) | (simp only [At] at *; exfalso; omega)))
               replace hB1 := hB1.upd hu43 (by (intro hS; have := hG _ hS; omega))
               replace hp := hp.upd hu43 (by (intro k hk hS; first | (simp only [At] at hS; omega) | (have := hG k hS; omega)))
               refine WL.val rfl rfl rfl rfl (r_assign rfl (ev_t rfl)) ?_
               refine WL.nil (WX.keep [(0, _), (2, _), (6, _)] ⟨rfl, rfl, rfl, trivial⟩ (WX.blockNormal (WX.meet [(0, _), (2, _), (6, _)] ⟨rfl, rfl, rfl, trivial⟩ ?_)))
               have hM := lstM_step (n := ks.length) he0 hI.1 hst
               have hP9 : Pst s1 (if ks.length = 0 then s1 else musQ s1 [59]) := by rw [hs9]; first | exact Pst.refl _ | exact Pst.mus _ _
               refine ⟨_, ?_, _, _, _, _, k2, rfl, ?_, hU, hp, hPst.trans (hP9.trans hst), hac2, ?_, hlst, hB1, rfl⟩
               ·rw [List.length_append, List.length_singleton]
                omega
               ·rw [List.length_append, List.length_singleton]
                omega
               ·rw [List.length_append, List.length_singleton]
                omega
             ·try simp only [cS, ne_eq, Decidable.not_not] at hc28
              refine WC.exit (WX.thenExit (WX.thenExit (WX.blockHere (WX.meet [(2, _), (6, _)] ⟨rfl, rfl, trivial⟩ ?_))))
              first
               | (have he0 : s1.e = 0 := by omega
                  have hq9 : isQ s1 [93] = true := by simpa using hc28
                  rw [takQ_T hq9] at hp
                  obtain ⟨k2, rfl⟩ : ∃ k2, k1 = k2 + 1 := ⟨k1 - 1, by have := lstM_pos (n := ks.length) hI.1; omega⟩
                  rw [lstQ_shut he0 hq9] at hlst
                  exact ⟨_, _, _, _, hlst, hU, hp, hPst.trans (Pst.tl _), hac, hkl9, hB1, rfl⟩)
               | (have he1 : s1.e ≠ 0 := by omega
                  rw [lstQ_stop (s := s1) he1] at hlst
                  exact ⟨_, _, _, _, hlst, hU, hp, hPst, hac, hkl9, hB1, rfl⟩)
            ·try simp only [cS, ne_eq, Decidable.not_not] at hb28_5
             refine WL.skip rfl rfl rfl (WL.skip rfl rfl rfl (WL.skip rfl rfl rfl (WL.val rfl rfl rfl rfl (r_pickF rfl (ev_t rfl) ev_c) ?_)))
             refine WL.nil (WX.keep [(0, _), (2, _), (6, _), (91, _)] ⟨rfl, rfl, rfl, rfl, trivial⟩ (WX.next (WC.cond_false rfl (ev_t rfl) ?_)))
             refine WC.exit (WX.thenExit (WX.thenExit (WX.blockHere (WX.meet [(2, _), (6, _)] ⟨rfl, rfl, trivial⟩ ?_))))
             first
              | (have he0 : s1.e = 0 := by omega
                 have hq9 : isQ s1 [93] = true := by simpa using hc28
                 rw [takQ_T hq9] at hp
                 obtain ⟨k2, rfl⟩ : ∃ k2, k1 = k2 + 1 := ⟨k1 - 1, by have := lstM_pos (n := ks.length) hI.1; omega⟩
                 rw [lstQ_shut he0 hq9] at hlst
                 exact ⟨_, _, _, _, hlst, hU, hp, hPst.trans (Pst.tl _), hac, hkl9, hB1, rfl⟩)
              | (have he1 : s1.e ≠ 0 := by omega
                 rw [lstQ_stop (s := s1) he1] at hlst
                 exact ⟨_, _, _, _, hlst, hU, hp, hPst, hac, hkl9, hB1, rfl⟩)
          ·clear hU hp hac hB1
           rintro E wA ⟨s2, ks, G, v1, hlst, hU, hp, hPst, hac, hkl, hB1, rfl⟩
           obtain ⟨A1, c1, rfl, hcc1⟩ := hac.form
           have hsA := hU.size
           have hlt1 := hB1.lt
           obtain ⟨xs, hrx, hmx⟩ := hac.done (by omega)
           have he9 : thgB (eq9 n) s = (ks.foldr (fun a x => .mk 9 [] 0 false [] [a, x]) (.mk 8 [] 0 false [] []), s2) := by
            unfold thgB
            rw [if_neg (by simp [hc1]), if_neg (by simp [hc4]), if_neg (by simp [hc6]), if_neg (by simp [hc8]), if_neg (by simp [hc10]), if_neg (by simp [hc12]), if_neg (by simp [hc14]), if_neg (by simp [hc16]), if_pos hc26, ← hg]
            simp only
            rw [hlst]
           refine WC.seq (WC.region (WL.val rfl rfl rfl rfl (r_build (cs := #[_, _, _, _, _, _]) (vs := [(0, _)]) rfl ⟨⟨rfl, ev_c⟩, trivial⟩ plc_36 zero_36 rfl) ?_))
           refine WL.cons (SO.alloc rfl rfl rfl rfl (r_alloc rfl zero_36) ?_)
           intro w44 hu44 hB44 hz44
           have hs44 := hu44.size
           replace hU := hU.trans hu44 (by exact (fun _ _ h => h.elim))
           replace hp := hp.upd hu44 (by exact (fun _ _ h => h))
           replace hrx := hrx.upd hu44 (fun k hk hl hS => by exact (show False from hS).elim)
           replace hmx := hmx.upd hu44 (fun k hk hl hS => by exact (show False from hS).elim)
           replace hB1 := hB1.upd hu44 (by exact (fun h => h))
           refine WL.cons (SO.storeAll (us := [_, _, _, _, _, _]) rfl (ev_t rfl) (ev_t rfl) size_36 hB44 rfl rfl rfl rfl rfl ?_)
           intro w45 hu45 hB44 hz45
           have hs45 := hu45.size
           replace hU := hU.trans hu45 (by (intro k hl hk; (try simp only [At, New, Grow, From, No] at hk ⊢); omega))
           replace hp := hp.upd hu45 (by (intro k hk hS; first | (simp only [At] at hS; omega) | (have := hG k hS; omega)))
           replace hrx := hrx.upd hu45 (fun k hk hl hS => by (simp only [At, Bt] at hS hk; omega))
           replace hmx := hmx.upd hu45 (fun k hk hl hS => by (simp only [At, Bt] at hS hk; omega))
           replace hB1 := hB1.upd hu45 (by (simp only [At]; omega))
           refine WL.nil (WX.keep [(2, _), (6, _), (7, _)] ⟨rfl, rfl, rfl, trivial⟩ ?_)
           have hb9 := hB44
           change Blk _ _ #[.int .u8 8, .string ⟨#[]⟩, .int .i64 0, .bool false, .slice none 0 0, .slice none 0 0] _ at hb9
           have hz9 : wA.heap.size < w45.heap.size := hb9.lt
           refine WX.next (WC.seq (WC.seq (WC.region (WL.val rfl rfl rfl rfl (r_move rfl (ev_t rfl)) ?_))))
           refine WL.val rfl rfl rfl rfl (r_lenSlice (ts := #[]) rfl (ev_t rfl) elem_34) ?_
           refine WL.val rfl rfl rfl rfl (r_subN rfl (ev_t rfl) ev_c (by simp only [inK]; omega)) ?_
           refine WL.val rfl rfl rfl rfl (r_assign rfl (ev_t rfl)) ?_
           refine WL.nil (WX.keep [(2, _), (6, _), (7, _), (8, _)] ⟨rfl, rfl, rfl, rfl, trivial⟩ (WX.next (WC.block ?_)))
           -- loop 3: live [2, 6, 7, 8]
           refine WC.keep [(2, _), (6, _), (7, _), (8, _)] ⟨rfl, rfl, rfl, rfl, trivial⟩ (WC.loop (fun qq E wB => ∃ (j : Nat) (y0 y1 y2 y3 y4 y5 : Value), j ≤ ks.length ∧ qq = j ∧ Upd (At r) w wB ∧ PS wB r B0 A s2 ∧ Rd wB (Bt (w.heap.size + 1) wA.heap.size) (.slice A1 ks.length c1) ks.length 6 (xs.flatMap id) ∧ Ms wB (Bt (w.heap.size + 1) wA.heap.size) xs ks ∧ TM wB (fun k => Bt (w.heap.size + 1) wB.heap.size k ∧ k ≠ wA.heap.size) [y0, y1, y2, y3, y4, y5] ((ks.drop j).foldr (fun a x => Ex.mk 9 [] 0 false [] [a, x]) (Ex.mk 8 [] 0 false [] [])) ∧ Blk wB w.heap.size #[.int .u8 0, .string ⟨#[]⟩, .int .i64 0, .bool false, .slice none 0 0, .slice none 0 0] 36 ∧ Blk wB wA.heap.size #[y0, y1, y2, y3, y4, y5] 36 ∧ E = [(2, .pointer (some ⟨w.heap.size, 0, none⟩)), (6, .slice A1 ks.length c1), (7, .pointer (some ⟨wA.heap.size, 0, none⟩)), (8, .int .i64 ((j : Int) - 1))]) (ks.length) ?_ ?_)
           ·exact ⟨ks.length, _, _, _, _, _, _, Nat.le_refl _, rfl, hU, hp, hrx, hmx, by rw [List.drop_length]; exact TM.ex0 (by simp [inK]), hB1, hb9, rfl⟩
           ·clear hU hp hrx hmx hB1 hb9
            rintro qq E wB ⟨j, y0, y1, y2, y3, y4, y5, hj, rfl, hU, hp, hrx, hmx, ht, hB1, hb9, rfl⟩
            have hsB := hU.size
            have hlt9 := hb9.lt
            obtain ⟨tk, ts, tn, trc, tps, tks, tA9, tp9, tA, tp, tys, txs, het, hcs9, _⟩ := ht.mk6
            obtain ⟨rfl, rfl, rfl, rfl, rfl, rfl⟩ : y0 = _ ∧ y1 = _ ∧ y2 = _ ∧ y3 = _ ∧ y4 = _ ∧ y5 = _ := by simpa using hcs9
            refine WC.seq (WC.seq (WC.region (WL.val rfl rfl rfl rfl (r_move rfl (ev_t rfl)) ?_)))
            refine WL.val rfl rfl rfl rfl (r_geq rfl (ev_t rfl) ev_c) ?_
            refine WL.nil (WX.keep [(2, _), (6, _), (7, _), (8, _), (107, _)] ⟨rfl, rfl, rfl, rfl, rfl, trivial⟩ (WX.next (WC.cond rfl (ev_t rfl) (fun hc34 => ?_) (fun hc34 => ?_))))
            ·try simp only [cS, ne_eq, Decidable.not_not] at hc34
             obtain ⟨i, rfl⟩ : ∃ i, qq = i + 1 := ⟨qq - 1, by omega⟩
             have hi : i < ks.length := by omega
             obtain ⟨b1, o1, rfl, _⟩ := hrx.open (by omega)
             have hki : ks[i]? = some ks[i] := List.getElem?_eq_getElem hi
             have hdr := List.drop_eq_getElem_cons hi
             generalize ks[i] = k0 at hki hdr
             obtain ⟨c0, hx0, ht0⟩ := hmx.get hki
             obtain ⟨uk, us, un, urc, ups, uks, uA9, up9, uA, up, uys, uxs, het2, rfl, _⟩ := ht0.mk6
             refine WC.skip (WX.next (WC.seq (WC.block (WC.draws' (fun u0_ u1_ => Upd (At wA.heap.size) u0_ u1_) (fun j => [0, 0, 0, 0, 1, 2, 0, 2].getD j 0) (.calm 0 (.calm 1 (.calm 2 (.held 3 (.one 4 (.one 5 (.calm 6 (.one 7 (.done))))))))) mixed (by kernel_rfl) (by repeat (first | with_reducible exact Deaf.body | with_reducible apply Deaf.then | with_reducible apply Deaf.block)) ?_))))
             intro w46 hu46
             have hz46 := congrArg Array.size hu46.2.2.2
             replace hu46 := Upd.of_draw hu46
             have hs46 := hu46.size
             replace hU := hU.trans hu46 (by exact (fun _ _ h => h.elim))
             replace hp := hp.upd hu46 (by exact (fun _ _ h => h))
             replace hrx := hrx.upd hu46 (fun k hk hl hS => by exact (show False from hS).elim)
             replace hmx := hmx.upd hu46 (fun k hk hl hS => by exact (show False from hS).elim)
             replace ht := ht.upd hu46 (fun k hk hl hS => by exact (show False from hS).elim)
             replace hB1 := hB1.upd hu46 (by exact (fun h => h))
             replace hb9 := hb9.upd hu46 (by exact (fun h => h))
             replace ht0 := ht0.upd hu46 (fun k hk hl hS => by exact (show False from hS).elim)
             have hS36 := Upd.refl (At wA.heap.size) w46
             refine WN.calm _ rfl rfl rfl rfl rfl (fun _ => r_move rfl (ev_t rfl)) ?_
             refine WN.calm _ rfl rfl rfl rfl rfl (fun _ => r_move rfl (ev_t rfl)) ?_
             refine WN.calm _ rfl rfl rfl rfl rfl (fun _ => r_indexAddr rfl (ev_t rfl) (ev_t rfl) elem_34 size_36 (by omega) (by omega)) ?_
             refine WN.held _ rfl rfl rfl rfl rfl hS36 (fun w' hS => r_loadAgg (vs := [_, _, _, _, _, _]) rfl (ev_t rfl) agg_36 size_36 (Rd.cellsL (us := [_, _, _, _, _, _]) (hrx.upd hS (by intro k hk hl hS'; (try simp only [At, From, No, Grow, New, Bt] at hk hS'); omega)) (i := i * 6) (by omega) (fun q v hv => flat_getN hmx.one_len hx0 hv))) ?_
             refine WN.step _ rfl (SO.val rfl rfl rfl rfl (r_loadAgg (vs := [_, _, _, _, _, _]) rfl (ev_t rfl) agg_36 size_36 (Blk.cellsL hb9)) ?_)
             refine ⟨hS36, ?_⟩
             refine WN.step _ rfl (SO.alloc rfl rfl rfl rfl (r_buildSlice66 rfl (ev_t rfl) (ev_t rfl) row_34) ?_)
             intro w47 hu47 hrow hz9
             have hs47 := hu47.size
             try replace hS36 := Upd.trans hS36 hu47 (by intro k hl hk; exact (show False from hk).elim)
             replace hU := hU.trans hu47 (by exact (fun _ _ h => h.elim))
             replace hp := hp.upd hu47 (by exact (fun _ _ h => h))
             replace hrx := hrx.upd hu47 (fun k hk hl hS => by exact (show False from hS).elim)
             replace hmx := hmx.upd hu47 (fun k hk hl hS => by exact (show False from hS).elim)
             replace ht := ht.upd hu47 (fun k hk hl hS => by exact (show False from hS).elim)
             replace hB1 := hB1.upd hu47 (by exact (fun h => h))
             replace hb9 := hb9.upd hu47 (by exact (fun h => h))
             replace ht0 := ht0.upd hu47 (fun k hk hl hS => by exact (show False from hS).elim)
             refine ⟨trivial, ?_⟩
             refine WN.calm _ rfl rfl rfl rfl rfl (fun _ => r_build (cs := #[_, _, _, _, _, _]) (vs := [(0, _), (5, _)]) rfl ⟨⟨rfl, ev_c⟩, ⟨rfl, (ev_t rfl)⟩, trivial⟩ plc_36 zero_36 rfl) ?_
             refine WN.step _ rfl (SO.storeAll (us := [_, _, _, _, _, _]) rfl (ev_t rfl) (ev_t rfl) size_36 hb9 rfl rfl rfl rfl rfl ?_)
             intro w48 hu48 hb9 hz48
             have hs48 := hu48.size
             try replace hS36 := Upd.trans hS36 hu48 (by intro k hl hk; exact hk)
             replace hU := hU.trans hu48 (by (intro k hl hk; (try simp only [At, New, Grow, From, No] at hk ⊢); omega))
             replace hp := hp.upd hu48 (by (intro k hk hS; first | (simp only [At] at hS; omega) | (have := hG k hS; omega)))
             replace hrx := hrx.upd hu48 (fun k hk hl hS => by (simp only [At, Bt] at hS hk; omega))
             replace hmx := hmx.upd hu48 (fun k hk hl hS => by (simp only [At, Bt] at hS hk; omega))
             replace ht := ht.upd hu48 (fun k hk hl hS => by (simp only [At, Bt] at hS hk; omega))
             replace hB1 := hB1.upd hu48 (by (simp only [At]; omega))
             replace ht0 := ht0.upd hu48 (fun k hk hl hS => by (simp only [At, Bt] at hS hk; omega))
             replace hrow := hrow.updA hu48
             refine ⟨trivial, ?_⟩
             refine WN.done ?_
             refine WX.keep [(2, _), (6, _), (7, _), (8, _)] ⟨rfl, rfl, rfl, rfl, trivial⟩ (WX.blockNormal (WX.next (WC.region (WL.val rfl rfl rfl rfl (r_move rfl (ev_t rfl)) ?_))))
             refine WL.val rfl rfl rfl rfl (r_subN rfl (ev_t rfl) ev_c (by simp only [inK]; omega)) ?_
             refine WL.val rfl rfl rfl rfl (r_assign rfl (ev_t rfl)) ?_
             refine WL.nil (WX.keep [(2, _), (6, _), (7, _), (8, _)] ⟨rfl, rfl, rfl, rfl, trivial⟩ (WX.meet [(2, _), (6, _), (7, _), (8, _)] ⟨rfl, rfl, rfl, rfl, trivial⟩ ?_))
             have hrl := hrow.lt
             refine ⟨i, by omega, i, _, _, _, _, _, _, by omega, rfl, hU, hp, hrx, hmx, ?_, hB1, hb9, by simp⟩
             rw [hdr]
             exact TM.exK (xs := [[_, _, _, _, _, _], [_, _, _, _, _, _]]) (Rd.of_blk (n := 2) (sz := 6) hrow (by simp only [Bt]; omega) rfl (by omega)) (Ms.cons (ht0.mono fun k hk => by simp only [Bt] at *; omega) (Ms.cons (ht.mono fun k hk => by simp only [Bt] at *; omega) (Ms.nil _ _))) (by simp [inK])
            ·try simp only [cS, ne_eq, Decidable.not_not] at hc34
             obtain rfl : qq = 0 := by omega
             rw [List.drop_zero] at ht
             refine WC.exit (WX.thenExit (WX.thenExit (WX.blockHere (WX.next (WC.seq (WC.region (WL.val rfl rfl rfl rfl (r_loadAgg (vs := [_, _, _, _, _, _]) rfl (ev_t rfl) agg_36 size_36 (Blk.cellsL hb9)) ?_)))))))
             refine WL.cons (SO.storeAll (us := [_, _, _, _, _, _]) rfl (ev_t rfl) (ev_t rfl) size_36 hB1 rfl rfl rfl rfl rfl ?_)
             intro w49 hu49 hB1 hz49
             have hs49 := hu49.size
             replace hU := hU.trans hu49 (by (intro k hl hk; (try simp only [At, New, Grow, From, No] at hk ⊢); omega))
             replace hp := hp.upd hu49 (by (intro k hk hS; first | (simp only [At] at hS; omega) | (have := hG k hS; omega)))
             replace hrx := hrx.upd hu49 (fun k hk hl hS => by (simp only [At, Bt] at hS hk; omega))
             replace hmx := hmx.upd hu49 (fun k hk hl hS => by (simp only [At, Bt] at hS hk; omega))
             replace ht := ht.upd hu49 (fun k hk hl hS => by (simp only [At, Bt] at hS hk; omega))
             replace hb9 := hb9.upd hu49 (by (simp only [At]; omega))
             refine WL.nil (WX.keep [(2, _)] ⟨rfl, trivial⟩ (WX.next (WC.ret (WX.blockRet (WX.thenRet (WX.retC (vs := [_, _, _, _, _, _]) rfl rfl agg_36 size_36 (Blk.cellsL hB1) ?_))))))
             rw [he9]
             exact ⟨_, rfl, ht.mono fun k hk => by simp only [Bt] at *; omega, hp, hPst, hU⟩
         ·rw [takQ_F hc26] at hp
          refine WC.skip (WX.blockNormal (WX.next (WC.seq (WC.region ?_))))
          obtain ⟨FD, bD, offD, cD, zD, badD, hbD, hzD, hrD, hFD, hID⟩ := hp.open
          refine WL.val rfl rfl rfl rfl (r_move rfl (ev_t rfl)) ?_
          refine WL.val rfl rfl rfl rfl (r_move rfl (ev_t rfl)) ?_
          refine WL.val rfl rfl rfl rfl (r_nilCheck rfl (ev_t rfl)) ?_
          refine WL.val rfl rfl rfl rfl (r_field0 rfl (ev_t rfl) fld_58_1) ?_
          refine WL.val rfl rfl rfl rfl (r_load rfl (ev_t rfl) flat_3 (Blk.cell hbD rfl)) ?_
          refine WL.cons (SO.call (fault_ok (e := 4) hp (by omega) (by decide)) rfl body_35 ⟨(ev_t rfl), (ev_t rfl), ev_c, trivial⟩ rfl rfl rfl rfl ?_)
          rintro v9 w50 ⟨hp2, hu50⟩
          have hs50 := hu50.size
          replace hU := hU.trans hu50 (by exact (fun _ _ h => h))
          replace hB1 := hB1.upd hu50 (by (simp only [At]; omega))
          have hp := hp2
          refine WL.nil (WX.keep [(2, _)] ⟨rfl, trivial⟩ (WX.next (WC.seq (WC.region (WL.val rfl rfl rfl rfl (r_build (cs := #[_, _, _, _, _, _]) (vs := []) rfl trivial plc_36 zero_36 rfl) ?_)))))
          refine WL.cons (SO.storeAll (us := [_, _, _, _, _, _]) rfl (ev_t rfl) (ev_t rfl) size_36 hB1 rfl rfl rfl rfl rfl ?_)
          intro w51 hu51 hB1 hz51
          have hs51 := hu51.size
          replace hU := hU.trans hu51 (by (intro k hl hk; (try simp only [At, New, Grow, From, No] at hk ⊢); omega))
          replace hp := hp.upd hu51 (by (intro k hk hS; first | (simp only [At] at hS; omega) | (have := hG k hS; omega)))
          refine WL.nil (WX.keep [(2, _)] ⟨rfl, trivial⟩ (WX.next (WC.ret (WX.retC (vs := [_, _, _, _, _, _]) rfl rfl agg_36 size_36 (Blk.cellsL hB1) ?_))))
          have he9 : thgB (eq9 n) s = (Ex.z, fauQ s 4) := by unfold thgB; rw [if_neg (by simp [hc1]), if_neg (by simp [hc4]), if_neg (by simp [hc6]), if_neg (by simp [hc8]), if_neg (by simp [hc10]), if_neg (by simp [hc12]), if_neg (by simp [hc14]), if_neg (by simp [hc16]), if_neg (by simp [hc26])]
          rw [he9]
          exact ⟨_, rfl, TM.ex0 (by simp [inK]), hp, Pst.fau _ _, hU⟩
end Go.Proofs.YtomkdhkkggbioaaGreatDoor

/-
  The reference's parser, in plain Lean: as much is open behind it, no more is left, a fault stays.
-/
namespace Go.Proofs.YtomkdhkkggbioaaGreatDoor
open Go
set_option linter.unusedSimpArgs false
set_option linter.unusedVariables false

def Mo {α : Type} (g : St → α × St) : Prop := ∀ s, Pst s (g s).2
section
variable {α : Type} {g : St → α × St}
theorem Mo.sep (hg : Mo g) (u : List UInt8) : ∀ (k : Nat) (l : List α) (s : St), Pst s (sepQ g u k l s).2
  | 0, l, s => by rw [sepQ]; exact Pst.refl _
  | k + 1, l, s => by
    rw [sepQ]
    split
    · exact (Pst.tl s).trans ((hg _).trans (Mo.sep hg u k _ _))
    · exact Pst.refl _
theorem Mo.lst (hg : Mo g) : ∀ (k : Nat) (l : List α) (s : St), Pst s (lstQ g k l s).2
  | 0, l, s => by rw [lstQ]; exact Pst.refl _
  | k + 1, l, s => by
    rw [lstQ]
    split
    · split
      · exact Pst.tl s
      · refine Pst.trans ?_ ((hg _).trans (Mo.lst hg k _ _))
        split
        · exact Pst.refl _
        · exact Pst.mus _ _
    · exact Pst.refl _
end
theorem Mo.nms : ∀ (k : Nat) (l : List (List UInt8)) (s : St), Pst s (nmsQ k l s).2
  | 0, l, s => by rw [nmsQ]; exact Pst.refl _
  | k + 1, l, s => by
    rw [nmsQ]
    split
    · exact (Pst.tl s).trans (Mo.nms k _ _)
    · exact Pst.refl _
/-- behind what is open -/
theorem Mo.opn {α : Type} {h : St → α × St} {z : α} (hh : ∀ s, s.e = 0 → Pst s (h s).2) : Mo (fun s => if (opnQ s).e = 0 then ((h (opnQ s)).1, clsQ (h (opnQ s)).2) else (z, clsQ (opnQ s))) := by
  intro s
  dsimp only
  split
  · exact Pst.cls (hh _ (by assumption))
  · exact Pst.cls (Pst.refl _)
theorem Mo.pth {f : PQ} (h : Mo f.pcons) : Mo (pthB f) := by
  intro s
  unfold pthB
  by_cases c1 : isQ s [45] = true
  · rw [if_pos c1]; exact (Pst.tl s).trans (Pst.txt _ _)
  rw [if_neg c1]
  by_cases c2 : kdQ s 4 = true
  · rw [if_pos c2]; exact Pst.tl s
  rw [if_neg c2]
  by_cases c3 : kdQ s 5 = true
  · rw [if_pos c3]; exact Pst.tl s
  rw [if_neg c3]
  by_cases c4 : kdQ s 1 = true
  · rw [if_pos c4]; exact Pst.tl s
  rw [if_neg c4]
  by_cases c5 : kdQ s 2 = true
  · rw [if_pos c5]; exact Pst.tl s
  rw [if_neg c5]
  by_cases c6 : isQ s [95] = true
  · rw [if_pos c6]; exact Pst.tl s
  rw [if_neg c6]
  by_cases c7 : isQ s [116, 114, 117, 101] = true
  · rw [if_pos c7]; exact Pst.tl s
  rw [if_neg c7]
  by_cases c8 : isQ s [102, 97, 108, 115, 101] = true
  · rw [if_pos c8]; exact Pst.tl s
  rw [if_neg c8]
  by_cases c9 : isQ s [40] = true
  · rw [if_pos c9]
    by_cases c10 : isQ (tlQ s) [41] = true
    · rw [if_pos c10]; exact (Pst.tl s).trans (Pst.tl _)
    · rw [if_neg c10]
      exact (Pst.tl s).trans ((h _).trans ((Mo.sep h _ _ _ _).trans (Pst.mus _ _)))
  rw [if_neg c9]
  by_cases c11 : isQ s [91] = true
  · rw [if_pos c11]
    exact (Pst.tl s).trans (Mo.lst h _ _ _)
  rw [if_neg c11]
  exact Pst.fau _ _
theorem Mo.pq : ∀ n, Mo (pq n).pcons ∧ Mo (pq n).patom
  | 0 => ⟨fun s => Pst.refl _, fun s => Pst.refl _⟩
  | n + 1 => by
    obtain ⟨h1, h2⟩ := Mo.pq n
    refine ⟨fun s => ?_, ?_⟩
    · show Pst s (pcoB _ s).2
      unfold pcoB
      split
      · generalize hp9 : (if kdQ (opnQ s) 2 = true then if pbegQ (tlQ (opnQ s)) = true then (Pt.mk 10 (opnQ s).hd.s 0 [((Proofs.YtomkdhkkggbioaaGreatDoor.pq n).patom (tlQ (opnQ s))).1], ((Proofs.YtomkdhkkggbioaaGreatDoor.pq n).patom (tlQ (opnQ s))).2) else (Pt.mk 10 (opnQ s).hd.s 0 [], tlQ (opnQ s)) else (Proofs.YtomkdhkkggbioaaGreatDoor.pq n).patom (opnQ s)) = p9
        have hb : Pst (opnQ s) p9.2 := by
          subst hp9
          split
          · split
            · exact (Pst.tl _).trans (h2 _)
            · exact Pst.tl _
          · exact h2 _
        dsimp only
        split
        · exact Pst.cls (hb.trans ((Pst.tl _).trans (h1 _)))
        · exact Pst.cls hb
      · exact Pst.cls (Pst.refl _)
    · exact Mo.opn (z := Pt.z) fun s _ => Mo.pth h1 s
theorem Mo.pat : Mo patQ := fun s => by
  unfold patQ
  dsimp only
  split
  · exact (Mo.pq 51).1 s
  · exact ((Mo.pq 51).1 s).trans (Pst.fau _ _)
theorem Mo.mat {ex : St → Ex × St} (h : Mo ex) : ∀ (k : Nat) (ps : List Pt) (ks : List Ex) (s : St), Pst s (matL ex k ps ks s).2
  | 0, ps, ks, s => by rw [matL]; exact Pst.refl _
  | k + 1, ps, ks, s => by
    rw [matL]
    split
    · dsimp only
      have h1 : Pst s (ex (musQ (patQ s).2 [45, 62])).2 := (Mo.pat s).trans ((Pst.mus _ _).trans (h _))
      split
      · exact h1.trans ((Pst.tl _).trans (Mo.mat h k _ _ _))
      · exact h1
    · exact Pst.refl _
theorem Mo.bin {ex : St → Ex × St} (h : Mo ex) : Mo (binB ex) := fun s => by
  unfold binB
  dsimp only
  have h1 : Pst s (ex (musQ (nmsQ (txtQ (takQ s [114, 101, 99]) 1).2.ts.length [] (txtQ (takQ s [114, 101, 99]) 1).2).2 [61])).2 := (Pst.tak _ _).trans ((Pst.txt _ _).trans ((Mo.nms _ _ _).trans ((Pst.mus _ _).trans (h _))))
  split
  · exact h1.trans (Pst.fau _ _)
  · exact h1
structure MoE (f : EQ) : Prop where
  expr : Mo f.expr
  one : Mo f.one
  op : ∀ lv, Mo (f.op lv)
  pre : Mo f.pre
  atom : Mo f.atom
theorem MoE.thg {f : EQ} (h : MoE f) : Mo (thgB f) := by
  intro s
  unfold thgB
  by_cases c2 : kdQ s 4 = true
  · rw [if_pos c2]; exact Pst.tl s
  rw [if_neg c2]
  by_cases c3 : kdQ s 5 = true
  · rw [if_pos c3]; exact Pst.tl s
  rw [if_neg c3]
  by_cases c4 : kdQ s 1 = true
  · rw [if_pos c4]; exact Pst.tl s
  rw [if_neg c4]
  by_cases c5 : kdQ s 2 = true
  · rw [if_pos c5]; exact Pst.tl s
  rw [if_neg c5]
  by_cases c7 : isQ s [116, 114, 117, 101] = true
  · rw [if_pos c7]; exact Pst.tl s
  rw [if_neg c7]
  by_cases c8 : isQ s [102, 97, 108, 115, 101] = true
  · rw [if_pos c8]; exact Pst.tl s
  rw [if_neg c8]
  by_cases c6 : isQ s [33] = true
  · rw [if_pos c6]; exact (Pst.tl s).trans (h.atom _)
  rw [if_neg c6]
  by_cases c9 : isQ s [40] = true
  · rw [if_pos c9]
    by_cases c10 : isQ (tlQ s) [41] = true
    · rw [if_pos c10]; exact (Pst.tl s).trans (Pst.tl _)
    · rw [if_neg c10]
      exact (Pst.tl s).trans ((h.expr _).trans ((Mo.sep h.expr _ _ _ _).trans (Pst.mus _ _)))
  rw [if_neg c9]
  by_cases c11 : isQ s [91] = true
  · rw [if_pos c11]
    exact (Pst.tl s).trans (Mo.lst h.one _ _ _)
  rw [if_neg c11]
  exact Pst.fau _ _
theorem MoE.atm {f : EQ} (h : MoE f) : Mo (atmB f) := Mo.opn (z := Ex.z) fun s _ => h.thg s
theorem MoE.apl {f : EQ} (h : MoE f) : ∀ (k : Nat) (x : Ex) (s : St), Pst s (aplQ f k x s).2
  | 0, x, s => by rw [aplQ]; exact Pst.refl _
  | k + 1, x, s => by
    rw [aplQ]
    split
    · exact (h.atm s).trans (MoE.apl h k _ _)
    · exact Pst.refl _
theorem MoE.cal {f : EQ} (h : MoE f) : Mo (calB f) := fun s => by
  unfold calB
  split
  · split
    · exact (Pst.tl s).trans (h.atm _)
    · exact Pst.tl s
  · exact (h.atm s).trans (h.apl _ _ _)
theorem MoE.preB {f : EQ} (h : MoE f) : Mo (preB f) := fun s => by
  unfold Proofs.YtomkdhkkggbioaaGreatDoor.preB
  split
  · dsimp only
    refine (Pst.tl s).trans (Pst.cls ?_)
    split
    · exact h.pre _
    · exact Pst.refl _
  · exact h.cal s
theorem MoE.opR {f : EQ} (h : MoE f) (lv : Nat) (s : St) : Pst (opnQ s) (opR f lv s).2 := by
  unfold Proofs.YtomkdhkkggbioaaGreatDoor.opR
  split
  · exact h.op _ _
  · exact Pst.refl _
theorem MoE.opL {f : EQ} (h : MoE f) (lv : Nat) : ∀ (k : Nat) (a : Ex) (s : St), Pst s (opL f lv k a s).2
  | 0, a, s => by rw [Proofs.YtomkdhkkggbioaaGreatDoor.opL]; exact Pst.refl _
  | k + 1, a, s => by
    rw [Proofs.YtomkdhkkggbioaaGreatDoor.opL]
    split
    · exact Pst.refl _
    · have h1 : Pst s (clsQ (Proofs.YtomkdhkkggbioaaGreatDoor.opR f lv (tlQ s)).2) := (Pst.tl s).trans (Pst.cls (h.opR lv _))
      split
      · exact h1
      · exact h1.trans (MoE.opL h lv k _ _)
theorem MoE.opB {f : EQ} (h : MoE f) : ∀ (j : Nat), Mo (opB f j)
  | 0 => fun s => h.preB s
  | j + 1 => fun s => (MoE.opB h j s).trans (h.opL _ _ _ _)
theorem MoE.oneI {f : EQ} (h : MoE f) : Mo (oneI f) := fun s => by
  unfold Proofs.YtomkdhkkggbioaaGreatDoor.oneI
  by_cases c1 : isQ s [108, 101, 116] = true
  · rw [if_pos c1]; exact (Pst.tl s).trans ((Mo.bin h.expr _).trans ((Pst.mus _ _).trans (h.expr _)))
  rw [if_neg c1]
  by_cases c2 : isQ s [102, 117, 110] = true
  · rw [if_pos c2]; exact (Pst.tl s).trans ((Pst.txt _ _).trans ((Mo.nms _ _ _).trans ((Pst.mus _ _).trans (h.expr _))))
  rw [if_neg c2]
  by_cases c3 : isQ s [105, 102] = true
  · rw [if_pos c3]; exact (Pst.tl s).trans ((h.expr _).trans ((Pst.mus _ _).trans ((h.one _).trans ((Pst.mus _ _).trans (h.one _)))))
  rw [if_neg c3]
  by_cases c4 : isQ s [109, 97, 116, 99, 104] = true
  · rw [if_pos c4]; exact (Pst.tl s).trans ((h.expr _).trans ((Pst.mus _ _).trans ((Pst.tak _ _).trans (Mo.mat h.expr _ _ _ _))))
  rw [if_neg c4]
  by_cases c5 : isQ s [116, 114, 121] = true
  · rw [if_pos c5]; exact (Pst.tl s).trans ((h.expr _).trans ((Pst.mus _ _).trans ((Pst.txt _ _).trans ((Pst.mus _ _).trans (h.expr _)))))
  rw [if_neg c5]
  exact h.op 0 s
theorem MoE.all : ∀ n, MoE (eq9 n)
  | 0 => ⟨fun s => Pst.refl _, fun s => Pst.refl _, fun lv s => Pst.refl _, fun s => Pst.refl _, fun s => Pst.refl _⟩
  | n + 1 => by
    have h := MoE.all n
    refine ⟨fun s => ?_, Mo.opn (z := Ex.z) fun s _ => h.oneI s, fun lv => h.opB _, h.preB, h.atm⟩
    show Pst s (expB (eq9 n) s).2
    unfold expB
    split
    · dsimp only
      split
      · exact Pst.cls ((h.one _).trans ((Pst.tl _).trans (h.expr _)))
      · exact Pst.cls (h.one _)
    · exact Pst.cls (Pst.refl _)
/-- what may begin an atom is read, or there is a fault -/
theorem atm_less {f : EQ} (h : MoE f) {s : St} (hb : begQ s = true) (h0 : 0 < s.ts.length) : (atmB f s).2.ts.length < s.ts.length ∨ (atmB f s).2.e ≠ 0 := by
  unfold atmB
  split
  · rename_i he
    left
    have hs : s.e = 0 := by
      rcases Nat.eq_zero_or_pos s.e with h | h
      · exact h
      · rw [opnQ_e (by omega)] at he; exact he
    have hol := opnQ_len s
    have htl := tlQ_len (opnQ s)
    have hpst : ∀ s', Pst (tlQ (opnQ s)) s' → s'.ts.length < s.ts.length := fun s' hp => by have := hp.2.1; omega
    have hk : ∀ k, kdQ (opnQ s) k = kdQ s k := fun k => by
      unfold kdQ St.hd
      rw [he, hs, opnQ_ts]
    have hi : ∀ u, isQ (opnQ s) u = isQ s u := fun u => by
      unfold isQ St.hd
      rw [he, hs, opnQ_ts]
    show (thgB f (opnQ s)).2.ts.length < _
    unfold thgB
    unfold begQ at hb
    simp only [Bool.or_eq_true, ← hk, ← hi] at hb
    by_cases c2 : kdQ (opnQ s) 4 = true
    · rw [if_pos c2]; exact hpst _ (Pst.refl _)
    rw [if_neg c2]
    by_cases c3 : kdQ (opnQ s) 5 = true
    · rw [if_pos c3]; exact hpst _ (Pst.refl _)
    rw [if_neg c3]
    by_cases c4 : kdQ (opnQ s) 1 = true
    · rw [if_pos c4]; exact hpst _ (Pst.refl _)
    rw [if_neg c4]
    by_cases c5 : kdQ (opnQ s) 2 = true
    · rw [if_pos c5]; exact hpst _ (Pst.refl _)
    rw [if_neg c5]
    by_cases c7 : isQ (opnQ s) [116, 114, 117, 101] = true
    · rw [if_pos c7]; exact hpst _ (Pst.refl _)
    rw [if_neg c7]
    by_cases c8 : isQ (opnQ s) [102, 97, 108, 115, 101] = true
    · rw [if_pos c8]; exact hpst _ (Pst.refl _)
    rw [if_neg c8]
    by_cases c6 : isQ (opnQ s) [33] = true
    · rw [if_pos c6]; exact hpst _ (h.atom _)
    rw [if_neg c6]
    by_cases c9 : isQ (opnQ s) [40] = true
    · rw [if_pos c9]
      by_cases c10 : isQ (tlQ (opnQ s)) [41] = true
      · rw [if_pos c10]; exact hpst _ (Pst.tl _)
      · rw [if_neg c10]
        exact hpst _ ((h.expr _).trans ((Mo.sep h.expr _ _ _ _).trans (Pst.mus _ _)))
    rw [if_neg c9]
    by_cases c11 : isQ (opnQ s) [91] = true
    · rw [if_pos c11]
      exact hpst _ (Mo.lst h.one _ _ _)
    rcases hb with (((((((hb | hb) | hb) | hb) | hb) | hb) | hb) | hb) | hb
    · exact absurd hb c4
    · exact absurd hb c5
    · exact absurd hb c2
    · exact absurd hb c3
    · exact absurd hb c9
    · exact absurd hb c11
    · exact absurd hb c6
    · exact absurd hb c7
    · exact absurd hb c8
  · right
    assumption

/-! a row that grows beside another one -/
/-- a row of trees that is owned: all its blocks are of R -/
def AccR {α : Type} {sz : Nat} [Tre α sz] (T : TypeId) (w : World) (R : Nat → Prop) (v : Value) (ks : List α) : Prop :=
  ∃ (F G : Nat → Prop) (xs : List (List Value)), Own w G T sz v ks.length (xs.flatMap id) ∧ Ms w F xs ks ∧ (∀ k, F k → ¬ G k) ∧ ∀ k, F k ∨ G k → R k ∧ k < w.heap.size
section
variable {α : Type} {sz : Nat} [Tre α sz] {T : TypeId} {w w' : World} {R R' S : Nat → Prop} {v : Value} {ks : List α} {c : List Value} {x : α}
theorem AccR.nil (w : World) (R : Nat → Prop) : AccR T w R (.slice none 0 0) ([] : List α) := ⟨No, No, [], Own.nil _ _ _ _, Ms.nil _ _, fun k h => h.elim, fun k h => h.elim (fun h => h.elim) (fun h => h.elim)⟩
theorem AccR.upd (h : AccR T w R v ks) (hu : Upd S w w') (hn : ∀ k, R k → k < w.heap.size → ¬ S k) : AccR T w' R v ks := by
  obtain ⟨F, G, xs, h1, h2, h3, h4⟩ := h
  have hs := hu.size
  exact ⟨F, G, xs, h1.upd hu fun k hk hl => hn k (h4 k (.inr hk)).1 hl, h2.upd hu fun k hk hl => hn k (h4 k (.inl hk)).1 hl, h3, fun k hk => ⟨(h4 k hk).1, Nat.lt_of_lt_of_le (h4 k hk).2 hs⟩⟩
theorem AccR.form (h : AccR T w R v ks) : ∃ A c, v = .slice A ks.length c ∧ ks.length ≤ c := by
  obtain ⟨F, G, xs, h1, _⟩ := h
  exact h1.form
theorem AccR.mono (h : AccR T w R v ks) (hR : ∀ k, R k → k < w.heap.size → R' k) : AccR T w R' v ks := by
  obtain ⟨F, G, xs, h1, h2, h3, h4⟩ := h
  exact ⟨F, G, xs, h1, h2, h3, fun k hk => ⟨hR k (h4 k hk).1 (h4 k hk).2, (h4 k hk).2⟩⟩
theorem AccR.done (h : AccR T w R v ks) (hm : ks.length ≤ 1000000) : ∃ xs, Rd w (fun k => R k ∧ k < w.heap.size) v ks.length sz (xs.flatMap id) ∧ Ms w (fun k => R k ∧ k < w.heap.size) xs ks := by
  obtain ⟨F, G, xs, h1, h2, h3, h4⟩ := h
  exact ⟨xs, (h1.rd (by omega)).mono fun k hk => h4 k (.inr hk), h2.mono fun k hk => h4 k (.inl hk)⟩
theorem Acc.toR {B : Nat} {G : Nat → Prop} (h : Acc T w B G v ks) : AccR T w (Bt B w.heap.size) v ks := by
  obtain ⟨F, xs, h1, h2, h3, h4⟩ := h
  exact ⟨F, G, xs, h1, h2, fun k hk => (h3 k hk).1, fun k hk => hk.elim (fun h => ⟨(h3 k h).2, (h3 k h).2.2⟩) fun h => ⟨h4 k h, (h4 k h).2⟩⟩
end
section
variable {P : Program} {N : Nat} {ops : Array Oper} {Q : Exit → Act → World → Prop} {o : Oper} {E : Env} {w : World} {d : Nat} {v v2 : Value} {K : Env → World → Prop} {F F2 F3 R : Nat → Prop} {α : Type} {sz : Nat} [Tre α sz] {T : TypeId} {ks : List α} {c : List Value} {a : α}
theorem SO.appendR {x y : Operand} {t : TypeId} {by_ : Nat} {z : Value} (ha : AccR T w R v ks) (hc : TM w F2 c a) (hd2 : ∀ k, F2 k → ¬ R k) (hsrc : Rd w F3 v2 1 sz c) (ht : RowT P t T sz by_ z) (hl : ks.length ≤ 1000000) (hby : Nat.ble by_ 1000 = true)
    (hop : o.op = .call { callee := .builtin .append, args := #[x, y], argTypes := #[t, t] }) (hx : Env.ev E x = v) (hy : Env.ev E y = v2)
    (hd : o.dst = some d) (hN : Nat.blt d N = true) (ho : opsOK E o = true) (hw : wantedE ops E o = some true)
    (k : ∀ v' w', AccR T w' (fun k => R k ∨ F2 k ∨ (w.heap.size ≤ k ∧ k < w'.heap.size)) v' (ks ++ [a]) → Upd R w w' → K ((d, v') :: E) w') : SO P N ops Q o K E w := by
  obtain ⟨F, G, xs, h1, h2, h3, h4⟩ := ha
  have hby9 := Nat.ble_eq.mp hby
  refine SO.append h1 hsrc ht hc.ones (le_maxLen (by omega)) (Nat.le_trans (Nat.mul_le_mul_left _ hby9) (by omega)) hop hx hy hd hN ho hw fun v' w' hg hu => k v' w' ?_ (hu.mono fun k _ hk => (h4 k (.inr hk)).1)
  have hs := hu.size
  have hfin : Ms w (fun k => (F k ∨ F2 k) ∧ k < w.heap.size) (xs ++ [c]) (ks ++ [a]) := ((h2.mono fun k hk => .inl hk).snoc (hc.mono fun k hk => .inr hk)).bound
  have hG2 : ∀ k, F2 k → ¬ G k := fun k hk hG => hd2 k hk (h4 k (.inr hG)).1
  refine ⟨_, _, xs ++ [c], by rw [List.length_append, List.flatMap_append]; simpa using hg, hfin.upd hu fun k hk hl hS => ?_, fun k hk hG => ?_, fun k hk => ?_⟩
  · rcases hk.1 with h | h
    · exact h3 k h hS
    · exact hG2 k h hS
  · rcases hG with h | h
    · rcases hk.1 with h' | h'
      · exact h3 k h' h
      · exact hG2 k h' h
    · omega
  · rcases hk with h | h
    · rcases h.1 with h' | h'
      · exact ⟨.inl (h4 k (.inl h')).1, by omega⟩
      · exact ⟨.inr (.inl h'), by omega⟩
    · rcases h with h | h
      · exact ⟨.inl (h4 k (.inr h)).1, by have := (h4 k (.inr h)).2; omega⟩
      · exact ⟨.inr (.inr h), h.2⟩
end
theorem funQ_cons (a : List UInt8) (l : List (List UInt8)) (e : Ex) : funQ (a :: l) e = .mk 10 a 0 false [] [funQ l e] := rfl
theorem TM.sv {w : World} {F : Nat → Prop} {s : List UInt8} : TM w F [Sv s] s := rfl
theorem Ms.sv {w : World} {F : Nat → Prop} : ∀ {xs : List (List Value)} {ks : List (List UInt8)}, Ms w F xs ks → xs.flatMap id = ks.map Sv
  | [], [], _ => rfl
  | [], k :: ks, h => by have := h.1; simp at this
  | x :: xs, [], h => by have := h.1; simp at this
  | x :: xs, k :: ks, h => by
    have h0 : TM w F x k := h.2 0 x k rfl rfl
    have h1 : x = [Sv k] := h0
    have h2 : Ms w F xs ks := ⟨by have := h.1; simpa using this, fun i c k hc hk => h.2 (i + 1) c k (by simpa using hc) (by simpa using hk)⟩
    rw [List.flatMap_cons, List.map_cons, Ms.sv h2, h1]
    rfl
theorem matL_stop {ex : St → Ex × St} {k : Nat} {ps : List Pt} {ks : List Ex} {s : St} (h : s.e ≠ 0) : matL ex k ps ks s = ((ps, ks), s) := by
  cases k with
  | zero => rfl
  | succ k => simp [matL, h]
theorem matL_last {ex : St → Ex × St} {k : Nat} {ps : List Pt} {ks : List Ex} {s : St} (h : s.e = 0) (h2 : isQ (ex (musQ (patQ s).2 [45, 62])).2 [124] = false) : matL ex (k + 1) ps ks s = ((ps ++ [(patQ s).1], ks ++ [(ex (musQ (patQ s).2 [45, 62])).1]), (ex (musQ (patQ s).2 [45, 62])).2) := by simp [matL, h, h2]
theorem matL_step {ex : St → Ex × St} {k : Nat} {ps : List Pt} {ks : List Ex} {s : St} (h : s.e = 0) (h2 : isQ (ex (musQ (patQ s).2 [45, 62])).2 [124] = true) : matL ex (k + 1) ps ks s = matL ex k (ps ++ [(patQ s).1]) (ks ++ [(ex (musQ (patQ s).2 [45, 62])).1]) (tlQ (ex (musQ (patQ s).2 [45, 62])).2) := by simp [matL, h, h2]
end Go.Proofs.YtomkdhkkggbioaaGreatDoor

/-
 The reference's parser: calls, and what stands behind a minus sign.
-/
namespace Go.Proofs.YtomkdhkkggbioaaGreatDoor
open Go
set_option linter.unusedSimpArgs false
set_option linter.unusedVariables false

theorem begins_ok {w : World} {r B0 : Nat} {A : List Tok} {s : St} (hp : PS w r B0 A s) : Ret Tryz.prog 140 #[.pointer (some ⟨r, 0, none⟩)] w fun v w' => v = .bool (begQ s) ∧ Upd No w w' := by
 refine enterRet (vs := [_]) (N := 37) Tryz.func140 rfl rfl rfl ?_
 have hU := Upd.refl No w
 refine WC.keep [(0, _)] ⟨rfl, trivial⟩ (WC.seq (WC.region (WL.val rfl rfl rfl rfl (r_assign rfl ev_c) ?_)))
 refine WL.nil (WX.keep [(0, _)] ⟨rfl, trivial⟩ (WX.next (WC.seq (WC.region (WL.val rfl rfl rfl rfl (r_move rfl (ev_t rfl)) ?_)))))
 refine WL.cons (SO.call (kind_ok (k := 1) hp) rfl body_32 ⟨(ev_t rfl), ev_c, trivial⟩ rfl rfl rfl rfl ?_)
 rintro v9 w1 ⟨rfl, hu1⟩
 have hs1 := hu1.size
 replace hU := hU.transA hu1
 replace hp := hp.upd hu1 (fun _ _ h => h)
 refine WL.val rfl rfl rfl rfl (r_move rfl (ev_t rfl)) ?_
 refine WL.cases 5 rfl (fun hb1_2 => ?_) (fun hb1_2 => ?_)
 ·refine WL.skip rfl rfl rfl (WL.skip rfl rfl rfl (WL.val rfl rfl rfl rfl (r_pickT rfl (ev_t rfl) ev_c) ?_))
  refine WL.val rfl rfl rfl rfl (r_move rfl (ev_t rfl)) ?_
  refine WL.skip rfl rfl rfl (WL.skip rfl rfl rfl (WL.val rfl rfl rfl rfl (r_pickT rfl (ev_t rfl) ev_c) ?_))
  refine WL.val rfl rfl rfl rfl (r_move rfl (ev_t rfl)) ?_
  refine WL.skip rfl rfl rfl (WL.skip rfl rfl rfl (WL.val rfl rfl rfl rfl (r_pickT rfl (ev_t rfl) ev_c) ?_))
  refine WL.val rfl rfl rfl rfl (r_move rfl (ev_t rfl)) ?_
  refine WL.skip rfl rfl rfl (WL.skip rfl rfl rfl (WL.val rfl rfl rfl rfl (r_pickT rfl (ev_t rfl) ev_c) ?_))
  refine WL.val rfl rfl rfl rfl (r_move rfl (ev_t rfl)) ?_
  refine WL.skip rfl rfl rfl (WL.skip rfl rfl rfl (WL.val rfl rfl rfl rfl (r_pickT rfl (ev_t rfl) ev_c) ?_))
  refine WL.val rfl rfl rfl rfl (r_move rfl (ev_t rfl)) ?_
  refine WL.skip rfl rfl rfl (WL.skip rfl rfl rfl (WL.val rfl rfl rfl rfl (r_pickT rfl (ev_t rfl) ev_c) ?_))
  refine WL.val rfl rfl rfl rfl (r_move rfl (ev_t rfl)) ?_
  refine WL.skip rfl rfl rfl (WL.skip rfl rfl rfl (WL.val rfl rfl rfl rfl (r_pickT rfl (ev_t rfl) ev_c) ?_))
  refine WL.val rfl rfl rfl rfl (r_move rfl (ev_t rfl)) ?_
  refine WL.skip rfl rfl rfl (WL.skip rfl rfl rfl (WL.val rfl rfl rfl rfl (r_pickT rfl (ev_t rfl) ev_c) ?_))
  refine WL.val rfl rfl rfl rfl (r_assign rfl (ev_t rfl)) ?_
  refine WL.nil (WX.keep [(2, _)] ⟨rfl, trivial⟩ (WX.next (WC.ret (WX.retE1 rfl rfl ?_))))
  refine ⟨?_, hU⟩
  congr 1
  unfold begQ
  simp_all
 ·refine WL.val rfl rfl rfl rfl (r_move rfl (ev_t rfl)) ?_
  refine WL.cons (SO.call (kind_ok (k := 2) hp) rfl body_32 ⟨(ev_t rfl), ev_c, trivial⟩ rfl rfl rfl rfl ?_)
  rintro v9 w2 ⟨rfl, hu2⟩
  have hs2 := hu2.size
  replace hU := hU.transA hu2
  replace hp := hp.upd hu2 (fun _ _ h => h)
  refine WL.val rfl rfl rfl rfl (r_pickF rfl (ev_t rfl) (ev_t rfl)) ?_
  refine WL.val rfl rfl rfl rfl (r_move rfl (ev_t rfl)) ?_
  refine WL.cases 9 rfl (fun hb1_6 => ?_) (fun hb1_6 => ?_)
  ·refine WL.skip rfl rfl rfl (WL.skip rfl rfl rfl (WL.val rfl rfl rfl rfl (r_pickT rfl (ev_t rfl) ev_c) ?_))
   refine WL.val rfl rfl rfl rfl (r_move rfl (ev_t rfl)) ?_
   refine WL.skip rfl rfl rfl (WL.skip rfl rfl rfl (WL.val rfl rfl rfl rfl (r_pickT rfl (ev_t rfl) ev_c) ?_))
   refine WL.val rfl rfl rfl rfl (r_move rfl (ev_t rfl)) ?_
   refine WL.skip rfl rfl rfl (WL.skip rfl rfl rfl (WL.val rfl rfl rfl rfl (r_pickT rfl (ev_t rfl) ev_c) ?_))
   refine WL.val rfl rfl rfl rfl (r_move rfl (ev_t rfl)) ?_
   refine WL.skip rfl rfl rfl (WL.skip rfl rfl rfl (WL.val rfl rfl rfl rfl (r_pickT rfl (ev_t rfl) ev_c) ?_))
   refine WL.val rfl rfl rfl rfl (r_move rfl (ev_t rfl)) ?_
   refine WL.skip rfl rfl rfl (WL.skip rfl rfl rfl (WL.val rfl rfl rfl rfl (r_pickT rfl (ev_t rfl) ev_c) ?_))
   refine WL.val rfl rfl rfl rfl (r_move rfl (ev_t rfl)) ?_
   refine WL.skip rfl rfl rfl (WL.skip rfl rfl rfl (WL.val rfl rfl rfl rfl (r_pickT rfl (ev_t rfl) ev_c) ?_))
   refine WL.val rfl rfl rfl rfl (r_move rfl (ev_t rfl)) ?_
   refine WL.skip rfl rfl rfl (WL.skip rfl rfl rfl (WL.val rfl rfl rfl rfl (r_pickT rfl (ev_t rfl) ev_c) ?_))
   refine WL.val rfl rfl rfl rfl (r_assign rfl (ev_t rfl)) ?_
   refine WL.nil (WX.keep [(2, _)] ⟨rfl, trivial⟩ (WX.next (WC.ret (WX.retE1 rfl rfl ?_))))
   refine ⟨?_, hU⟩
   congr 1
   unfold begQ
   simp_all
  ·refine WL.val rfl rfl rfl rfl (r_move rfl (ev_t rfl)) ?_
   refine WL.cons (SO.call (kind_ok (k := 4) hp) rfl body_32 ⟨(ev_t rfl), ev_c, trivial⟩ rfl rfl rfl rfl ?_)
   rintro v9 w3 ⟨rfl, hu3⟩
   have hs3 := hu3.size
   replace hU := hU.transA hu3
   replace hp := hp.upd hu3 (fun _ _ h => h)
   refine WL.val rfl rfl rfl rfl (r_pickF rfl (ev_t rfl) (ev_t rfl)) ?_
   refine WL.val rfl rfl rfl rfl (r_move rfl (ev_t rfl)) ?_
   refine WL.cases 13 rfl (fun hb1_10 => ?_) (fun hb1_10 => ?_)
   ·refine WL.skip rfl rfl rfl (WL.skip rfl rfl rfl (WL.val rfl rfl rfl rfl (r_pickT rfl (ev_t rfl) ev_c) ?_))
    refine WL.val rfl rfl rfl rfl (r_move rfl (ev_t rfl)) ?_
    refine WL.skip rfl rfl rfl (WL.skip rfl rfl rfl (WL.val rfl rfl rfl rfl (r_pickT rfl (ev_t rfl) ev_c) ?_))
    refine WL.val rfl rfl rfl rfl (r_move rfl (ev_t rfl)) ?_
    refine WL.skip rfl rfl rfl (WL.skip rfl rfl rfl (WL.val rfl rfl rfl rfl (r_pickT rfl (ev_t rfl) ev_c) ?_))
    refine WL.val rfl rfl rfl rfl (r_move rfl (ev_t rfl)) ?_
    refine WL.skip rfl rfl rfl (WL.skip rfl rfl rfl (WL.val rfl rfl rfl rfl (r_pickT rfl (ev_t rfl) ev_c) ?_))
    refine WL.val rfl rfl rfl rfl (r_move rfl (ev_t rfl)) ?_
    refine WL.skip rfl rfl rfl (WL.skip rfl rfl rfl (WL.val rfl rfl rfl rfl (r_pickT rfl (ev_t rfl) ev_c) ?_))
    refine WL.val rfl rfl rfl rfl (r_move rfl (ev_t rfl)) ?_
    refine WL.skip rfl rfl rfl (WL.skip rfl rfl rfl (WL.val rfl rfl rfl rfl (r_pickT rfl (ev_t rfl) ev_c) ?_))
    refine WL.val rfl rfl rfl rfl (r_assign rfl (ev_t rfl)) ?_
    refine WL.nil (WX.keep [(2, _)] ⟨rfl, trivial⟩ (WX.next (WC.ret (WX.retE1 rfl rfl ?_))))
    refine ⟨?_, hU⟩
    congr 1
    unfold begQ
    simp_all
   ·refine WL.val rfl rfl rfl rfl (r_move rfl (ev_t rfl)) ?_
    refine WL.cons (SO.call (kind_ok (k := 5) hp) rfl body_32 ⟨(ev_t rfl), ev_c, trivial⟩ rfl rfl rfl rfl ?_)
    rintro v9 w4 ⟨rfl, hu4⟩
    have hs4 := hu4.size
    replace hU := hU.transA hu4
    replace hp := hp.upd hu4 (fun _ _ h => h)
    refine WL.val rfl rfl rfl rfl (r_pickF rfl (ev_t rfl) (ev_t rfl)) ?_
    refine WL.val rfl rfl rfl rfl (r_move rfl (ev_t rfl)) ?_
    refine WL.cases 17 rfl (fun hb1_14 => ?_) (fun hb1_14 => ?_)
    ·refine WL.skip rfl rfl rfl (WL.skip rfl rfl rfl (WL.val rfl rfl rfl rfl (r_pickT rfl (ev_t rfl) ev_c) ?_))
     refine WL.val rfl rfl rfl rfl (r_move rfl (ev_t rfl)) ?_
     refine WL.skip rfl rfl rfl (WL.skip rfl rfl rfl (WL.val rfl rfl rfl rfl (r_pickT rfl (ev_t rfl) ev_c) ?_))
     refine WL.val rfl rfl rfl rfl (r_move rfl (ev_t rfl)) ?_
     refine WL.skip rfl rfl rfl (WL.skip rfl rfl rfl (WL.val rfl rfl rfl rfl (r_pickT rfl (ev_t rfl) ev_c) ?_))
     refine WL.val rfl rfl rfl rfl (r_move rfl (ev_t rfl)) ?_
     refine WL.skip rfl rfl rfl (WL.skip rfl rfl rfl (WL.val rfl rfl rfl rfl (r_pickT rfl (ev_t rfl) ev_c) ?_))
     refine WL.val rfl rfl rfl rfl (r_move rfl (ev_t rfl)) ?_
     refine WL.skip rfl rfl rfl (WL.skip rfl rfl rfl (WL.val rfl rfl rfl rfl (r_pickT rfl (ev_t rfl) ev_c) ?_))
     refine WL.val rfl rfl rfl rfl (r_assign rfl (ev_t rfl)) ?_
     refine WL.nil (WX.keep [(2, _)] ⟨rfl, trivial⟩ (WX.next (WC.ret (WX.retE1 rfl rfl ?_))))
     refine ⟨?_, hU⟩
     congr 1
     unfold begQ
     simp_all
    ·refine WL.val rfl rfl rfl rfl (r_move rfl (ev_t rfl)) ?_
     refine WL.cons (SO.call (is_ok (u := [40]) hp) rfl body_34 ⟨(ev_t rfl), ev_c, trivial⟩ rfl rfl rfl rfl ?_)
     rintro v9 w5 ⟨rfl, hu5⟩
     have hs5 := hu5.size
     replace hU := hU.transA hu5
     replace hp := hp.upd hu5 (fun _ _ h => h)
     refine WL.val rfl rfl rfl rfl (r_pickF rfl (ev_t rfl) (ev_t rfl)) ?_
     refine WL.val rfl rfl rfl rfl (r_move rfl (ev_t rfl)) ?_
     refine WL.cases 21 rfl (fun hb1_18 => ?_) (fun hb1_18 => ?_)
     ·refine WL.skip rfl rfl rfl (WL.skip rfl rfl rfl (WL.val rfl rfl rfl rfl (r_pickT rfl (ev_t rfl) ev_c) ?_))
      refine WL.val rfl rfl rfl rfl (r_move rfl (ev_t rfl)) ?_
      refine WL.skip rfl rfl rfl (WL.skip rfl rfl rfl (WL.val rfl rfl rfl rfl (r_pickT rfl (ev_t rfl) ev_c) ?_))
      refine WL.val rfl rfl rfl rfl (r_move rfl (ev_t rfl)) ?_
      refine WL.skip rfl rfl rfl (WL.skip rfl rfl rfl (WL.val rfl rfl rfl rfl (r_pickT rfl (ev_t rfl) ev_c) ?_))
      refine WL.val rfl rfl rfl rfl (r_move rfl (ev_t rfl)) ?_
      refine WL.skip rfl rfl rfl (WL.skip rfl rfl rfl (WL.val rfl rfl rfl rfl (r_pickT rfl (ev_t rfl) ev_c) ?_))
      refine WL.val rfl rfl rfl rfl (r_assign rfl (ev_t rfl)) ?_
      refine WL.nil (WX.keep [(2, _)] ⟨rfl, trivial⟩ (WX.next (WC.ret (WX.retE1 rfl rfl ?_))))
      refine ⟨?_, hU⟩
      congr 1
      unfold begQ
      simp_all
     ·refine WL.val rfl rfl rfl rfl (r_move rfl (ev_t rfl)) ?_
      refine WL.cons (SO.call (is_ok (u := [91]) hp) rfl body_34 ⟨(ev_t rfl), ev_c, trivial⟩ rfl rfl rfl rfl ?_)
      rintro v9 w6 ⟨rfl, hu6⟩
      have hs6 := hu6.size
      replace hU := hU.transA hu6
      replace hp := hp.upd hu6 (fun _ _ h => h)
      refine WL.val rfl rfl rfl rfl (r_pickF rfl (ev_t rfl) (ev_t rfl)) ?_
      refine WL.val rfl rfl rfl rfl (r_move rfl (ev_t rfl)) ?_
      refine WL.cases 25 rfl (fun hb1_22 => ?_) (fun hb1_22 => ?_)
      ·refine WL.skip rfl rfl rfl (WL.skip rfl rfl rfl (WL.val rfl rfl rfl rfl (r_pickT rfl (ev_t rfl) ev_c) ?_))
       refine WL.val rfl rfl rfl rfl (r_move rfl (ev_t rfl)) ?_
       refine WL.skip rfl rfl rfl (WL.skip rfl rfl rfl (WL.val rfl rfl rfl rfl (r_pickT rfl (ev_t rfl) ev_c) ?_))
       refine WL.val rfl rfl rfl rfl (r_move rfl (ev_t rfl)) ?_
       refine WL.skip rfl rfl rfl (WL.skip rfl rfl rfl (WL.val rfl rfl rfl rfl (r_pickT rfl (ev_t rfl) ev_c) ?_))
       refine WL.val rfl rfl rfl rfl (r_assign rfl (ev_t rfl)) ?_
       refine WL.nil (WX.keep [(2, _)] ⟨rfl, trivial⟩ (WX.next (WC.ret (WX.retE1 rfl rfl ?_))))
       refine ⟨?_, hU⟩
       congr 1
       unfold begQ
       simp_all
      ·refine WL.val rfl rfl rfl rfl (r_move rfl (ev_t rfl)) ?_
       refine WL.cons (SO.call (is_ok (u := [33]) hp) rfl body_34 ⟨(ev_t rfl), ev_c, trivial⟩ rfl rfl rfl rfl ?_)
       rintro v9 w7 ⟨rfl, hu7⟩
       have hs7 := hu7.size
       replace hU := hU.transA hu7
       replace hp := hp.upd hu7 (fun _ _ h => h)
       refine WL.val rfl rfl rfl rfl (r_pickF rfl (ev_t rfl) (ev_t rfl)) ?_
       refine WL.val rfl rfl rfl rfl (r_move rfl (ev_t rfl)) ?_
       refine WL.cases 29 rfl (fun hb1_26 => ?_) (fun hb1_26 => ?_)
       ·refine WL.skip rfl rfl rfl (WL.skip rfl rfl rfl (WL.val rfl rfl rfl rfl (r_pickT rfl (ev_t rfl) ev_c) ?_))
        refine WL.val rfl rfl rfl rfl (r_move rfl (ev_t rfl)) ?_
        refine WL.skip rfl rfl rfl (WL.skip rfl rfl rfl (WL.val rfl rfl rfl rfl (r_pickT rfl (ev_t rfl) ev_c) ?_))
        refine WL.val rfl rfl rfl rfl (r_assign rfl (ev_t rfl)) ?_
        refine WL.nil (WX.keep [(2, _)] ⟨rfl, trivial⟩ (WX.next (WC.ret (WX.retE1 rfl rfl ?_))))
        refine ⟨?_, hU⟩
        congr 1
        unfold begQ
        simp_all
       ·refine WL.val rfl rfl rfl rfl (r_move rfl (ev_t rfl)) ?_
        refine WL.cons (SO.call (is_ok (u := [116, 114, 117, 101]) hp) rfl body_34 ⟨(ev_t rfl), ev_c, trivial⟩ rfl rfl rfl rfl ?_)
        rintro v9 w8 ⟨rfl, hu8⟩
        have hs8 := hu8.size
        replace hU := hU.transA hu8
        replace hp := hp.upd hu8 (fun _ _ h => h)
        refine WL.val rfl rfl rfl rfl (r_pickF rfl (ev_t rfl) (ev_t rfl)) ?_
        refine WL.val rfl rfl rfl rfl (r_move rfl (ev_t rfl)) ?_
        refine WL.cases 33 rfl (fun hb1_30 => ?_) (fun hb1_30 => ?_)
        ·refine WL.skip rfl rfl rfl (WL.skip rfl rfl rfl (WL.val rfl rfl rfl rfl (r_pickT rfl (ev_t rfl) ev_c) ?_))
         refine WL.val rfl rfl rfl rfl (r_assign rfl (ev_t rfl)) ?_
         refine WL.nil (WX.keep [(2, _)] ⟨rfl, trivial⟩ (WX.next (WC.ret (WX.retE1 rfl rfl ?_))))
         refine ⟨?_, hU⟩
         congr 1
         unfold begQ
         simp_all
        ·refine WL.val rfl rfl rfl rfl (r_move rfl (ev_t rfl)) ?_
         refine WL.cons (SO.call (is_ok (u := [102, 97, 108, 115, 101]) hp) rfl body_34 ⟨(ev_t rfl), ev_c, trivial⟩ rfl rfl rfl rfl ?_)
         rintro v9 w9 ⟨rfl, hu9⟩
         have hs9 := hu9.size
         replace hU := hU.transA hu9
         replace hp := hp.upd hu9 (fun _ _ h => h)
         refine WL.val rfl rfl rfl rfl (r_pickF rfl (ev_t rfl) (ev_t rfl)) ?_
         refine WL.val rfl rfl rfl rfl (r_assign rfl (ev_t rfl)) ?_
         refine WL.nil (WX.keep [(2, _)] ⟨rfl, trivial⟩ (WX.next (WC.ret (WX.retE1 rfl rfl ?_))))
         refine ⟨?_, hU⟩
         congr 1
         unfold begQ
         simp_all
theorem atom_ok {n : Nat} (ih : PC 151 (thgB (eq9 n)) n) : PC 141 (atmB (eq9 n)) (n + 1) := by
 intro w r B0 A s hp hd hn
 obtain ⟨hI1, hI2, hI3, hI4, hI5⟩ := hp.I
 have hod := opnQ_d s
 refine enterRet (vs := [_]) (N := 16) Tryz.func141 rfl rfl rfl ?_
 have hU := Upd.refl (At r) w
 refine WC.keep [(0, _)] ⟨rfl, trivial⟩ (WC.seq (WC.region (WL.cons (SO.alloc rfl rfl rfl rfl (r_alloc rfl zero_36) ?_))))
 intro w1 hu1 hB1 hz1
 have hs1 := hu1.size
 replace hU := hU.trans hu1 (by exact (fun _ _ h => h.elim))
 replace hp := hp.upd hu1 (by exact (fun _ _ h => h))
 refine WL.nil (WX.keep [(0, _), (2, _)] ⟨rfl, rfl, trivial⟩ (WX.next (WC.seq (WC.region (WL.cons (SO.alloc rfl rfl rfl rfl (r_alloc rfl zero_36) ?_))))))
 intro w2 hu2 hB2 hz2
 have hs2 := hu2.size
 replace hU := hU.trans hu2 (by exact (fun _ _ h => h.elim))
 replace hp := hp.upd hu2 (by exact (fun _ _ h => h))
 replace hB1 := hB1.upd hu2 (by exact (fun h => h))
 refine WL.nil (WX.keep [(0, _), (2, _), (3, _)] ⟨rfl, rfl, rfl, trivial⟩ (WX.next ?_))
 -- cut 2: live [0, 2, 3]
 refine WC.cut (fun E wA => ∃ (y0 y1 y2 y3 y4 y5 : Value) (x : Ex) (s2 : St), atmB (eq9 n) s = (x, clsQ s2) ∧ Pst (opnQ s) s2 ∧ Upd (At r) w wA ∧ PS wA r B0 A s2 ∧ TM wA (Bt (w.heap.size + 2) wA.heap.size) [y0, y1, y2, y3, y4, y5] x ∧ Blk wA w.heap.size #[.int .u8 0, .string ⟨#[]⟩, .int .i64 0, .bool false, .slice none 0 0, .slice none 0 0] 36 ∧ Blk wA w1.heap.size #[y0, y1, y2, y3, y4, y5] 36 ∧ E = [(0, (.pointer (some ⟨r, 0, none⟩))), (2, .pointer (some ⟨w.heap.size, 0, none⟩)), (3, .pointer (some ⟨w1.heap.size, 0, none⟩))]) ?_ ?_
 ·refine WC.seq (WC.region (WL.val rfl rfl rfl rfl (r_move rfl (ev_t rfl)) ?_))
  refine WL.cons (SO.call (open_ok9 hp hd) rfl body_87 ⟨(ev_t rfl), trivial⟩ rfl rfl rfl rfl ?_)
  rintro v9 w3 ⟨rfl, hp2, hu3⟩
  have hs3 := hu3.size
  replace hU := hU.trans hu3 (by exact (fun _ _ h => h))
  replace hB1 := hB1.upd hu3 (by (simp only [At]; omega))
  replace hB2 := hB2.upd hu3 (by (simp only [At]; omega))
  have hp := hp2
  refine WL.nil (WX.keep [(0, _), (2, _), (3, _), (5, _)] ⟨rfl, rfl, rfl, rfl, trivial⟩ (WX.next (WC.cond rfl (ev_t rfl) (fun hc2 => ?_) (fun hc2 => ?_))))
  ·try simp only [cS, ne_eq, Decidable.not_not] at hc2
   have h0 : (opnQ s).e = 0 := by simpa using hc2
   have hd5 := opnQ_ok h0
   refine WC.region (WL.val rfl rfl rfl rfl (r_move rfl (ev_t rfl)) ?_)
   refine WL.cons (SO.call (ih _ _ _ _ _ hp (by (try simp only [tlQ_d, musQ_d, takQ_d, txtQ_d]); omega) (by (try simp only [tlQ_d, musQ_d, takQ_d, txtQ_d]); omega)) rfl body_151 ⟨(ev_t rfl), trivial⟩ rfl rfl rfl rfl ?_)
   rintro v9 w4 ⟨c9, rfl, ht, hp2, hst, hu4⟩
   have hs4 := hu4.size
   replace hU := hU.trans hu4 (by exact (fun _ _ h => h))
   replace hB1 := hB1.upd hu4 (by (simp only [At]; omega))
   replace hB2 := hB2.upd hu4 (by (simp only [At]; omega))
   have hp := hp2
   have hsd := hst.1
   try simp only [tlQ_d, musQ_d, takQ_d, txtQ_d] at hsd
   obtain ⟨tk, ts, tn, trc, tps, tks, tA9, tp9, tA, tp, tys, txs, het, rfl, _⟩ := ht.mk6
   refine WL.cons (SO.storeAll (us := [_, _, _, _, _, _]) rfl (ev_t rfl) (ev_t rfl) size_36 hB2 rfl rfl rfl rfl rfl ?_)
   intro w5 hu5 hB2 hz5
   have hs5 := hu5.size
   replace hU := hU.trans hu5 (by (intro k hl hk; (try simp only [At, New, Grow, From, No] at hk ⊢); omega))
   replace hB1 := hB1.upd hu5 (by (simp only [At]; omega))
   replace hp := hp.upd hu5 (by (intro k hk hS; first | (simp only [At] at hS; omega) | (have := hG k hS; omega)))
   replace ht := ht.upd hu5 (fun k hk hl hS => by (simp only [At, Bt] at hS hk; omega))
   refine WL.nil (WX.keep [(0, _), (2, _), (3, _)] ⟨rfl, rfl, rfl, trivial⟩ (WX.meet [(0, _), (2, _), (3, _)] ⟨rfl, rfl, rfl, trivial⟩ ?_))
   first
    | (have he9 : atmB (eq9 n) s = ((thgB (eq9 n) (opnQ s)).1, clsQ (thgB (eq9 n) (opnQ s)).2) := by
         simp only [atmB]
         rw [if_pos h0]
       exact ⟨_, _, _, _, _, _, _, _, he9, hst, hU, hp, ht.mono fun k hk => by simp only [Bt] at *; omega, hB1, hB2, rfl⟩)
    | (have he9 : atmB (eq9 n) s = (Ex.z, clsQ (opnQ s)) := by
         simp only [atmB]
         rw [if_neg (by simpa using hc2)]
       exact ⟨_, _, _, _, _, _, _, _, he9, Pst.refl _, hU, hp, TM.ex0 (by simp [inK]), hB1, hB2, rfl⟩)
  ·try simp only [cS, ne_eq, Decidable.not_not] at hc2
   refine WC.skip (WX.meet [(0, _), (2, _), (3, _)] ⟨rfl, rfl, rfl, trivial⟩ ?_)
   first
    | (have he9 : atmB (eq9 n) s = ((thgB (eq9 n) (opnQ s)).1, clsQ (thgB (eq9 n) (opnQ s)).2) := by
         simp only [atmB]
         rw [if_pos h0]
       exact ⟨_, _, _, _, _, _, _, _, he9, hst, hU, hp, ht.mono fun k hk => by simp only [Bt] at *; omega, hB1, hB2, rfl⟩)
    | (have he9 : atmB (eq9 n) s = (Ex.z, clsQ (opnQ s)) := by
         simp only [atmB]
         rw [if_neg (by simpa using hc2)]
       exact ⟨_, _, _, _, _, _, _, _, he9, Pst.refl _, hU, hp, TM.ex0 (by simp [inK]), hB1, hB2, rfl⟩)
 ·clear hU hp hB1 hB2
  rintro E wA ⟨y0, y1, y2, y3, y4, y5, x, s2, he9, hPst, hU, hp, ht, hB1, hB2, rfl⟩
  have hsA := hU.size
  have hlt1 := hB1.lt
  have hlt2 := hB2.lt
  have hd2 := hPst.1
  obtain ⟨tk, ts, tn, trc, tps, tks, tA9, tp9, tA, tp, tys, txs, het, hcs9, _⟩ := ht.mk6
  obtain ⟨rfl, rfl, rfl, rfl, rfl, rfl⟩ : y0 = _ ∧ y1 = _ ∧ y2 = _ ∧ y3 = _ ∧ y4 = _ ∧ y5 = _ := by simpa using hcs9
  refine WC.seq (WC.region ?_)
  obtain ⟨FD, bD, offD, cD, zD, badD, hbD, hzD, hrD, hFD, hID⟩ := hp.open
  refine WL.val rfl rfl rfl rfl (r_move rfl (ev_t rfl)) ?_
  refine WL.val rfl rfl rfl rfl (r_nilCheck rfl (ev_t rfl)) ?_
  refine WL.val rfl rfl rfl rfl (r_field0 rfl (ev_t rfl) fld_58_2) ?_
  refine WL.val rfl rfl rfl rfl (r_load rfl (ev_t rfl) flat_3 (Blk.cell hbD rfl)) ?_
  refine WL.val rfl rfl rfl rfl (r_subN rfl (ev_t rfl) ev_c (by simp only [inK]; omega)) ?_
  refine WL.val rfl rfl rfl rfl (r_nilCheck rfl (ev_t rfl)) ?_
  refine WL.val rfl rfl rfl rfl (r_field0 rfl (ev_t rfl) fld_58_2) ?_
  refine WL.cons (SO.store rfl (ev_t rfl) (ev_t rfl) size_3 hbD rfl rfl rfl rfl rfl ?_)
  intro w6 hu6 hbD hz6
  have hs6 := hu6.size
  replace hU := hU.trans hu6 (by exact (fun _ _ h => h))
  replace hB1 := hB1.upd hu6 (by (simp only [At]; omega))
  replace hB2 := hB2.upd hu6 (by (simp only [At]; omega))
  replace ht := ht.upd hu6 (fun k hk hl hS => by (simp only [At, Bt] at hS hk; omega))
  refine WL.nil (WX.keep [(2, _), (3, _)] ⟨rfl, rfl, trivial⟩ ?_)
  rw [PS.clsB hp (by omega)] at hbD
  have hp9 : PS w6 r B0 A (clsQ s2) := hp.shut hu6 hbD hzD (hrD.upd hu6 (fun k hk hl hS => (hFD k hk).1 hS)) hFD hp.suf hp.fin (by show s2.d - 1 ≤ 52; have := hp.dle; omega) hp.ele
  refine WX.next (WC.seq (WC.region (WL.val rfl rfl rfl rfl (r_loadAgg (vs := [_, _, _, _, _, _]) rfl (ev_t rfl) agg_36 size_36 (Blk.cellsL hB2)) ?_)))
  refine WL.cons (SO.storeAll (us := [_, _, _, _, _, _]) rfl (ev_t rfl) (ev_t rfl) size_36 hB1 rfl rfl rfl rfl rfl ?_)
  intro w7 hu7 hB1 hz7
  have hs7 := hu7.size
  replace hU := hU.trans hu7 (by (intro k hl hk; (try simp only [At, New, Grow, From, No] at hk ⊢); omega))
  replace hB2 := hB2.upd hu7 (by (simp only [At]; omega))
  replace ht := ht.upd hu7 (fun k hk hl hS => by (simp only [At, Bt] at hS hk; omega))
  replace hp9 := hp9.updA hu7
  refine WL.nil (WX.keep [(2, _)] ⟨rfl, trivial⟩ (WX.next (WC.ret (WX.retC (vs := [_, _, _, _, _, _]) rfl rfl agg_36 size_36 (Blk.cellsL hB1) ?_))))
  rw [he9]
  exact ⟨_, rfl, ht.mono fun k hk => by simp only [Bt] at *; omega, hp9, hPst.cls, hU⟩
theorem aplQ_stop {f : EQ} {k : Nat} {x : Ex} {s : St} (h : begQ s = false) : aplQ f k x s = (x, s) := by
 cases k with
 | zero => rfl
 | succ k => simp [aplQ, h]
theorem aplQ_step {f : EQ} {k : Nat} {x : Ex} {s : St} (h : begQ s = true) : aplQ f (k + 1) x s = aplQ f k (.mk 11 [] 0 false [] [x, (atmB f s).1]) (atmB f s).2 := by simp [aplQ, h]
theorem begQ_e {s : St} (h : s.e ≠ 0) : begQ s = false := by simp [begQ, isQ_e h, kdQ_e h]
/-- one more call, counted -/
theorem apl_count {f : EQ} (hm : MoE f) {s : St} {k : Nat} (h : begQ s = true) (h0 : 0 < s.ts.length) (hk : s.ts.length + (if s.e = 0 then 1 else 0) ≤ k + 1) : (atmB f s).2.ts.length + (if (atmB f s).2.e = 0 then 1 else 0) ≤ k := by
 have he : s.e = 0 := by
  rcases Nat.eq_zero_or_pos s.e with h9 | h9
  ·exact h9
  ·rw [begQ_e (by omega)] at h; cases h
 rw [if_pos he] at hk
 have h1 := (hm.atm s).2.1
 rcases atm_less hm h h0 with h2 | h2
 ·split <;> omega
 ·rw [if_neg h2]; omega
theorem aplQ_fuel {f : EQ} (hm : MoE f) : ∀ (k : Nat) (x : Ex) (s : St), s.ts.length ≤ k ∨ s.e ≠ 0 → aplQ f (k + 1) x s = aplQ f k x s
 | 0, x, s, h => by
  have hb : begQ s = false := by
   rcases h with h | h
   ·have : s.ts = [] := List.eq_nil_of_length_eq_zero (by omega)
    simp [begQ, isQ, kdQ, St.hd, this]
   ·exact begQ_e h
  rw [aplQ_stop hb, aplQ_stop hb]
 | k + 1, x, s, h => by
  cases hb : begQ s with
  | false => rw [aplQ_stop hb, aplQ_stop hb]
  | true =>
   rw [aplQ_step hb, aplQ_step hb]
   refine aplQ_fuel hm k _ _ ?_
   have he : s.e = 0 := by
    rcases Nat.eq_zero_or_pos s.e with h9 | h9
    ·exact h9
    ·rw [begQ_e (by omega)] at hb; cases hb
   rcases Nat.eq_zero_or_pos s.ts.length with h0 | h0
   ·left
    have := (hm.atm s).2.1
    omega
   ·rcases atm_less hm hb h0 with h2 | h2
    ·left; omega
    ·exact .inr h2
set_option maxHeartbeats 4000000 in
theorem call_ok {n : Nat} (ih : PC 141 (atmB (eq9 n)) (n + 1)) : PC 127 (calB (eq9 n)) (n + 1) := by
 intro w r B0 A s hp hd hn
 obtain ⟨hI1, hI2, hI3, hI4, hI5⟩ := hp.I
 have hmo := MoE.all n
 refine enterRet (vs := [_]) (N := 29) Tryz.func127 rfl rfl rfl ?_
 have hU := Upd.refl (At r) w
 refine WC.keep [(0, _)] ⟨rfl, trivial⟩ (WC.seq (WC.region (WL.cons (SO.alloc rfl rfl rfl rfl (r_alloc rfl zero_36) ?_))))
 intro w1 hu1 hB1 hz1
 have hs1 := hu1.size
 replace hU := hU.trans hu1 (by exact (fun _ _ h => h.elim))
 replace hp := hp.upd hu1 (by exact (fun _ _ h => h))
 refine WL.nil (WX.keep [(0, _), (2, _)] ⟨rfl, rfl, trivial⟩ (WX.next (WC.seq (WC.seq (WC.region (WL.val rfl rfl rfl rfl (r_move rfl (ev_t rfl)) ?_))))))
 refine WL.cons (SO.call (kind_ok (k := 2) hp) rfl body_32 ⟨(ev_t rfl), ev_c, trivial⟩ rfl rfl rfl rfl ?_)
 rintro v9 w2 ⟨rfl, hu2⟩
 have hs2 := hu2.size
 replace hU := hU.trans hu2 (by exact (fun _ _ h => h.elim))
 replace hp := hp.upd hu2 (by exact (fun _ _ h => h))
 replace hB1 := hB1.upd hu2 (by exact (fun h => h))
 refine WL.nil (WX.keep [(0, _), (2, _), (7, _)] ⟨rfl, rfl, rfl, trivial⟩ (WX.next (WC.cond rfl (ev_t rfl) (fun hc1 => ?_) (fun hc1 => ?_))))
 ·refine WC.seq (WC.region (WL.val rfl rfl rfl rfl (r_move rfl (ev_t rfl)) ?_))
  refine WL.cons (SO.call (text_ok9 (k := 2) hp (by decide)) rfl body_82 ⟨(ev_t rfl), ev_c, trivial⟩ rfl rfl rfl rfl ?_)
  rintro v9 w3 ⟨rfl, hp2, hu3⟩
  have hs3 := hu3.size
  replace hU := hU.trans hu3 (by exact (fun _ _ h => h))
  replace hB1 := hB1.upd hu3 (by (simp only [At]; omega))
  have hp := hp2
  rw [txtQ_T hc1]
  replace hp : PS w3 r B0 A (tlQ s) := by rw [txtQ_T hc1] at hp; exact hp
  refine WL.val rfl rfl rfl rfl (r_build (cs := #[_, _, _, _, _, _]) (vs := [(0, _), (1, _)]) rfl ⟨⟨rfl, ev_c⟩, ⟨rfl, (ev_t rfl)⟩, trivial⟩ plc_36 zero_36 rfl) ?_
  refine WL.cons (SO.alloc rfl rfl rfl rfl (r_alloc rfl zero_36) ?_)
  intro w4 hu4 hB4 hz4
  have hs4 := hu4.size
  replace hU := hU.trans hu4 (by exact (fun _ _ h => h.elim))
  replace hB1 := hB1.upd hu4 (by exact (fun h => h))
  replace hp := hp.upd hu4 (by exact (fun _ _ h => h))
  refine WL.cons (SO.storeAll (us := [_, _, _, _, _, _]) rfl (ev_t rfl) (ev_t rfl) size_36 hB4 rfl rfl rfl rfl rfl ?_)
  intro w5 hu5 hB4 hz5
  have hs5 := hu5.size
  replace hU := hU.trans hu5 (by (intro k hl hk; (try simp only [At, New, Grow, From, No] at hk ⊢); omega))
  replace hB1 := hB1.upd hu5 (by (simp only [At]; omega))
  replace hp := hp.upd hu5 (by (intro k hk hS; first | (simp only [At] at hS; omega) | (have := hG k hS; omega)))
  refine WL.nil (WX.keep [(0, _), (2, _), (3, _)] ⟨rfl, rfl, rfl, trivial⟩ ?_)
  have hb3 := hB4
  change Blk _ _ #[.int .u8 6, Sv s.hd.s, .int .i64 0, .bool false, .slice none 0 0, .slice none 0 0] _ at hb3
  have hlt3 := hb3.lt
  refine WX.next (WC.seq (WC.seq (WC.region (WL.val rfl rfl rfl rfl (r_move rfl (ev_t rfl)) ?_))))
  refine WL.cons (SO.call (begins_ok hp) rfl body_140 ⟨(ev_t rfl), trivial⟩ rfl rfl rfl rfl ?_)
  rintro v9 w6 ⟨rfl, hu6⟩
  have hs6 := hu6.size
  replace hU := hU.trans hu6 (by exact (fun _ _ h => h.elim))
  replace hB1 := hB1.upd hu6 (by exact (fun h => h))
  replace hp := hp.upd hu6 (by exact (fun _ _ h => h))
  replace hb3 := hb3.upd hu6 (by exact (fun h => h))
  refine WL.nil (WX.keep [(0, _), (2, _), (3, _), (12, _)] ⟨rfl, rfl, rfl, rfl, trivial⟩ (WX.next (WC.cond rfl (ev_t rfl) (fun hc3 => ?_) (fun hc3 => ?_))))
  ·refine WC.region (WL.val rfl rfl rfl rfl (r_move rfl (ev_t rfl)) ?_)
   refine WL.cons (SO.call (ih _ _ _ _ _ hp (by (try simp only [tlQ_d, musQ_d, takQ_d, txtQ_d]); omega) (by (try simp only [tlQ_d, musQ_d, takQ_d, txtQ_d]); omega)) rfl body_141 ⟨(ev_t rfl), trivial⟩ rfl rfl rfl rfl ?_)
   rintro v9 w7 ⟨c9, rfl, ht, hp2, hst, hu7⟩
   have hs7 := hu7.size
   replace hU := hU.trans hu7 (by exact (fun _ _ h => h))
   replace hB1 := hB1.upd hu7 (by (simp only [At]; omega))
   replace hb3 := hb3.upd hu7 (by (simp only [At]; omega))
   have hp := hp2
   have hsd := hst.1
   try simp only [tlQ_d, musQ_d, takQ_d, txtQ_d] at hsd
   obtain ⟨tk, ts, tn, trc, tps, tks, tA9, tp9, tA, tp, tys, txs, het, rfl, _⟩ := ht.mk6
   refine WL.cons (SO.alloc rfl rfl rfl rfl (r_buildSlice6 rfl (ev_t rfl) row_34) ?_)
   intro w8 hu8 hB8 hz8
   have hs8 := hu8.size
   replace hU := hU.trans hu8 (by exact (fun _ _ h => h.elim))
   replace hB1 := hB1.upd hu8 (by exact (fun h => h))
   replace hb3 := hb3.upd hu8 (by exact (fun h => h))
   replace hp := hp.upd hu8 (by exact (fun _ _ h => h))
   replace ht := ht.upd hu8 (fun k hk hl hS => by exact (show False from hS).elim)
   refine WL.val rfl rfl rfl rfl (r_field0 rfl (ev_t rfl) fld_36_5) ?_
   have hrow := hB8
   change Blk _ _ #[.int .u8 (tk : Int), Sv ts, .int .i64 tn, .bool trc, .slice tA9 tps.length tp9, .slice tA tks.length tp] _ at hrow
   refine WL.cons (SO.store rfl (ev_t rfl) (ev_t rfl) size_34 hb3 rfl rfl rfl rfl rfl ?_)
   intro w9 hu9 hb3 hz9
   have hs9 := hu9.size
   replace hU := hU.trans hu9 (by (intro k hl hk; (try simp only [At, New, Grow, From, No] at hk ⊢); omega))
   replace hB1 := hB1.upd hu9 (by (simp only [At]; omega))
   replace hp := hp.upd hu9 (by (intro k hk hS; first | (simp only [At] at hS; omega) | (have := hG k hS; omega)))
   replace ht := ht.upd hu9 (fun k hk hl hS => by (simp only [At, Bt] at hS hk; omega))
   replace hrow := hrow.updA hu9
   refine WL.nil (WX.keep [(2, _), (3, _)] ⟨rfl, rfl, trivial⟩ ?_)
   have he9 : calB (eq9 n) s = (Ex.mk 6 s.hd.s 0 false [] [(atmB (eq9 n) (tlQ s)).1], (atmB (eq9 n) (tlQ s)).2) := by unfold calB; rw [if_pos hc1, if_pos hc3]
   refine WX.next (WC.seq (WC.region (WL.val rfl rfl rfl rfl (r_loadAgg (vs := [_, _, _, _, _, _]) rfl (ev_t rfl) agg_36 size_36 (Blk.cellsL hb3)) ?_)))
   refine WL.cons (SO.storeAll (us := [_, _, _, _, _, _]) rfl (ev_t rfl) (ev_t rfl) size_36 hB1 rfl rfl rfl rfl rfl ?_)
   intro w10 hu10 hB1 hz10
   have hs10 := hu10.size
   replace hU := hU.trans hu10 (by (intro k hl hk; (try simp only [At, New, Grow, From, No] at hk ⊢); omega))
   replace hb3 := hb3.upd hu10 (by (simp only [At]; omega))
   replace hp := hp.upd hu10 (by (intro k hk hS; first | (simp only [At] at hS; omega) | (have := hG k hS; omega)))
   replace ht := ht.upd hu10 (fun k hk hl hS => by (simp only [At, Bt] at hS hk; omega))
   replace hrow := hrow.updA hu10
   refine WL.nil (WX.keep [(2, _)] ⟨rfl, trivial⟩ (WX.next (WC.ret (WX.thenRet (WX.retC (vs := [_, _, _, _, _, _]) rfl rfl agg_36 size_36 (Blk.cellsL hB1) ?_)))))
   first
    | (rw [he9]
       exact ⟨_, rfl, TM.exK (xs := [[_, _, _, _, _, _]]) (Rd.of_blk (F := Bt _ _) (n := 1) (sz := 6) hrow (by have := hrow.lt; simp only [Bt]; omega) rfl (by omega)) (Ms.cons (ht.mono fun k hk => by simp only [Bt] at *; omega) (Ms.nil _ _)) (by simp [inK]), hp, (Pst.tl _).trans hst, hU⟩)
    | (have he9 : calB (eq9 n) s = (Ex.mk 6 s.hd.s 0 false [] [], tlQ s) := by unfold calB; rw [if_pos hc1, if_neg (by simp [hc3])]
       rw [he9]
       exact ⟨_, rfl, TM.ex0 (by simp [inK]), hp, Pst.tl _, hU⟩)
  ·refine WC.skip (WX.next (WC.seq (WC.region (WL.val rfl rfl rfl rfl (r_loadAgg (vs := [_, _, _, _, _, _]) rfl (ev_t rfl) agg_36 size_36 (Blk.cellsL hb3)) ?_))))
   refine WL.cons (SO.storeAll (us := [_, _, _, _, _, _]) rfl (ev_t rfl) (ev_t rfl) size_36 hB1 rfl rfl rfl rfl rfl ?_)
   intro w11 hu11 hB1 hz11
   have hs11 := hu11.size
   replace hU := hU.trans hu11 (by (intro k hl hk; (try simp only [At, New, Grow, From, No] at hk ⊢); omega))
   replace hp := hp.upd hu11 (by (intro k hk hS; first | (simp only [At] at hS; omega) | (have := hG k hS; omega)))
   replace hb3 := hb3.upd hu11 (by (simp only [At]; omega))
   refine WL.nil (WX.keep [(2, _)] ⟨rfl, trivial⟩ (WX.next (WC.ret (WX.thenRet (WX.retC (vs := [_, _, _, _, _, _]) rfl rfl agg_36 size_36 (Blk.cellsL hB1) ?_)))))
   first
    | (rw [he9]
       exact ⟨_, rfl, TM.exK (xs := [[_, _, _, _, _, _]]) (Rd.of_blk (F := Bt _ _) (n := 1) (sz := 6) hrow (by have := hrow.lt; simp only [Bt]; omega) rfl (by omega)) (Ms.cons (ht.mono fun k hk => by simp only [Bt] at *; omega) (Ms.nil _ _)) (by simp [inK]), hp, (Pst.tl _).trans hst, hU⟩)
    | (have he9 : calB (eq9 n) s = (Ex.mk 6 s.hd.s 0 false [] [], tlQ s) := by unfold calB; rw [if_pos hc1, if_neg (by simp [hc3])]
       rw [he9]
       exact ⟨_, rfl, TM.ex0 (by simp [inK]), hp, Pst.tl _, hU⟩)
 ·refine WC.skip (WX.next (WC.seq (WC.region (WL.val rfl rfl rfl rfl (r_move rfl (ev_t rfl)) ?_))))
  refine WL.cons (SO.call (ih _ _ _ _ _ hp (by (try simp only [tlQ_d, musQ_d, takQ_d, txtQ_d]); omega) (by (try simp only [tlQ_d, musQ_d, takQ_d, txtQ_d]); omega)) rfl body_141 ⟨(ev_t rfl), trivial⟩ rfl rfl rfl rfl ?_)
  rintro v9 w12 ⟨c9, rfl, ht, hp2, hst, hu12⟩
  have hs12 := hu12.size
  replace hU := hU.trans hu12 (by exact (fun _ _ h => h))
  replace hB1 := hB1.upd hu12 (by (simp only [At]; omega))
  have hp := hp2
  have hsd := hst.1
  try simp only [tlQ_d, musQ_d, takQ_d, txtQ_d] at hsd
  obtain ⟨tk, ts, tn, trc, tps, tks, tA9, tp9, tA, tp, tys, txs, het, rfl, _⟩ := ht.mk6
  refine WL.cons (SO.alloc rfl rfl rfl rfl (r_alloc rfl zero_36) ?_)
  intro w13 hu13 hB13 hz13
  have hs13 := hu13.size
  replace hU := hU.trans hu13 (by exact (fun _ _ h => h.elim))
  replace hB1 := hB1.upd hu13 (by exact (fun h => h))
  replace hp := hp.upd hu13 (by exact (fun _ _ h => h))
  replace ht := ht.upd hu13 (fun k hk hl hS => by exact (show False from hS).elim)
  refine WL.cons (SO.storeAll (us := [_, _, _, _, _, _]) rfl (ev_t rfl) (ev_t rfl) size_36 hB13 rfl rfl rfl rfl rfl ?_)
  intro w14 hu14 hB13 hz14
  have hs14 := hu14.size
  replace hU := hU.trans hu14 (by (intro k hl hk; (try simp only [At, New, Grow, From, No] at hk ⊢); omega))
  replace hB1 := hB1.upd hu14 (by (simp only [At]; omega))
  replace hp := hp.upd hu14 (by (intro k hk hS; first | (simp only [At] at hS; omega) | (have := hG k hS; omega)))
  replace ht := ht.upd hu14 (fun k hk hl hS => by (simp only [At, Bt] at hS hk; omega))
  refine WL.nil (WX.keep [(0, _), (2, _), (4, _)] ⟨rfl, rfl, rfl, trivial⟩ ?_)
  have hb4 := hB13
  change Blk _ _ #[.int .u8 (tk : Int), Sv ts, .int .i64 tn, .bool trc, .slice tA9 tps.length tp9, .slice tA tks.length tp] _ at hb4
  have hlt4 := hb4.lt
  obtain ⟨b4, hb4e⟩ : ∃ b4, b4 = w12.heap.size := ⟨_, rfl⟩
  rw [← hb4e] at hb4 hlt4 ⊢
  have hcal : calB (eq9 n) s = aplQ (eq9 n) ((atmB (eq9 n) s).2.ts.length + 1) (atmB (eq9 n) s).1 (atmB (eq9 n) s).2 := by
   unfold calB
   rw [if_neg (by simp [hc1]), aplQ_fuel hmo _ _ _ (.inl (Nat.le_refl _))]
  rw [hcal]
  refine WX.next (WC.seq (WC.block ?_))
  -- loop 1: live [0, 2, 4]
  refine WC.keep [(0, _), (2, _), (4, _)] ⟨rfl, rfl, rfl, trivial⟩ (WC.loop (fun qq E wA => ∃ (y0 y1 y2 y3 y4 y5 : Value) (x : Ex) (s1 : St) (k1 : Nat), qq = k1 ∧ s1.ts.length + (if s1.e = 0 then 1 else 0) ≤ k1 ∧ aplQ (eq9 n) ((atmB (eq9 n) s).2.ts.length + 1) (atmB (eq9 n) s).1 (atmB (eq9 n) s).2 = aplQ (eq9 n) k1 x s1 ∧ Pst s s1 ∧ Upd (At r) w wA ∧ PS wA r B0 A s1 ∧ TM wA (fun k => Bt (w.heap.size + 1) wA.heap.size k ∧ k ≠ b4) [y0, y1, y2, y3, y4, y5] x ∧ Blk wA w.heap.size #[.int .u8 0, .string ⟨#[]⟩, .int .i64 0, .bool false, .slice none 0 0, .slice none 0 0] 36 ∧ Blk wA b4 #[y0, y1, y2, y3, y4, y5] 36 ∧ E = [(0, (.pointer (some ⟨r, 0, none⟩))), (2, .pointer (some ⟨w.heap.size, 0, none⟩)), (4, .pointer (some ⟨b4, 0, none⟩))]) (((atmB (eq9 n) s).2.ts.length + 1)) ?_ ?_)
  ·exact ⟨_, _, _, _, _, _, _, _, _, rfl, by split <;> omega, rfl, hst, hU, hp, ht.mono fun k hk => by simp only [Bt] at *; omega, hB1, hb4, rfl⟩
  ·clear hU hp ht hB1 hb4 hst
   rintro qq E wA ⟨y0, y1, y2, y3, y4, y5, x, s1, k1, rfl, hk1, hapl, hPst, hU, hp, ht, hB1, hb4, rfl⟩
   have hsA := hU.size
   have hlt1 := hB1.lt
   have hlt9 := hb4.lt
   have hI := hp.I
   have hd1 := hPst.1
   obtain ⟨tk, ts, tn, trc, tps, tks, tA9, tp9, tA, tp, tys, txs, het, hcs9, _⟩ := ht.mk6
   obtain ⟨rfl, rfl, rfl, rfl, rfl, rfl⟩ : y0 = _ ∧ y1 = _ ∧ y2 = _ ∧ y3 = _ ∧ y4 = _ ∧ y5 = _ := by simpa using hcs9
   have htx := ht
   refine WC.seq (WC.seq (WC.region (WL.val rfl rfl rfl rfl (r_move rfl (ev_t rfl)) ?_)))
   refine WL.cons (SO.call (begins_ok hp) rfl body_140 ⟨(ev_t rfl), trivial⟩ rfl rfl rfl rfl ?_)
   rintro v9 w15 ⟨rfl, hu15⟩
   have hs15 := hu15.size
   replace hU := hU.trans hu15 (by exact (fun _ _ h => h.elim))
   replace hp := hp.upd hu15 (by exact (fun _ _ h => h))
   replace htx := htx.upd hu15 (fun k hk hl hS => by exact (show False from hS).elim)
   replace hB1 := hB1.upd hu15 (by exact (fun h => h))
   replace hb4 := hb4.upd hu15 (by exact (fun h => h))
   refine WL.nil (WX.keep [(0, _), (2, _), (4, _), (21, _)] ⟨rfl, rfl, rfl, rfl, trivial⟩ (WX.next (WC.cond rfl (ev_t rfl) (fun hc7 => ?_) (fun hc7 => ?_))))
   ·have hpos : 0 < s1.ts.length := hI.1
    obtain ⟨k2, rfl⟩ : ∃ k2, qq = k2 + 1 := ⟨qq - 1, by omega⟩
    rw [aplQ_step hc7] at hapl
    have hcnt := apl_count hmo hc7 hpos hk1
    refine WC.skip (WX.next (WC.block (WC.seq (WC.region (WL.val rfl rfl rfl rfl (r_move rfl (ev_t rfl)) ?_)))))
    refine WL.cons (SO.call (ih _ _ _ _ _ hp (by (try simp only [tlQ_d, musQ_d, takQ_d, txtQ_d]); omega) (by (try simp only [tlQ_d, musQ_d, takQ_d, txtQ_d]); omega)) rfl body_141 ⟨(ev_t rfl), trivial⟩ rfl rfl rfl rfl ?_)
    rintro v9 w16 ⟨c9, rfl, ht, hp2, hst, hu16⟩
    have hs16 := hu16.size
    replace hU := hU.trans hu16 (by exact (fun _ _ h => h))
    replace htx := htx.upd hu16 (fun k hk hl hS => by (simp only [At, Bt] at hS hk; omega))
    replace hB1 := hB1.upd hu16 (by (simp only [At]; omega))
    replace hb4 := hb4.upd hu16 (by (simp only [At]; omega))
    have hp := hp2
    have hsd := hst.1
    try simp only [tlQ_d, musQ_d, takQ_d, txtQ_d] at hsd
    obtain ⟨uk, us, un, urc, ups, uks, uA9, up9, uA, up, uys, uxs, heu, rfl, _⟩ := ht.mk6
    refine WL.cons (SO.alloc rfl rfl rfl rfl (r_alloc rfl zero_36) ?_)
    intro w17 hu17 hB17 hz17
    have hs17 := hu17.size
    replace hU := hU.trans hu17 (by exact (fun _ _ h => h.elim))
    replace htx := htx.upd hu17 (fun k hk hl hS => by exact (show False from hS).elim)
    replace hB1 := hB1.upd hu17 (by exact (fun h => h))
    replace hb4 := hb4.upd hu17 (by exact (fun h => h))
    replace hp := hp.upd hu17 (by exact (fun _ _ h => h))
    replace ht := ht.upd hu17 (fun k hk hl hS => by exact (show False from hS).elim)
    refine WL.cons (SO.storeAll (us := [_, _, _, _, _, _]) rfl (ev_t rfl) (ev_t rfl) size_36 hB17 rfl rfl rfl rfl rfl ?_)
    intro w18 hu18 hB17 hz18
    have hs18 := hu18.size
    replace hU := hU.trans hu18 (by (intro k hl hk; (try simp only [At, New, Grow, From, No] at hk ⊢); omega))
    replace htx := htx.upd hu18 (fun k hk hl hS => by (simp only [At, Bt] at hS hk; omega))
    replace hB1 := hB1.upd hu18 (by (simp only [At]; omega))
    replace hb4 := hb4.upd hu18 (by (simp only [At]; omega))
    replace hp := hp.upd hu18 (by (intro k hk hS; first | (simp only [At] at hS; omega) | (have := hG k hS; omega)))
    replace ht := ht.upd hu18 (fun k hk hl hS => by (simp only [At, Bt] at hS hk; omega))
    refine WL.nil (WX.keep [(0, _), (2, _), (4, _), (5, _)] ⟨rfl, rfl, rfl, rfl, trivial⟩ ?_)
    have h7 := hB17
    refine WX.next (WC.region (WL.val rfl rfl rfl rfl (r_loadAgg (vs := [_, _, _, _, _, _]) rfl (ev_t rfl) agg_36 size_36 (Blk.cellsL hb4)) ?_))
    refine WL.val rfl rfl rfl rfl (r_loadAgg (vs := [_, _, _, _, _, _]) rfl (ev_t rfl) agg_36 size_36 (Blk.cellsL h7)) ?_
    refine WL.cons (SO.alloc rfl rfl rfl rfl (r_buildSlice66 rfl (ev_t rfl) (ev_t rfl) row_34) ?_)
    intro w19 hu19 hrow hz9
    have hs19 := hu19.size
    replace hU := hU.trans hu19 (by exact (fun _ _ h => h.elim))
    replace htx := htx.upd hu19 (fun k hk hl hS => by exact (show False from hS).elim)
    replace hB1 := hB1.upd hu19 (by exact (fun h => h))
    replace hb4 := hb4.upd hu19 (by exact (fun h => h))
    replace hp := hp.upd hu19 (by exact (fun _ _ h => h))
    replace ht := ht.upd hu19 (fun k hk hl hS => by exact (show False from hS).elim)
    replace h7 := h7.updA hu19
    refine WL.val rfl rfl rfl rfl (r_build (cs := #[_, _, _, _, _, _]) (vs := [(0, _), (5, _)]) rfl ⟨⟨rfl, ev_c⟩, ⟨rfl, (ev_t rfl)⟩, trivial⟩ plc_36 zero_36 rfl) ?_
    refine WL.cons (SO.storeAll (us := [_, _, _, _, _, _]) rfl (ev_t rfl) (ev_t rfl) size_36 hb4 rfl rfl rfl rfl rfl ?_)
    intro w20 hu20 hb4 hz20
    have hs20 := hu20.size
    replace hU := hU.trans hu20 (by (intro k hl hk; (try simp only [At, New, Grow, From, No] at hk ⊢); omega))
    replace htx := htx.upd hu20 (fun k hk hl hS => by (simp only [At, Bt] at hS hk; omega))
    replace hB1 := hB1.upd hu20 (by (simp only [At]; omega))
    replace hp := hp.upd hu20 (by (intro k hk hS; first | (simp only [At] at hS; omega) | (have := hG k hS; omega)))
    replace ht := ht.upd hu20 (fun k hk hl hS => by (simp only [At, Bt] at hS hk; omega))
    replace h7 := h7.updA hu20
    replace hrow := hrow.updA hu20
    refine WL.nil (WX.keep [(0, _), (2, _), (4, _)] ⟨rfl, rfl, rfl, trivial⟩ (WX.blockNormal (WX.meet [(0, _), (2, _), (4, _)] ⟨rfl, rfl, rfl, trivial⟩ ?_)))
    have hrl := hrow.lt
    refine ⟨k2, by omega, _, _, _, _, _, _, _, _, k2, rfl, hcnt, hapl, hPst.trans hst, hU, hp, ?_, hB1, hb4, rfl⟩
    exact TM.exK (xs := [[_, _, _, _, _, _], [_, _, _, _, _, _]]) (Rd.of_blk (n := 2) (sz := 6) hrow (by simp only [Bt]; omega) rfl (by omega)) (Ms.cons (htx.mono fun k hk => by simp only [Bt] at *; omega) (Ms.cons (ht.mono fun k hk => by simp only [Bt] at *; omega) (Ms.nil _ _))) (by simp [inK])
   ·rw [aplQ_stop hc7] at hapl
    refine WC.exit (WX.thenExit (WX.thenExit (WX.blockHere (WX.next (WC.seq (WC.region (WL.val rfl rfl rfl rfl (r_loadAgg (vs := [_, _, _, _, _, _]) rfl (ev_t rfl) agg_36 size_36 (Blk.cellsL hb4)) ?_)))))))
    refine WL.cons (SO.storeAll (us := [_, _, _, _, _, _]) rfl (ev_t rfl) (ev_t rfl) size_36 hB1 rfl rfl rfl rfl rfl ?_)
    intro w21 hu21 hB1 hz21
    have hs21 := hu21.size
    replace hU := hU.trans hu21 (by (intro k hl hk; (try simp only [At, New, Grow, From, No] at hk ⊢); omega))
    replace hp := hp.upd hu21 (by (intro k hk hS; first | (simp only [At] at hS; omega) | (have := hG k hS; omega)))
    replace htx := htx.upd hu21 (fun k hk hl hS => by (simp only [At, Bt] at hS hk; omega))
    replace hb4 := hb4.upd hu21 (by (simp only [At]; omega))
    refine WL.nil (WX.keep [(2, _)] ⟨rfl, trivial⟩ (WX.next (WC.ret (WX.retC (vs := [_, _, _, _, _, _]) rfl rfl agg_36 size_36 (Blk.cellsL hB1) ?_))))
    rw [hapl]
    exact ⟨_, rfl, htx.mono fun k hk => by simp only [Bt] at *; omega, hp, hPst, hU⟩
end Go.Proofs.YtomkdhkkggbioaaGreatDoor

/-
  The reference's parser: prefix, sign.
-/
namespace Go.Proofs.YtomkdhkkggbioaaGreatDoor
open Go
set_option linter.unusedSimpArgs false
set_option linter.unusedVariables false

set_option maxHeartbeats 2000000 in
theorem prefix_ok {n : Nat} (ihC : PC 127 (calB (eq9 n)) (n + 1)) (ihP : PC 115 (eq9 n).pre n) : PC 115 (preB (eq9 n)) (n + 1) := by
  intro w r B0 A s hp hd hn
  obtain ⟨hI1, hI2, hI3, hI4, hI5⟩ := hp.I
  have hod := opnQ_d (tlQ s)
  rw [tlQ_d] at hod
  refine enterRet (vs := [_]) (N := 23) Tryz.func115 rfl rfl rfl ?_
  have hU := Upd.refl (At r) w
  refine WC.keep [(0, _)] ⟨rfl, trivial⟩ (WC.seq (WC.region (WL.cons (SO.alloc rfl rfl rfl rfl (r_alloc rfl zero_36) ?_))))
  intro w1 hu1 hB1 hz1
  have hs1 := hu1.size
  replace hU := hU.trans hu1 (by exact (fun _ _ h => h.elim))
  replace hp := hp.upd hu1 (by exact (fun _ _ h => h))
  refine WL.nil (WX.keep [(0, _), (2, _)] ⟨rfl, rfl, trivial⟩ (WX.next (WC.seq (WC.seq (WC.region (WL.val rfl rfl rfl rfl (r_move rfl (ev_t rfl)) ?_))))))
  refine WL.cons (SO.call (take_ok (u := [45]) hp) rfl body_31 ⟨(ev_t rfl), ev_c, trivial⟩ rfl rfl rfl rfl ?_)
  rintro v9 w2 ⟨rfl, hp2, hu2⟩
  have hs2 := hu2.size
  replace hU := hU.trans hu2 (by exact (fun _ _ h => h))
  replace hB1 := hB1.upd hu2 (by (simp only [At]; omega))
  have hp := hp2
  refine WL.val rfl rfl rfl rfl (r_not rfl (ev_t rfl)) ?_
  refine WL.nil (WX.keep [(0, _), (2, _), (6, _)] ⟨rfl, rfl, rfl, trivial⟩ (WX.next (WC.cond rfl (ev_t rfl) (fun hc1 => ?_) (fun hc1 => ?_))))
  · try simp only [cS, ne_eq, Decidable.not_not] at hc1
    have hq : isQ s [45] = false := by simpa using hc1
    rw [takQ_F hq] at hp
    refine WC.seq (WC.region (WL.val rfl rfl rfl rfl (r_move rfl (ev_t rfl)) ?_))
    refine WL.cons (SO.call (ihC _ _ _ _ _ hp (by (try simp only [tlQ_d, musQ_d, takQ_d, txtQ_d]); omega) (by (try simp only [tlQ_d, musQ_d, takQ_d, txtQ_d]); omega)) rfl body_127 ⟨(ev_t rfl), trivial⟩ rfl rfl rfl rfl ?_)
    rintro v9 w3 ⟨c9, rfl, ht, hp2, hst, hu3⟩
    have hs3 := hu3.size
    replace hU := hU.trans hu3 (by exact (fun _ _ h => h))
    replace hB1 := hB1.upd hu3 (by (simp only [At]; omega))
    have hp := hp2
    have hsd := hst.1
    try simp only [tlQ_d, musQ_d, takQ_d, txtQ_d] at hsd
    obtain ⟨tk, ts, tn, trc, tps, tks, tA9, tp9, tA, tp, tys, txs, het, rfl, _⟩ := ht.mk6
    refine WL.cons (SO.storeAll (us := [_, _, _, _, _, _]) rfl (ev_t rfl) (ev_t rfl) size_36 hB1 rfl rfl rfl rfl rfl ?_)
    intro w4 hu4 hB1 hz4
    have hs4 := hu4.size
    replace hU := hU.trans hu4 (by (intro k hl hk; (try simp only [At, New, Grow, From, No] at hk ⊢); omega))
    replace hp := hp.upd hu4 (by (intro k hk hS; first | (simp only [At] at hS; omega) | (have := hG k hS; omega)))
    replace ht := ht.upd hu4 (fun k hk hl hS => by (simp only [At, Bt] at hS hk; omega))
    refine WL.nil (WX.keep [(2, _)] ⟨rfl, trivial⟩ (WX.next (WC.ret (WX.thenRet (WX.retC (vs := [_, _, _, _, _, _]) rfl rfl agg_36 size_36 (Blk.cellsL hB1) ?_)))))
    have he9 : preB (eq9 n) s = calB (eq9 n) s := by unfold preB; rw [if_neg (by simp [hq])]
    rw [he9]
    exact ⟨_, rfl, ht.mono fun k hk => by simp only [Bt] at *; omega, hp, hst, hU⟩
  · try simp only [cS, ne_eq, Decidable.not_not] at hc1
    have hq : isQ s [45] = true := by simpa using hc1
    rw [takQ_T hq] at hp
    refine WC.skip (WX.next (WC.seq (WC.region (WL.cons (SO.alloc rfl rfl rfl rfl (r_alloc rfl zero_36) ?_)))))
    intro w5 hu5 hB5 hz5
    have hs5 := hu5.size
    replace hU := hU.trans hu5 (by exact (fun _ _ h => h.elim))
    replace hB1 := hB1.upd hu5 (by exact (fun h => h))
    replace hp := hp.upd hu5 (by exact (fun _ _ h => h))
    refine WL.nil (WX.keep [(0, _), (2, _), (3, _)] ⟨rfl, rfl, rfl, trivial⟩ ?_)
    have hb3 := hB5
    change Blk _ _ #[.int .u8 0, .string ⟨#[]⟩, .int .i64 0, .bool false, .slice none 0 0, .slice none 0 0] 36 at hb3
    have hlt3 := hb3.lt
    obtain ⟨b3, hb3e⟩ : ∃ b3, b3 = w2.heap.size := ⟨_, rfl⟩
    rw [← hb3e] at hb3 hlt3 ⊢
    obtain ⟨x9, hx9⟩ : ∃ x9 : Ex × St, x9 = if (opnQ (tlQ s)).e = 0 then (eq9 n).pre (opnQ (tlQ s)) else (Ex.z, opnQ (tlQ s)) := ⟨_, rfl⟩
    have he9 : preB (eq9 n) s = (Ex.mk 18 [] 0 false [] [x9.1], clsQ x9.2) := by unfold preB; rw [if_pos hq, hx9]
    rw [he9]
    refine WX.next ?_
    -- cut 4: live [0, 2, 3]
    refine WC.cut (fun E wA => ∃ (y0 y1 y2 y3 y4 y5 : Value), Pst (opnQ (tlQ s)) x9.2 ∧ Upd (At r) w wA ∧ PS wA r B0 A x9.2 ∧ TM wA (fun k => Bt (w.heap.size + 1) wA.heap.size k ∧ k ≠ b3) [y0, y1, y2, y3, y4, y5] x9.1 ∧ Blk wA w.heap.size #[.int .u8 0, .string ⟨#[]⟩, .int .i64 0, .bool false, .slice none 0 0, .slice none 0 0] 36 ∧ Blk wA b3 #[y0, y1, y2, y3, y4, y5] 36 ∧ E = [(0, (.pointer (some ⟨r, 0, none⟩))), (2, .pointer (some ⟨w.heap.size, 0, none⟩)), (3, .pointer (some ⟨b3, 0, none⟩))]) ?_ ?_
    · refine WC.seq (WC.region (WL.val rfl rfl rfl rfl (r_move rfl (ev_t rfl)) ?_))
      refine WL.cons (SO.call (open_ok9 hp (by rw [tlQ_d]; omega)) rfl body_87 ⟨(ev_t rfl), trivial⟩ rfl rfl rfl rfl ?_)
      rintro v9 w6 ⟨rfl, hp2, hu6⟩
      have hs6 := hu6.size
      replace hU := hU.trans hu6 (by exact (fun _ _ h => h))
      replace hB1 := hB1.upd hu6 (by (simp only [At]; omega))
      replace hb3 := hb3.upd hu6 (by (simp only [At]; omega))
      have hp := hp2
      refine WL.nil (WX.keep [(0, _), (2, _), (3, _), (10, _)] ⟨rfl, rfl, rfl, rfl, trivial⟩ (WX.next (WC.cond rfl (ev_t rfl) (fun hc4 => ?_) (fun hc4 => ?_))))
      · try simp only [cS, ne_eq, Decidable.not_not] at hc4
        have h0 : (opnQ (tlQ s)).e = 0 := by simpa using hc4
        have hd5 := opnQ_ok h0
        rw [tlQ_d] at hd5
        rw [if_pos h0] at hx9
        refine WC.region (WL.val rfl rfl rfl rfl (r_move rfl (ev_t rfl)) ?_)
        refine WL.cons (SO.call (ihP _ _ _ _ _ hp (by (try simp only [tlQ_d, musQ_d, takQ_d, txtQ_d]); omega) (by (try simp only [tlQ_d, musQ_d, takQ_d, txtQ_d]); omega)) rfl body_115 ⟨(ev_t rfl), trivial⟩ rfl rfl rfl rfl ?_)
        rintro v9 w7 ⟨c9, rfl, ht, hp2, hst, hu7⟩
        have hs7 := hu7.size
        replace hU := hU.trans hu7 (by exact (fun _ _ h => h))
        replace hB1 := hB1.upd hu7 (by (simp only [At]; omega))
        replace hb3 := hb3.upd hu7 (by (simp only [At]; omega))
        have hp := hp2
        have hsd := hst.1
        try simp only [tlQ_d, musQ_d, takQ_d, txtQ_d] at hsd
        obtain ⟨tk, ts, tn, trc, tps, tks, tA9, tp9, tA, tp, tys, txs, het, rfl, _⟩ := ht.mk6
        refine WL.cons (SO.storeAll (us := [_, _, _, _, _, _]) rfl (ev_t rfl) (ev_t rfl) size_36 hb3 rfl rfl rfl rfl rfl ?_)
        intro w8 hu8 hb3 hz8
        have hs8 := hu8.size
        replace hU := hU.trans hu8 (by (intro k hl hk; (try simp only [At, New, Grow, From, No] at hk ⊢); omega))
        replace hB1 := hB1.upd hu8 (by (simp only [At]; omega))
        replace hp := hp.upd hu8 (by (intro k hk hS; first | (simp only [At] at hS; omega) | (have := hG k hS; omega)))
        replace ht := ht.upd hu8 (fun k hk hl hS => by (simp only [At, Bt] at hS hk; omega))
        refine WL.nil (WX.keep [(0, _), (2, _), (3, _)] ⟨rfl, rfl, rfl, trivial⟩ (WX.meet [(0, _), (2, _), (3, _)] ⟨rfl, rfl, rfl, trivial⟩ ?_))
        first
          | (subst hx9
             exact ⟨_, _, _, _, _, _, hst, hU, hp, ht.mono fun k hk => by simp only [Bt] at *; omega, hB1, hb3, rfl⟩)
          | (rw [if_neg (by simpa using hc4)] at hx9
             subst hx9
             exact ⟨_, _, _, _, _, _, Pst.refl _, hU, hp, TM.ex0 (by simp [inK]), hB1, hb3, rfl⟩)
      · try simp only [cS, ne_eq, Decidable.not_not] at hc4
        refine WC.skip (WX.meet [(0, _), (2, _), (3, _)] ⟨rfl, rfl, rfl, trivial⟩ ?_)
        first
          | (subst hx9
             exact ⟨_, _, _, _, _, _, hst, hU, hp, ht.mono fun k hk => by simp only [Bt] at *; omega, hB1, hb3, rfl⟩)
          | (rw [if_neg (by simpa using hc4)] at hx9
             subst hx9
             exact ⟨_, _, _, _, _, _, Pst.refl _, hU, hp, TM.ex0 (by simp [inK]), hB1, hb3, rfl⟩)
    · clear hU hp hB1 hb3
      rintro E wA ⟨y0, y1, y2, y3, y4, y5, hPst, hU, hp, ht, hB1, hb3, rfl⟩
      have hsA := hU.size
      have hlt1 := hB1.lt
      have hlt3 := hb3.lt
      have hd2 := hPst.1
      obtain ⟨tk, ts, tn, trc, tps, tks, tA9, tp9, tA, tp, tys, txs, het, hcs9, _⟩ := ht.mk6
      obtain ⟨rfl, rfl, rfl, rfl, rfl, rfl⟩ : y0 = _ ∧ y1 = _ ∧ y2 = _ ∧ y3 = _ ∧ y4 = _ ∧ y5 = _ := by simpa using hcs9
      refine WC.seq (WC.region ?_)
      obtain ⟨FD, bD, offD, cD, zD, badD, hbD, hzD, hrD, hFD, hID⟩ := hp.open
      refine WL.val rfl rfl rfl rfl (r_move rfl (ev_t rfl)) ?_
      refine WL.val rfl rfl rfl rfl (r_nilCheck rfl (ev_t rfl)) ?_
      refine WL.val rfl rfl rfl rfl (r_field0 rfl (ev_t rfl) fld_58_2) ?_
      refine WL.val rfl rfl rfl rfl (r_load rfl (ev_t rfl) flat_3 (Blk.cell hbD rfl)) ?_
      refine WL.val rfl rfl rfl rfl (r_subN rfl (ev_t rfl) ev_c (by simp only [inK]; omega)) ?_
      refine WL.val rfl rfl rfl rfl (r_nilCheck rfl (ev_t rfl)) ?_
      refine WL.val rfl rfl rfl rfl (r_field0 rfl (ev_t rfl) fld_58_2) ?_
      refine WL.cons (SO.store rfl (ev_t rfl) (ev_t rfl) size_3 hbD rfl rfl rfl rfl rfl ?_)
      intro w9 hu9 hbD hz9
      have hs9 := hu9.size
      replace hU := hU.trans hu9 (by exact (fun _ _ h => h))
      replace hB1 := hB1.upd hu9 (by (simp only [At]; omega))
      replace hb3 := hb3.upd hu9 (by (simp only [At]; omega))
      replace ht := ht.upd hu9 (fun k hk hl hS => by (simp only [At, Bt] at hS hk; omega))
      refine WL.nil (WX.keep [(2, _), (3, _)] ⟨rfl, rfl, trivial⟩ ?_)
      rw [PS.clsB hp (by omega)] at hbD
      have hp9 : PS w9 r B0 A (clsQ x9.2) := hp.shut hu9 hbD hzD (hrD.upd hu9 (fun k hk hl hS => (hFD k hk).1 hS)) hFD hp.suf hp.fin (by show x9.2.d - 1 ≤ 52; have := hp.dle; omega) hp.ele
      refine WX.next (WC.seq (WC.region (WL.val rfl rfl rfl rfl (r_loadAgg (vs := [_, _, _, _, _, _]) rfl (ev_t rfl) agg_36 size_36 (Blk.cellsL hb3)) ?_)))
      refine WL.cons (SO.alloc rfl rfl rfl rfl (r_buildSlice6 rfl (ev_t rfl) row_34) ?_)
      intro w10 hu10 hB10 hz10
      have hs10 := hu10.size
      replace hU := hU.trans hu10 (by exact (fun _ _ h => h.elim))
      replace hB1 := hB1.upd hu10 (by exact (fun h => h))
      replace hb3 := hb3.upd hu10 (by exact (fun h => h))
      replace ht := ht.upd hu10 (fun k hk hl hS => by exact (show False from hS).elim)
      replace hp9 := hp9.updA hu10
      have hrow := hB10
      change Blk _ _ #[.int .u8 (tk : Int), Sv ts, .int .i64 tn, .bool trc, .slice tA9 tps.length tp9, .slice tA tks.length tp] _ at hrow
      refine WL.val rfl rfl rfl rfl (r_build (cs := #[_, _, _, _, _, _]) (vs := [(0, _), (5, _)]) rfl ⟨⟨rfl, ev_c⟩, ⟨rfl, (ev_t rfl)⟩, trivial⟩ plc_36 zero_36 rfl) ?_
      refine WL.cons (SO.storeAll (us := [_, _, _, _, _, _]) rfl (ev_t rfl) (ev_t rfl) size_36 hB1 rfl rfl rfl rfl rfl ?_)
      intro w11 hu11 hB1 hz11
      have hs11 := hu11.size
      replace hU := hU.trans hu11 (by (intro k hl hk; (try simp only [At, New, Grow, From, No] at hk ⊢); omega))
      replace hb3 := hb3.upd hu11 (by (simp only [At]; omega))
      replace ht := ht.upd hu11 (fun k hk hl hS => by (simp only [At, Bt] at hS hk; omega))
      replace hp9 := hp9.updA hu11
      replace hrow := hrow.updA hu11
      refine WL.nil (WX.keep [(2, _)] ⟨rfl, trivial⟩ (WX.next (WC.ret (WX.retC (vs := [_, _, _, _, _, _]) rfl rfl agg_36 size_36 (Blk.cellsL hB1) ?_))))
      exact ⟨_, rfl, TM.exK (xs := [[_, _, _, _, _, _]]) (Rd.of_blk (F := Bt _ _) (n := 1) (sz := 6) hrow (by have := hrow.lt; simp only [Bt]; omega) rfl (by omega)) (Ms.cons (ht.mono fun k hk => by simp only [Bt] at *; omega) (Ms.nil _ _)) (by simp [inK]), hp9, (Pst.tl _).trans hPst.cls, hU⟩
theorem sgnL_ne (lv : Nat) : ∀ u ∈ sgnL lv, u ≠ [] := by
  unfold sgnL
  split <;> decide
theorem sgnL_le (lv : Nat) : (sgnL lv).length ≤ 4 := by
  unfold sgnL
  split <;> decide
def sgnS (s : St) (lv : Nat) : St := if (sgnQ s lv).isSome = true then tlQ s else s
set_option maxHeartbeats 1000000 in
theorem sign_ok {w : World} {r B0 : Nat} {A : List Tok} {s : St} {lv : Nat} (hp : PS w r B0 A s) (hlv : lv ≤ 6) : Ret Tryz.prog 116 #[.pointer (some ⟨r, 0, none⟩), .int .i64 (lv : Int)] w fun v w' => v = Sv ((sgnQ s lv).getD []) ∧ PS w' r B0 A (sgnS s lv) ∧ Upd (At r) w w' := by
  obtain ⟨hI1, hI2, hI3, hI4, hI5⟩ := hp.I
  refine enterRet (vs := [_, _]) (N := 40) Tryz.func116 rfl rfl rfl ?_
  have hU := Upd.refl (At r) w
  refine WC.keep [(0, _), (1, _)] ⟨rfl, rfl, trivial⟩ (WC.seq (WC.region (WL.val rfl rfl rfl rfl (r_assign rfl ev_c) ?_)))
  refine WL.nil (WX.keep [(0, _), (1, _)] ⟨rfl, rfl, trivial⟩ (WX.next (WC.seq (WC.region (WL.cons (SO.alloc rfl rfl rfl rfl (r_buildSlice1 (vs := [_]) rfl ⟨ev_c, trivial⟩ rfl row_66 rfl rfl) ?_))))))
  intro w1 hu1 hB1 hz1
  have hs1 := hu1.size
  replace hU := hU.trans hu1 (by exact (fun _ _ h => h.elim))
  replace hp := hp.upd hu1 (by exact (fun _ _ h => h))
  have hr0 := hB1
  refine WL.cons (SO.alloc rfl rfl rfl rfl (r_buildSlice1 (vs := [_]) rfl ⟨ev_c, trivial⟩ rfl row_66 rfl rfl) ?_)
  intro w2 hu2 hB2 hz2
  have hs2 := hu2.size
  replace hU := hU.trans hu2 (by exact (fun _ _ h => h.elim))
  replace hp := hp.upd hu2 (by exact (fun _ _ h => h))
  replace hr0 := hr0.upd hu2 (fun h => h)
  have hr1 := hB2
  refine WL.cons (SO.alloc rfl rfl rfl rfl (r_buildSlice1 (vs := [_]) rfl ⟨ev_c, trivial⟩ rfl row_66 rfl rfl) ?_)
  intro w3 hu3 hB3 hz3
  have hs3 := hu3.size
  replace hU := hU.trans hu3 (by exact (fun _ _ h => h.elim))
  replace hp := hp.upd hu3 (by exact (fun _ _ h => h))
  replace hr0 := hr0.upd hu3 (fun h => h)
  replace hr1 := hr1.upd hu3 (fun h => h)
  have hr2 := hB3
  refine WL.cons (SO.alloc rfl rfl rfl rfl (r_buildSlice1 (vs := [_, _, _, _]) rfl ⟨ev_c, ev_c, ev_c, ev_c, trivial⟩ rfl row_66 rfl rfl) ?_)
  intro w4 hu4 hB4 hz4
  have hs4 := hu4.size
  replace hU := hU.trans hu4 (by exact (fun _ _ h => h.elim))
  replace hp := hp.upd hu4 (by exact (fun _ _ h => h))
  replace hr0 := hr0.upd hu4 (fun h => h)
  replace hr1 := hr1.upd hu4 (fun h => h)
  replace hr2 := hr2.upd hu4 (fun h => h)
  have hr3 := hB4
  refine WL.cons (SO.alloc rfl rfl rfl rfl (r_buildSlice1 (vs := [_, _]) rfl ⟨ev_c, ev_c, trivial⟩ rfl row_66 rfl rfl) ?_)
  intro w5 hu5 hB5 hz5
  have hs5 := hu5.size
  replace hU := hU.trans hu5 (by exact (fun _ _ h => h.elim))
  replace hp := hp.upd hu5 (by exact (fun _ _ h => h))
  replace hr0 := hr0.upd hu5 (fun h => h)
  replace hr1 := hr1.upd hu5 (fun h => h)
  replace hr2 := hr2.upd hu5 (fun h => h)
  replace hr3 := hr3.upd hu5 (fun h => h)
  have hr4 := hB5
  refine WL.cons (SO.alloc rfl rfl rfl rfl (r_buildSlice1 (vs := [_, _]) rfl ⟨ev_c, ev_c, trivial⟩ rfl row_66 rfl rfl) ?_)
  intro w6 hu6 hB6 hz6
  have hs6 := hu6.size
  replace hU := hU.trans hu6 (by exact (fun _ _ h => h.elim))
  replace hp := hp.upd hu6 (by exact (fun _ _ h => h))
  replace hr0 := hr0.upd hu6 (fun h => h)
  replace hr1 := hr1.upd hu6 (fun h => h)
  replace hr2 := hr2.upd hu6 (fun h => h)
  replace hr3 := hr3.upd hu6 (fun h => h)
  replace hr4 := hr4.upd hu6 (fun h => h)
  have hr5 := hB6
  refine WL.cons (SO.alloc rfl rfl rfl rfl (r_buildSlice1 (vs := [_, _, _]) rfl ⟨ev_c, ev_c, ev_c, trivial⟩ rfl row_66 rfl rfl) ?_)
  intro w7 hu7 hB7 hz7
  have hs7 := hu7.size
  replace hU := hU.trans hu7 (by exact (fun _ _ h => h.elim))
  replace hp := hp.upd hu7 (by exact (fun _ _ h => h))
  replace hr0 := hr0.upd hu7 (fun h => h)
  replace hr1 := hr1.upd hu7 (fun h => h)
  replace hr2 := hr2.upd hu7 (fun h => h)
  replace hr3 := hr3.upd hu7 (fun h => h)
  replace hr4 := hr4.upd hu7 (fun h => h)
  replace hr5 := hr5.upd hu7 (fun h => h)
  have hr6 := hB7
  refine WL.cons (SO.alloc rfl rfl rfl rfl (r_buildSlice1 (vs := [_, _, _, _, _, _, _]) rfl ⟨(ev_t rfl), (ev_t rfl), (ev_t rfl), (ev_t rfl), (ev_t rfl), (ev_t rfl), (ev_t rfl), trivial⟩ rfl row_176 rfl rfl) ?_)
  intro w8 hu8 hB8 hz8
  have hs8 := hu8.size
  replace hU := hU.trans hu8 (by exact (fun _ _ h => h.elim))
  replace hp := hp.upd hu8 (by exact (fun _ _ h => h))
  replace hr0 := hr0.upd hu8 (fun h => h)
  replace hr1 := hr1.upd hu8 (fun h => h)
  replace hr2 := hr2.upd hu8 (fun h => h)
  replace hr3 := hr3.upd hu8 (fun h => h)
  replace hr4 := hr4.upd hu8 (fun h => h)
  replace hr5 := hr5.upd hu8 (fun h => h)
  replace hr6 := hr6.upd hu8 (fun h => h)
  refine WL.val rfl rfl rfl rfl (r_assign rfl (ev_t rfl)) ?_
  refine WL.nil (WX.keep [(0, _), (1, _), (5, _)] ⟨rfl, rfl, rfl, trivial⟩ ?_)
  have hm := hB8
  obtain ⟨bm, hbm⟩ : ∃ bm, bm = w7.heap.size := ⟨_, rfl⟩
  rw [← hbm] at hm ⊢
  have hbmw : w.heap.size ≤ bm := by omega
  obtain ⟨bl, cs9, hl, hlw, hm9, hc⟩ : ∃ bl cs9, Blk w8 bl ((sgnL lv).map Sv).toArray 9 ∧ w.heap.size ≤ bl ∧ Blk w8 bm cs9 66 ∧ cs9[lv]? = some (.slice (some ⟨bl, 0, none⟩) (sgnL lv).length (sgnL lv).length) := by
    rcases (show lv = 0 ∨ lv = 1 ∨ lv = 2 ∨ lv = 3 ∨ lv = 4 ∨ lv = 5 ∨ lv = 6 by omega) with h | h | h | h | h | h | h
    · subst h; exact ⟨_, _, hr0, by omega, hm, rfl⟩
    · subst h; exact ⟨_, _, hr1, by omega, hm, rfl⟩
    · subst h; exact ⟨_, _, hr2, by omega, hm, rfl⟩
    · subst h; exact ⟨_, _, hr3, by omega, hm, rfl⟩
    · subst h; exact ⟨_, _, hr4, by omega, hm, rfl⟩
    · subst h; exact ⟨_, _, hr5, by omega, hm, rfl⟩
    · subst h; exact ⟨_, _, hr6, by omega, hm, rfl⟩
  clear hr0 hr1 hr2 hr3 hr4 hr5 hr6 hm
  obtain ⟨L, hL⟩ : ∃ L, L = sgnL lv := ⟨_, rfl⟩
  have hLl := sgnL_le lv
  rw [← hL] at hl hc hLl
  have hsg : sgnQ s lv = L.find? fun u => isQ s u := by rw [hL]; rfl
  refine WX.next (WC.seq (WC.seq (WC.region (WL.val rfl rfl rfl rfl (r_assign rfl ev_c) ?_))))
  refine WL.nil (WX.keep [(0, _), (1, _), (5, _), (6, _)] ⟨rfl, rfl, rfl, rfl, trivial⟩ (WX.next (WC.block ?_)))
  -- loop 1: live [0, 1, 5, 6]
  refine WC.keep [(0, _), (1, _), (5, _), (6, _)] ⟨rfl, rfl, rfl, rfl, trivial⟩ (WC.loop (fun qq E wA => ∃ (i : Nat), i ≤ L.length ∧ qq = L.length - i ∧ (∀ u ∈ L.take i, isQ s u = false) ∧ Upd (At r) w wA ∧ PS wA r B0 A s ∧ Blk wA bl (L.map Sv).toArray 9 ∧ Blk wA bm cs9 66 ∧ E = [(0, (.pointer (some ⟨r, 0, none⟩))), (1, .int .i64 (lv : Int)), (5, .slice (some ⟨bm, 0, none⟩) 7 7), (6, .int .i64 (i : Int))]) (L.length) ?_ ?_)
  · exact ⟨0, by omega, by omega, by simp, hU, hp, hl, hm9, rfl⟩
  · clear hU hp hl hm9
    rintro qq E wA ⟨i, hi, rfl, hno, hU, hp, hl, hm, rfl⟩
    have hcl : wA.cell? ⟨bm, 0 + (lv : Int).toNat * 1, none⟩ = some (.slice (some ⟨bl, 0, none⟩) L.length L.length) := hm.cell (by rw [show 0 + (lv : Int).toNat * 1 = lv by omega]; exact hc)
    refine WC.seq (WC.seq (WC.region (WL.val rfl rfl rfl rfl (r_move rfl (ev_t rfl)) ?_)))
    refine WL.val rfl rfl rfl rfl (r_move rfl (ev_t rfl)) ?_
    refine WL.val rfl rfl rfl rfl (r_move rfl (ev_t rfl)) ?_
    refine WL.val rfl rfl rfl rfl (r_indexAddr rfl (ev_t rfl) (ev_t rfl) elem_176 size_66 (by omega) (by omega)) ?_
    refine WL.val rfl rfl rfl rfl (r_load rfl (ev_t rfl) flat_66 hcl) ?_
    refine WL.val rfl rfl rfl rfl (r_lenSlice (ts := #[]) rfl (ev_t rfl) elem_66) ?_
    refine WL.val rfl rfl rfl rfl (r_lss rfl (ev_t rfl) (ev_t rfl)) ?_
    refine WL.nil (WX.keep [(0, _), (1, _), (5, _), (6, _), (21, _)] ⟨rfl, rfl, rfl, rfl, rfl, trivial⟩ (WX.next (WC.cond rfl (ev_t rfl) (fun hc3 => ?_) (fun hc3 => ?_))))
    · try simp only [cS, ne_eq, Decidable.not_not] at hc3
      have hi2 : i < L.length := by omega
      have hx : L[i]? = some L[i] := List.getElem?_eq_getElem hi2
      generalize L[i] = x at hx
      have hxm := List.mem_of_getElem? hx
      have hxe := sgnL_ne lv x (by rw [← hL]; exact hxm)
      refine WC.skip (WX.next (WC.seq (WC.block (WC.seq (WC.region (WL.val rfl rfl rfl rfl (r_move rfl (ev_t rfl)) ?_))))))
      refine WL.val rfl rfl rfl rfl (r_move rfl (ev_t rfl)) ?_
      refine WL.val rfl rfl rfl rfl (r_move rfl (ev_t rfl)) ?_
      refine WL.val rfl rfl rfl rfl (r_indexAddr rfl (ev_t rfl) (ev_t rfl) elem_176 size_66 (by omega) (by omega)) ?_
      refine WL.val rfl rfl rfl rfl (r_load rfl (ev_t rfl) flat_66 hcl) ?_
      refine WL.val rfl rfl rfl rfl (r_move rfl (ev_t rfl)) ?_
      refine WL.val rfl rfl rfl rfl (r_indexAddr rfl (ev_t rfl) (ev_t rfl) elem_66 size_9 (by omega) (by omega)) ?_
      refine WL.val rfl rfl rfl rfl (r_load rfl (ev_t rfl) flat_9 (Blk.cell hl (v := Sv x) (by rw [show 0 + (i : Int).toNat * 1 = i by omega, List.getElem?_toArray, List.getElem?_map, hx]; rfl))) ?_
      refine WL.cons (SO.call (take_ok (u := x) hp) rfl body_31 ⟨(ev_t rfl), (ev_t rfl), trivial⟩ rfl rfl rfl rfl ?_)
      rintro v9 w9 ⟨rfl, hp2, hu9⟩
      have hs9 := hu9.size
      replace hU := hU.trans hu9 (by exact (fun _ _ h => h))
      replace hl := hl.updA hu9
      replace hm := hm.updA hu9
      have hp := hp2
      refine WL.nil (WX.keep [(0, _), (1, _), (5, _), (6, _), (32, _)] ⟨rfl, rfl, rfl, rfl, rfl, trivial⟩ (WX.next (WC.cond rfl (ev_t rfl) (fun hc5 => ?_) (fun hc5 => ?_))))
      · rw [takQ_T hc5] at hp
        refine WC.seq (WC.region ?_)
        have hcl2 : w9.cell? ⟨bm, 0 + (lv : Int).toNat * 1, none⟩ = some (.slice (some ⟨bl, 0, none⟩) L.length L.length) := hm.cell (by rw [show 0 + (lv : Int).toNat * 1 = lv by omega]; exact hc)
        refine WL.val rfl rfl rfl rfl (r_move rfl (ev_t rfl)) ?_
        refine WL.val rfl rfl rfl rfl (r_move rfl (ev_t rfl)) ?_
        refine WL.val rfl rfl rfl rfl (r_indexAddr rfl (ev_t rfl) (ev_t rfl) elem_176 size_66 (by omega) (by omega)) ?_
        refine WL.val rfl rfl rfl rfl (r_load rfl (ev_t rfl) flat_66 hcl2) ?_
        refine WL.val rfl rfl rfl rfl (r_move rfl (ev_t rfl)) ?_
        refine WL.val rfl rfl rfl rfl (r_indexAddr rfl (ev_t rfl) (ev_t rfl) elem_66 size_9 (by omega) (by omega)) ?_
        refine WL.val rfl rfl rfl rfl (r_load rfl (ev_t rfl) flat_9 (Blk.cell hl (v := Sv x) (by rw [show 0 + (i : Int).toNat * 1 = i by omega, List.getElem?_toArray, List.getElem?_map, hx]; rfl))) ?_
        refine WL.val rfl rfl rfl rfl (r_assign rfl (ev_t rfl)) ?_
        refine WL.nil (WX.keep [(4, _)] ⟨rfl, trivial⟩ (WX.next (WC.ret (WX.blockRet (WX.thenRet (WX.thenRet (WX.blockRet (WX.thenRet (WX.retE1 rfl rfl ?_)))))))))
        have hf : sgnQ s lv = some x := by rw [hsg]; exact find_of L i x hno hx hc5
        refine ⟨by rw [hf]; rfl, ?_, hU⟩
        unfold sgnS
        rw [hf, if_pos (show (some x).isSome = true from rfl)]
        exact hp
      · rw [takQ_F hc5] at hp
        refine WC.skip (WX.blockNormal (WX.next (WC.region (WL.val rfl rfl rfl rfl (r_move rfl (ev_t rfl)) ?_))))
        refine WL.val rfl rfl rfl rfl (r_addN rfl (ev_t rfl) ev_c (by simp only [inK]; omega)) ?_
        refine WL.val rfl rfl rfl rfl (r_assign rfl (ev_t rfl)) ?_
        refine WL.nil (WX.keep [(0, _), (1, _), (5, _), (6, _)] ⟨rfl, rfl, rfl, rfl, trivial⟩ (WX.meet [(0, _), (1, _), (5, _), (6, _)] ⟨rfl, rfl, rfl, rfl, trivial⟩ ?_))
        refine ⟨L.length - (i + 1), by omega, i + 1, by omega, rfl, fun u hu => ?_, hU, hp, hl, hm, by simp⟩
        rw [List.take_add_one, hx] at hu
        rcases List.mem_append.1 hu with h | h
        · exact hno u h
        · obtain rfl : u = x := by simpa using h
          exact hc5
    · try simp only [cS, ne_eq, Decidable.not_not] at hc3
      refine WC.exit (WX.thenExit (WX.thenExit (WX.blockHere (WX.next (WC.seq (WC.region (WL.val rfl rfl rfl rfl (r_assign rfl ev_c) ?_)))))))
      refine WL.nil (WX.keep [(4, _)] ⟨rfl, trivial⟩ (WX.next (WC.ret (WX.retE1 rfl rfl ?_))))
      obtain rfl : i = L.length := by omega
      rw [List.take_length] at hno
      have hf : sgnQ s lv = none := by rw [hsg]; exact find_none hno
      refine ⟨by rw [hf]; rfl, ?_, hU⟩
      unfold sgnS
      rw [hf, if_neg (by simp)]
      exact hp
end Go.Proofs.YtomkdhkkggbioaaGreatDoor

/-
 The reference's parser: operands and signs.
-/
namespace Go.Proofs.YtomkdhkkggbioaaGreatDoor
open Go
set_option linter.unusedSimpArgs false
set_option linter.unusedVariables false

theorem opL_stop {f : EQ} {lv k : Nat} {a : Ex} {s : St} (h : sgnQ s lv = none) : opL f lv k a s = (a, s) := by
 cases k with
 | zero => rfl
 | succ k => simp [opL, h]
theorem opL_last {f : EQ} {lv k : Nat} {a : Ex} {s : St} {u : List UInt8} (h : sgnQ s lv = some u) (hr : rgtQ lv = true) : opL f lv (k + 1) a s = (mkOp u a (opR f lv (tlQ s)).1, clsQ (opR f lv (tlQ s)).2) := by simp [opL, h, hr]
theorem opL_step {f : EQ} {lv k : Nat} {a : Ex} {s : St} {u : List UInt8} (h : sgnQ s lv = some u) (hr : rgtQ lv = false) : opL f lv (k + 1) a s = opL f lv k (mkOp u a (opR f lv (tlQ s)).1) (clsQ (opR f lv (tlQ s)).2) := by simp [opL, h, hr]
theorem sgnQ_ne {s : St} {lv : Nat} {u : List UInt8} (h : sgnQ s lv = some u) : u ≠ [] := sgnL_ne lv u (List.mem_of_find?_eq_some h)
def OpC (g : Nat → St → Ex × St) (n : Nat) (lv : Nat) : Prop := ∀ (w : World) (r B0 : Nat) (A : List Tok) (s : St), PS w r B0 A s → s.d ≤ 50 → 51 ≤ s.d + n →
 Ret Tryz.prog 100 #[.pointer (some ⟨r, 0, none⟩), .int .i64 (lv : Int)] w fun v w' => ∃ c, v = .agg c.toArray ∧ TM w' (Bt w.heap.size w'.heap.size) c (g lv s).1 ∧ PS w' r B0 A (g lv s).2 ∧ Pst s (g lv s).2 ∧ Upd (At r) w w'
theorem op_zero {n : Nat} (ih : PC 115 (preB (eq9 n)) (n + 1)) : OpC (fun lv => opB (eq9 n) (7 - lv)) (n + 1) 7 := by
 intro w r B0 A s hp hd hn
 obtain ⟨hI1, hI2, hI3, hI4, hI5⟩ := hp.I
 show Ret _ _ _ _ fun v w' => ∃ c, v = .agg c.toArray ∧ TM w' (Bt w.heap.size w'.heap.size) c (preB (eq9 n) s).1 ∧ PS w' r B0 A (preB (eq9 n) s).2 ∧ Pst s (preB (eq9 n) s).2 ∧ Upd (At r) w w'
 refine enterRet (vs := [_, _]) (N := 61) Tryz.func100 rfl rfl rfl ?_
 have hU := Upd.refl (At r) w
 refine WC.keep [(0, _), (1, _)] ⟨rfl, rfl, trivial⟩ (WC.seq (WC.region (WL.cons (SO.alloc rfl rfl rfl rfl (r_alloc rfl zero_36) ?_))))
 intro w1 hu1 hB1 hz1
 have hs1 := hu1.size
 replace hU := hU.trans hu1 (by exact (fun _ _ h => h.elim))
 replace hp := hp.upd hu1 (by exact (fun _ _ h => h))
 refine WL.nil (WX.keep [(0, _), (1, _), (4, _)] ⟨rfl, rfl, rfl, trivial⟩ (WX.next (WC.seq (WC.seq (WC.region (WL.val rfl rfl rfl rfl (r_move rfl (ev_t rfl)) ?_))))))
 refine WL.val rfl rfl rfl rfl (r_eql rfl (ev_t rfl) ev_c) ?_
 refine WL.nil (WX.keep [(0, _), (1, _), (4, _), (11, _)] ⟨rfl, rfl, rfl, rfl, trivial⟩ (WX.next (WC.cond rfl (ev_t rfl) (fun hc1 => ?_) (fun hc1 => ?_))))
 ·try simp only [cS, ne_eq, Decidable.not_not] at hc1
  refine WC.seq (WC.region (WL.val rfl rfl rfl rfl (r_move rfl (ev_t rfl)) ?_))
  refine WL.cons (SO.call (ih _ _ _ _ _ hp (by (try simp only [tlQ_d, musQ_d, takQ_d, txtQ_d]); omega) (by (try simp only [tlQ_d, musQ_d, takQ_d, txtQ_d]); omega)) rfl body_115 ⟨(ev_t rfl), trivial⟩ rfl rfl rfl rfl ?_)
  rintro v9 w2 ⟨c9, rfl, ht, hp2, hst, hu2⟩
  have hs2 := hu2.size
  replace hU := hU.trans hu2 (by exact (fun _ _ h => h))
  replace hB1 := hB1.upd hu2 (by (simp only [At]; omega))
  have hp := hp2
  have hsd := hst.1
  try simp only [tlQ_d, musQ_d, takQ_d, txtQ_d] at hsd
  obtain ⟨tk, ts, tn, trc, tps, tks, tA9, tp9, tA, tp, tys, txs, het, rfl, _⟩ := ht.mk6
  refine WL.cons (SO.storeAll (us := [_, _, _, _, _, _]) rfl (ev_t rfl) (ev_t rfl) size_36 hB1 rfl rfl rfl rfl rfl ?_)
  intro w3 hu3 hB1 hz3
  have hs3 := hu3.size
  replace hU := hU.trans hu3 (by (intro k hl hk; (try simp only [At, New, Grow, From, No] at hk ⊢); omega))
  replace hp := hp.upd hu3 (by (intro k hk hS; first | (simp only [At] at hS; omega) | (have := hG k hS; omega)))
  replace ht := ht.upd hu3 (fun k hk hl hS => by (simp only [At, Bt] at hS hk; omega))
  refine WL.nil (WX.keep [(4, _)] ⟨rfl, trivial⟩ (WX.next (WC.ret (WX.thenRet (WX.retC (vs := [_, _, _, _, _, _]) rfl rfl agg_36 size_36 (Blk.cellsL hB1) ?_)))))
  exact ⟨_, rfl, ht.mono fun k hk => by simp only [Bt] at *; omega, hp, hst, hU⟩
 ·try simp only [cS, ne_eq, Decidable.not_not] at hc1
  exfalso
  simp at hc1
set_option maxHeartbeats 8000000 in
theorem op_step {n lv : Nat} (hlv : lv ≤ 6) (ih : OpC (fun lv => opB (eq9 n) (7 - lv)) (n + 1) (lv + 1)) (ihO : ∀ lv, lv ≤ 7 → OpC (eq9 n).op n lv) : OpC (fun lv => opB (eq9 n) (7 - lv)) (n + 1) lv := by
 intro w r B0 A s hp hd hn
 obtain ⟨hI1, hI2, hI3, hI4, hI5⟩ := hp.I
 have hmo := MoE.all n
 obtain ⟨j, hj⟩ : ∃ j, j = 6 - lv := ⟨_, rfl⟩
 have hj7 : 7 - lv = j + 1 := by omega
 have hj8 : 7 - (lv + 1) = j := by omega
 have hj6 : 6 - j = lv := by omega
 show Ret _ _ _ _ fun v w' => ∃ c, v = .agg c.toArray ∧ TM w' (Bt w.heap.size w'.heap.size) c (opB (eq9 n) (7 - lv) s).1 ∧ PS w' r B0 A (opB (eq9 n) (7 - lv) s).2 ∧ Pst s (opB (eq9 n) (7 - lv) s).2 ∧ Upd (At r) w w'
 obtain ⟨p9, hp9⟩ : ∃ p9, p9 = opB (eq9 n) j s := ⟨_, rfl⟩
 have hob : opB (eq9 n) (7 - lv) s = opL (eq9 n) lv p9.2.ts.length p9.1 p9.2 := by rw [hj7, opB, hj6, hp9]
 rw [hob]
 refine enterRet (vs := [_, _]) (N := 61) Tryz.func100 rfl rfl rfl ?_
 have hU := Upd.refl (At r) w
 refine WC.keep [(0, _), (1, _)] ⟨rfl, rfl, trivial⟩ (WC.seq (WC.region (WL.cons (SO.alloc rfl rfl rfl rfl (r_alloc rfl zero_36) ?_))))
 intro w1 hu1 hB1 hz1
 have hs1 := hu1.size
 replace hU := hU.trans hu1 (by exact (fun _ _ h => h.elim))
 replace hp := hp.upd hu1 (by exact (fun _ _ h => h))
 refine WL.nil (WX.keep [(0, _), (1, _), (4, _)] ⟨rfl, rfl, rfl, trivial⟩ (WX.next (WC.seq (WC.seq (WC.region (WL.val rfl rfl rfl rfl (r_move rfl (ev_t rfl)) ?_))))))
 refine WL.val rfl rfl rfl rfl (r_eql rfl (ev_t rfl) ev_c) ?_
 refine WL.nil (WX.keep [(0, _), (1, _), (4, _), (11, _)] ⟨rfl, rfl, rfl, rfl, trivial⟩ (WX.next (WC.cond rfl (ev_t rfl) (fun hc1 => ?_) (fun hc1 => ?_))))
 ·try simp only [cS, ne_eq, Decidable.not_not] at hc1
  exfalso
  omega
 ·try simp only [cS, ne_eq, Decidable.not_not] at hc1
  refine WC.skip (WX.next (WC.seq (WC.region (WL.val rfl rfl rfl rfl (r_move rfl (ev_t rfl)) ?_))))
  refine WL.val rfl rfl rfl rfl (r_move rfl (ev_t rfl)) ?_
  refine WL.val rfl rfl rfl rfl (r_addN rfl (ev_t rfl) ev_c (by simp only [inK]; omega)) ?_
  rw [show (lv : Int) + 1 = ((lv + 1 : Nat) : Int) by omega]
  refine WL.cons (SO.call (ih _ _ _ _ _ hp hd hn) rfl body_100 ⟨(ev_t rfl), (ev_t rfl), trivial⟩ rfl rfl rfl rfl ?_)
  rintro v9 w2 ⟨c9, rfl, ht, hp2, hst, hu2⟩
  have hs2 := hu2.size
  replace hU := hU.trans hu2 (by exact (fun _ _ h => h))
  replace hB1 := hB1.upd hu2 (by (simp only [At]; omega))
  have hp := hp2
  simp only [hj8, ← hp9] at ht hp hst
  obtain ⟨tk, ts, tn, trc, tps, tks, tA9, tp9, tA, tp, tys, txs, het, rfl, _⟩ := ht.mk6
  refine WL.cons (SO.alloc rfl rfl rfl rfl (r_alloc rfl zero_36) ?_)
  intro w3 hu3 hB3 hz3
  have hs3 := hu3.size
  replace hU := hU.trans hu3 (by exact (fun _ _ h => h.elim))
  replace hB1 := hB1.upd hu3 (by exact (fun h => h))
  replace hp := hp.upd hu3 (by exact (fun _ _ h => h))
  replace ht := ht.upd hu3 (fun k hk hl hS => by exact (show False from hS).elim)
  refine WL.cons (SO.storeAll (us := [_, _, _, _, _, _]) rfl (ev_t rfl) (ev_t rfl) size_36 hB3 rfl rfl rfl rfl rfl ?_)
  intro w4 hu4 hB3 hz4
  have hs4 := hu4.size
  replace hU := hU.trans hu4 (by (intro k hl hk; (try simp only [At, New, Grow, From, No] at hk ⊢); omega))
  replace hB1 := hB1.upd hu4 (by (simp only [At]; omega))
  replace hp := hp.upd hu4 (by (intro k hk hS; first | (simp only [At] at hS; omega) | (have := hG k hS; omega)))
  replace ht := ht.upd hu4 (fun k hk hl hS => by (simp only [At, Bt] at hS hk; omega))
  refine WL.nil (WX.keep [(0, _), (1, _), (4, _), (5, _)] ⟨rfl, rfl, rfl, rfl, trivial⟩ ?_)
  have hb5 := hB3
  change Blk _ _ #[.int .u8 (tk : Int), Sv ts, .int .i64 tn, .bool trc, .slice tA9 tps.length tp9, .slice tA tks.length tp] _ at hb5
  have hlt5 := hb5.lt
  obtain ⟨b5, hb5e⟩ : ∃ b5, b5 = w2.heap.size := ⟨_, rfl⟩
  rw [← hb5e] at hb5 hlt5 ⊢
  refine WX.next (WC.block ?_)
  -- loop 1: live [0, 1, 4, 5]
  refine WC.keep [(0, _), (1, _), (4, _), (5, _)] ⟨rfl, rfl, rfl, rfl, trivial⟩ (WC.loop (fun qq E wA => ∃ (y0 y1 y2 y3 y4 y5 : Value) (x : Ex) (s1 : St) (k1 : Nat), qq = k1 ∧ s1.ts.length ≤ k1 ∧ opL (eq9 n) lv p9.2.ts.length p9.1 p9.2 = opL (eq9 n) lv k1 x s1 ∧ Pst s s1 ∧ Upd (At r) w wA ∧ PS wA r B0 A s1 ∧ TM wA (fun k => Bt (w.heap.size + 1) wA.heap.size k ∧ k ≠ b5) [y0, y1, y2, y3, y4, y5] x ∧ Blk wA w.heap.size #[.int .u8 0, .string ⟨#[]⟩, .int .i64 0, .bool false, .slice none 0 0, .slice none 0 0] 36 ∧ Blk wA b5 #[y0, y1, y2, y3, y4, y5] 36 ∧ E = [(0, (.pointer (some ⟨r, 0, none⟩))), (1, .int .i64 (lv : Int)), (4, .pointer (some ⟨w.heap.size, 0, none⟩)), (5, .pointer (some ⟨b5, 0, none⟩))]) (p9.2.ts.length) ?_ ?_)
  ·exact ⟨_, _, _, _, _, _, _, _, _, rfl, Nat.le_refl _, rfl, hst, hU, hp, ht.mono fun k hk => by simp only [Bt] at *; omega, hB1, hb5, rfl⟩
  ·clear hU hp ht hB1 hb5 hst
   rintro qq E wA ⟨y0, y1, y2, y3, y4, y5, x, s1, k1, rfl, hk1, hopl, hPst, hU, hp, ht, hB1, hb5, rfl⟩
   have hsA := hU.size
   have hlt1 := hB1.lt
   have hlt9 := hb5.lt
   have hI := hp.I
   have hd1 := hPst.1
   obtain ⟨tk, ts, tn, trc, tps, tks, tA9, tp9, tA, tp, tys, txs, het, hcs9, _⟩ := ht.mk6
   obtain ⟨rfl, rfl, rfl, rfl, rfl, rfl⟩ : y0 = _ ∧ y1 = _ ∧ y2 = _ ∧ y3 = _ ∧ y4 = _ ∧ y5 = _ := by simpa using hcs9
   have htx := ht
   refine WC.block (WC.seq (WC.region (WL.val rfl rfl rfl rfl (r_move rfl (ev_t rfl)) ?_)))
   refine WL.val rfl rfl rfl rfl (r_move rfl (ev_t rfl)) ?_
   refine WL.cons (SO.call (sign_ok hp hlv) rfl body_116 ⟨(ev_t rfl), (ev_t rfl), trivial⟩ rfl rfl rfl rfl ?_)
   rintro v9 w5 ⟨rfl, hp2, hu5⟩
   have hs5 := hu5.size
   replace hU := hU.trans hu5 (by exact (fun _ _ h => h))
   replace htx := htx.upd hu5 (fun k hk hl hS => by (simp only [At, Bt] at hS hk; omega))
   replace hB1 := hB1.upd hu5 (by (simp only [At]; omega))
   replace hb5 := hb5.upd hu5 (by (simp only [At]; omega))
   have hp := hp2
   refine WL.val rfl rfl rfl rfl (r_assign rfl (ev_t rfl)) ?_
   refine WL.nil (WX.keep [(0, _), (1, _), (4, _), (5, _), (6, _)] ⟨rfl, rfl, rfl, rfl, rfl, trivial⟩ (WX.next (WC.seq (WC.seq (WC.region (WL.val rfl rfl rfl rfl (r_move rfl (ev_t rfl)) ?_))))))
   refine WL.val rfl rfl rfl rfl (r_eqlStrL rfl (ev_t rfl) ev_c) ?_
   refine WL.nil (WX.keep [(0, _), (1, _), (4, _), (5, _), (6, _), (22, _)] ⟨rfl, rfl, rfl, rfl, rfl, rfl, trivial⟩ (WX.next (WC.cond rfl (ev_t rfl) (fun hc5 => ?_) (fun hc5 => ?_))))
   ·try simp only [cS, ne_eq, Decidable.not_not] at hc5
    have hsn : sgnQ s1 lv = none := by
     cases hs9 : sgnQ s1 lv with
     | none => rfl
     | some u => rw [hs9] at hc5; exact absurd (by simpa using hc5) (sgnQ_ne hs9)
    rw [opL_stop hsn] at hopl
    have hss : sgnS s1 lv = s1 := by unfold sgnS; rw [hsn, if_neg (by simp)]
    rw [hss] at hp
    refine WC.seq (WC.region (WL.val rfl rfl rfl rfl (r_loadAgg (vs := [_, _, _, _, _, _]) rfl (ev_t rfl) agg_36 size_36 (Blk.cellsL hb5)) ?_))
    refine WL.cons (SO.storeAll (us := [_, _, _, _, _, _]) rfl (ev_t rfl) (ev_t rfl) size_36 hB1 rfl rfl rfl rfl rfl ?_)
    intro w6 hu6 hB1 hz6
    have hs6 := hu6.size
    replace hU := hU.trans hu6 (by (intro k hl hk; (try simp only [At, New, Grow, From, No] at hk ⊢); omega))
    replace htx := htx.upd hu6 (fun k hk hl hS => by (simp only [At, Bt] at hS hk; omega))
    replace hb5 := hb5.upd hu6 (by (simp only [At]; omega))
    replace hp := hp.upd hu6 (by (intro k hk hS; first | (simp only [At] at hS; omega) | (have := hG k hS; omega)))
    refine WL.nil (WX.keep [(4, _)] ⟨rfl, trivial⟩ (WX.next (WC.ret (WX.thenRet (WX.blockRet (WX.thenRet (WX.blockRet (WX.retC (vs := [_, _, _, _, _, _]) rfl rfl agg_36 size_36 (Blk.cellsL hB1) ?_))))))))
    rw [hopl]
    exact ⟨_, rfl, htx.mono fun k hk => by simp only [Bt] at *; omega, hp, hPst, hU⟩
   ·try simp only [cS, ne_eq, Decidable.not_not] at hc5
    obtain ⟨u, hsn⟩ : ∃ u, sgnQ s1 lv = some u := by
     cases hs9 : sgnQ s1 lv with
     | none => rw [hs9] at hc5; simp at hc5
     | some u => exact ⟨u, rfl⟩
    have hss : sgnS s1 lv = tlQ s1 := by unfold sgnS; rw [hsn, if_pos (show (some u).isSome = true from rfl)]
    rw [hss] at hp
    rw [hsn, Option.getD_some]
    obtain ⟨k2, rfl⟩ : ∃ k2, qq = k2 + 1 := ⟨qq - 1, by omega⟩
    have htl := tlQ_len s1
    have hod := opnQ_d (tlQ s1)
    rw [tlQ_d] at hod
    obtain ⟨o9, ho9⟩ : ∃ o9, o9 = opR (eq9 n) lv (tlQ s1) := ⟨_, rfl⟩
    have hmR := hmo.opR lv (tlQ s1)
    rw [← ho9] at hmR
    refine WC.skip (WX.next (WC.seq (WC.region (WL.cons (SO.alloc rfl rfl rfl rfl (r_alloc rfl zero_36) ?_)))))
    intro w7 hu7 hB7 hz7
    have hs7 := hu7.size
    replace hU := hU.trans hu7 (by exact (fun _ _ h => h.elim))
    replace htx := htx.upd hu7 (fun k hk hl hS => by exact (show False from hS).elim)
    replace hB1 := hB1.upd hu7 (by exact (fun h => h))
    replace hb5 := hb5.upd hu7 (by exact (fun h => h))
    replace hp := hp.upd hu7 (by exact (fun _ _ h => h))
    refine WL.nil (WX.keep [(0, _), (1, _), (4, _), (5, _), (6, _), (7, _)] ⟨rfl, rfl, rfl, rfl, rfl, rfl, trivial⟩ ?_)
    have hb7 := hB7
    change Blk _ _ #[.int .u8 0, .string ⟨#[]⟩, .int .i64 0, .bool false, .slice none 0 0, .slice none 0 0] 36 at hb7
    have hlt7 := hb7.lt
    obtain ⟨b7, hb7e⟩ : ∃ b7, b7 = w5.heap.size := ⟨_, rfl⟩
    rw [← hb7e] at hb7 hlt7 ⊢
    have hx7 : TM w7 (fun k => Bt (w.heap.size + 1) b7 k ∧ k ≠ b5) _ x := htx.mono fun k hk => by simp only [Bt] at *; omega
    have hb57 : b5 < b7 := by omega
    have hw57 : w.heap.size < b5 := by omega
    refine WX.next ?_
    -- cut r8: live [0, 1, 4, 5, 6, 7, 8]
    refine WC.cut (fun E wA => Upd (At r) w wA ∧ PS wA r B0 A (tlQ s1) ∧ TM wA (fun k => Bt (w.heap.size + 1) b7 k ∧ k ≠ b5) [.int .u8 (tk : Int), Sv ts, .int .i64 tn, .bool trc, .slice tA9 tps.length tp9, .slice tA tks.length tp] x ∧ Blk wA w.heap.size #[.int .u8 0, .string ⟨#[]⟩, .int .i64 0, .bool false, .slice none 0 0, .slice none 0 0] 36 ∧ Blk wA b5 #[.int .u8 (tk : Int), Sv ts, .int .i64 tn, .bool trc, .slice tA9 tps.length tp9, .slice tA tks.length tp] 36 ∧ Blk wA b7 #[.int .u8 0, .string ⟨#[]⟩, .int .i64 0, .bool false, .slice none 0 0, .slice none 0 0] 36 ∧ E = [(0, (.pointer (some ⟨r, 0, none⟩))), (1, .int .i64 (lv : Int)), (4, .pointer (some ⟨w.heap.size, 0, none⟩)), (5, .pointer (some ⟨b5, 0, none⟩)), (6, Sv u), (7, .pointer (some ⟨b7, 0, none⟩)), (8, .bool (rgtQ lv))]) ?_ ?_
    ·refine WC.region (WL.val rfl rfl rfl rfl (r_move rfl (ev_t rfl)) ?_)
     refine WL.val rfl rfl rfl rfl (r_eql rfl (ev_t rfl) ev_c) ?_
     refine WL.val rfl rfl rfl rfl (r_move rfl (ev_t rfl)) ?_
     refine WL.cases 26 rfl (fun hb8_2 => ?_) (fun hb8_2 => ?_)
     ·try simp only [cS, ne_eq, Decidable.not_not] at hb8_2
      refine WL.skip rfl rfl rfl (WL.skip rfl rfl rfl (WL.val rfl rfl rfl rfl (r_pickT rfl (ev_t rfl) ev_c) ?_))
      refine WL.val rfl rfl rfl rfl (r_assign rfl (ev_t rfl)) ?_
      refine WL.nil (WX.keep [(0, _), (1, _), (4, _), (5, _), (6, _), (7, _), (8, _)] ⟨rfl, rfl, rfl, rfl, rfl, rfl, rfl, trivial⟩ (WX.meet [(0, _), (1, _), (4, _), (5, _), (6, _), (7, _), (8, _)] ⟨rfl, rfl, rfl, rfl, rfl, rfl, rfl, trivial⟩ ?_))
      refine ⟨hU, hp, hx7, hB1, hb5, hb7, ?_⟩
      first
       | rw [show rgtQ lv = true by unfold rgtQ; simp; omega]
       | (rw [show rgtQ lv = decide ((lv : Int) = 4) by unfold rgtQ; rw [decide_eq_false (show ¬ lv = 0 by omega), Bool.false_or, decide_eq_decide]; omega])
     ·try simp only [cS, ne_eq, Decidable.not_not] at hb8_2
      refine WL.val rfl rfl rfl rfl (r_move rfl (ev_t rfl)) ?_
      refine WL.val rfl rfl rfl rfl (r_eql rfl (ev_t rfl) ev_c) ?_
      refine WL.val rfl rfl rfl rfl (r_pickF rfl (ev_t rfl) (ev_t rfl)) ?_
      refine WL.val rfl rfl rfl rfl (r_assign rfl (ev_t rfl)) ?_
      refine WL.nil (WX.keep [(0, _), (1, _), (4, _), (5, _), (6, _), (7, _), (8, _)] ⟨rfl, rfl, rfl, rfl, rfl, rfl, rfl, trivial⟩ (WX.meet [(0, _), (1, _), (4, _), (5, _), (6, _), (7, _), (8, _)] ⟨rfl, rfl, rfl, rfl, rfl, rfl, rfl, trivial⟩ ?_))
      refine ⟨hU, hp, hx7, hB1, hb5, hb7, ?_⟩
      first
       | rw [show rgtQ lv = true by unfold rgtQ; simp; omega]
       | (rw [show rgtQ lv = decide ((lv : Int) = 4) by unfold rgtQ; rw [decide_eq_false (show ¬ lv = 0 by omega), Bool.false_or, decide_eq_decide]; omega])
    ·clear hU hp hx7 hB1 hb5 hb7
     rintro E wA ⟨hU, hp, hx7, hB1, hb5, hb7, rfl⟩
     have hsA := hU.size
     have hlt7 := hb7.lt
     -- cut 9: live [0, 1, 4, 5, 6, 7, 8]
     refine WC.cut (fun E wA => ∃ (z0 z1 z2 z3 z4 z5 : Value), Upd (At r) w wA ∧ PS wA r B0 A o9.2 ∧ TM wA (fun k => Bt (w.heap.size + 1) b7 k ∧ k ≠ b5) [.int .u8 (tk : Int), Sv ts, .int .i64 tn, .bool trc, .slice tA9 tps.length tp9, .slice tA tks.length tp] x ∧ TM wA (Bt (b7 + 1) wA.heap.size) [z0, z1, z2, z3, z4, z5] o9.1 ∧ Blk wA w.heap.size #[.int .u8 0, .string ⟨#[]⟩, .int .i64 0, .bool false, .slice none 0 0, .slice none 0 0] 36 ∧ Blk wA b5 #[.int .u8 (tk : Int), Sv ts, .int .i64 tn, .bool trc, .slice tA9 tps.length tp9, .slice tA tks.length tp] 36 ∧ Blk wA b7 #[z0, z1, z2, z3, z4, z5] 36 ∧ E = [(0, (.pointer (some ⟨r, 0, none⟩))), (1, .int .i64 (lv : Int)), (4, .pointer (some ⟨w.heap.size, 0, none⟩)), (5, .pointer (some ⟨b5, 0, none⟩)), (6, Sv u), (7, .pointer (some ⟨b7, 0, none⟩)), (8, .bool (rgtQ lv))]) ?_ ?_
     ·refine WC.seq (WC.region (WL.val rfl rfl rfl rfl (r_move rfl (ev_t rfl)) ?_))
      refine WL.cons (SO.call (open_ok9 hp (by rw [tlQ_d]; omega)) rfl body_87 ⟨(ev_t rfl), trivial⟩ rfl rfl rfl rfl ?_)
      rintro v9 w8 ⟨rfl, hp2, hu8⟩
      have hs8 := hu8.size
      replace hU := hU.trans hu8 (by exact (fun _ _ h => h))
      replace hx7 := hx7.upd hu8 (fun k hk hl hS => by (simp only [At, Bt] at hS hk; omega))
      replace hB1 := hB1.upd hu8 (by (simp only [At]; omega))
      replace hb5 := hb5.upd hu8 (by (simp only [At]; omega))
      replace hb7 := hb7.upd hu8 (by (simp only [At]; omega))
      have hp := hp2
      refine WL.nil (WX.keep [(0, _), (1, _), (4, _), (5, _), (6, _), (7, _), (8, _), (31, _)] ⟨rfl, rfl, rfl, rfl, rfl, rfl, rfl, rfl, trivial⟩ (WX.next (WC.cond rfl (ev_t rfl) (fun hc9 => ?_) (fun hc9 => ?_))))
      ·try simp only [cS, ne_eq, Decidable.not_not] at hc9
       have h0 : (opnQ (tlQ s1)).e = 0 := by simpa using hc9
       have hd5 := opnQ_ok h0
       rw [tlQ_d] at hd5
       refine WC.seq (WC.region (WL.val rfl rfl rfl rfl (r_move rfl (ev_t rfl)) ?_))
       refine WL.nil (WX.keep [(0, _), (1, _), (4, _), (5, _), (6, _), (7, _), (8, _), (32, _)] ⟨rfl, rfl, rfl, rfl, rfl, rfl, rfl, rfl, trivial⟩ (WX.next (WC.cond rfl (ev_t rfl) (fun hc10 => ?_) (fun hc10 => ?_))))
       ·refine WC.region (WL.val rfl rfl rfl rfl (r_move rfl (ev_t rfl)) ?_)
        refine WL.val rfl rfl rfl rfl (r_move rfl (ev_t rfl)) ?_
        refine WL.cons (SO.call (ihO lv (by omega) _ _ _ _ _ hp (by omega) (by omega)) rfl body_100 ⟨(ev_t rfl), (ev_t rfl), trivial⟩ rfl rfl rfl rfl ?_)
        rintro v9 w9 ⟨c9, rfl, ht, hp2, hst, hu9⟩
        have hs9 := hu9.size
        replace hU := hU.trans hu9 (by exact (fun _ _ h => h))
        replace hx7 := hx7.upd hu9 (fun k hk hl hS => by (simp only [At, Bt] at hS hk; omega))
        replace hB1 := hB1.upd hu9 (by (simp only [At]; omega))
        replace hb5 := hb5.upd hu9 (by (simp only [At]; omega))
        replace hb7 := hb7.upd hu9 (by (simp only [At]; omega))
        have hp := hp2
        obtain ⟨uk, us, un, urc, ups, uks, uA9, up9, uA, up, uys, uxs, heu, rfl, _⟩ := ht.mk6
        have hO : opR (eq9 n) lv (tlQ s1) = (eq9 n).op lv (opnQ (tlQ s1)) := by unfold opR; rw [if_pos h0, if_pos hc10]
        refine WL.cons (SO.storeAll (us := [_, _, _, _, _, _]) rfl (ev_t rfl) (ev_t rfl) size_36 hb7 rfl rfl rfl rfl rfl ?_)
        intro w10 hu10 hb7 hz10
        have hs10 := hu10.size
        replace hU := hU.trans hu10 (by (intro k hl hk; (try simp only [At, New, Grow, From, No] at hk ⊢); omega))
        replace hx7 := hx7.upd hu10 (fun k hk hl hS => by (simp only [At, Bt] at hS hk; omega))
        replace hB1 := hB1.upd hu10 (by (simp only [At]; omega))
        replace hb5 := hb5.upd hu10 (by (simp only [At]; omega))
        replace hp := hp.upd hu10 (by (intro k hk hS; first | (simp only [At] at hS; omega) | (have := hG k hS; omega)))
        replace ht := ht.upd hu10 (fun k hk hl hS => by (simp only [At, Bt] at hS hk; omega))
        refine WL.nil (WX.keep [(0, _), (1, _), (4, _), (5, _), (6, _), (7, _), (8, _)] ⟨rfl, rfl, rfl, rfl, rfl, rfl, rfl, trivial⟩ (WX.meet [(0, _), (1, _), (4, _), (5, _), (6, _), (7, _), (8, _)] ⟨rfl, rfl, rfl, rfl, rfl, rfl, rfl, trivial⟩ ?_))
        first
         | (rw [← ho9] at hO
            subst hO
            exact ⟨_, _, _, _, _, _, hU, hp, hx7, ht.mono fun k hk => by simp only [Bt] at *; omega, hB1, hb5, hb7, rfl⟩)
         | (have hO : o9 = (Ex.z, opnQ (tlQ s1)) := by rw [ho9]; unfold opR; rw [if_neg (by simpa using hc9)]
            subst hO
            exact ⟨_, _, _, _, _, _, hU, hp, hx7, TM.ex0 (by simp [inK]), hB1, hb5, hb7, rfl⟩)
       ·refine WC.region (WL.val rfl rfl rfl rfl (r_move rfl (ev_t rfl)) ?_)
        refine WL.val rfl rfl rfl rfl (r_move rfl (ev_t rfl)) ?_
        refine WL.val rfl rfl rfl rfl (r_addN rfl (ev_t rfl) ev_c (by simp only [inK]; omega)) ?_
        rw [show (lv : Int) + 1 = ((lv + 1 : Nat) : Int) by omega]
        refine WL.cons (SO.call (ihO (lv + 1) (by omega) _ _ _ _ _ hp (by omega) (by omega)) rfl body_100 ⟨(ev_t rfl), (ev_t rfl), trivial⟩ rfl rfl rfl rfl ?_)
        rintro v9 w11 ⟨c9, rfl, ht, hp2, hst, hu11⟩
        have hs11 := hu11.size
        replace hU := hU.trans hu11 (by exact (fun _ _ h => h))
        replace hx7 := hx7.upd hu11 (fun k hk hl hS => by (simp only [At, Bt] at hS hk; omega))
        replace hB1 := hB1.upd hu11 (by (simp only [At]; omega))
        replace hb5 := hb5.upd hu11 (by (simp only [At]; omega))
        replace hb7 := hb7.upd hu11 (by (simp only [At]; omega))
        have hp := hp2
        obtain ⟨uk, us, un, urc, ups, uks, uA9, up9, uA, up, uys, uxs, heu, rfl, _⟩ := ht.mk6
        have hO : opR (eq9 n) lv (tlQ s1) = (eq9 n).op (lv + 1) (opnQ (tlQ s1)) := by unfold opR; rw [if_pos h0, if_neg (by simp [hc10])]
        refine WL.cons (SO.storeAll (us := [_, _, _, _, _, _]) rfl (ev_t rfl) (ev_t rfl) size_36 hb7 rfl rfl rfl rfl rfl ?_)
        intro w12 hu12 hb7 hz12
        have hs12 := hu12.size
        replace hU := hU.trans hu12 (by (intro k hl hk; (try simp only [At, New, Grow, From, No] at hk ⊢); omega))
        replace hx7 := hx7.upd hu12 (fun k hk hl hS => by (simp only [At, Bt] at hS hk; omega))
        replace hB1 := hB1.upd hu12 (by (simp only [At]; omega))
        replace hb5 := hb5.upd hu12 (by (simp only [At]; omega))
        replace hp := hp.upd hu12 (by (intro k hk hS; first | (simp only [At] at hS; omega) | (have := hG k hS; omega)))
        replace ht := ht.upd hu12 (fun k hk hl hS => by (simp only [At, Bt] at hS hk; omega))
        refine WL.nil (WX.keep [(0, _), (1, _), (4, _), (5, _), (6, _), (7, _), (8, _)] ⟨rfl, rfl, rfl, rfl, rfl, rfl, rfl, trivial⟩ (WX.meet [(0, _), (1, _), (4, _), (5, _), (6, _), (7, _), (8, _)] ⟨rfl, rfl, rfl, rfl, rfl, rfl, rfl, trivial⟩ ?_))
        first
         | (rw [← ho9] at hO
            subst hO
            exact ⟨_, _, _, _, _, _, hU, hp, hx7, ht.mono fun k hk => by simp only [Bt] at *; omega, hB1, hb5, hb7, rfl⟩)
         | (have hO : o9 = (Ex.z, opnQ (tlQ s1)) := by rw [ho9]; unfold opR; rw [if_neg (by simpa using hc9)]
            subst hO
            exact ⟨_, _, _, _, _, _, hU, hp, hx7, TM.ex0 (by simp [inK]), hB1, hb5, hb7, rfl⟩)
      ·try simp only [cS, ne_eq, Decidable.not_not] at hc9
       refine WC.skip (WX.meet [(0, _), (1, _), (4, _), (5, _), (6, _), (7, _), (8, _)] ⟨rfl, rfl, rfl, rfl, rfl, rfl, rfl, trivial⟩ ?_)
       first
        | (rw [← ho9] at hO
           subst hO
           exact ⟨_, _, _, _, _, _, hU, hp, hx7, ht.mono fun k hk => by simp only [Bt] at *; omega, hB1, hb5, hb7, rfl⟩)
        | (have hO : o9 = (Ex.z, opnQ (tlQ s1)) := by rw [ho9]; unfold opR; rw [if_neg (by simpa using hc9)]
           subst hO
           exact ⟨_, _, _, _, _, _, hU, hp, hx7, TM.ex0 (by simp [inK]), hB1, hb5, hb7, rfl⟩)
     ·clear hU hp hx7 hB1 hb5 hb7
      rintro E wA ⟨z0, z1, z2, z3, z4, z5, hU, hp, hx7, hz7, hB1, hb5, hb7, rfl⟩
      have hsA := hU.size
      have hlt7 := hb7.lt
      have hdo := hmR.1
      obtain ⟨uk, us, un, urc, ups, uks, uA9, up9, uA, up, uys, uxs, heu, hcs9, _⟩ := hz7.mk6
      obtain ⟨rfl, rfl, rfl, rfl, rfl, rfl⟩ : z0 = _ ∧ z1 = _ ∧ z2 = _ ∧ z3 = _ ∧ z4 = _ ∧ z5 = _ := by simpa using hcs9
      refine WC.seq (WC.region ?_)
      obtain ⟨FD, bD, offD, cD, zD, badD, hbD, hzD, hrD, hFD, hID⟩ := hp.open
      refine WL.val rfl rfl rfl rfl (r_move rfl (ev_t rfl)) ?_
      refine WL.val rfl rfl rfl rfl (r_nilCheck rfl (ev_t rfl)) ?_
      refine WL.val rfl rfl rfl rfl (r_field0 rfl (ev_t rfl) fld_58_2) ?_
      refine WL.val rfl rfl rfl rfl (r_load rfl (ev_t rfl) flat_3 (Blk.cell hbD rfl)) ?_
      refine WL.val rfl rfl rfl rfl (r_subN rfl (ev_t rfl) ev_c (by simp only [inK]; omega)) ?_
      refine WL.val rfl rfl rfl rfl (r_nilCheck rfl (ev_t rfl)) ?_
      refine WL.val rfl rfl rfl rfl (r_field0 rfl (ev_t rfl) fld_58_2) ?_
      refine WL.cons (SO.store rfl (ev_t rfl) (ev_t rfl) size_3 hbD rfl rfl rfl rfl rfl ?_)
      intro w13 hu13 hbD hz13
      have hs13 := hu13.size
      replace hU := hU.trans hu13 (by exact (fun _ _ h => h))
      replace hx7 := hx7.upd hu13 (fun k hk hl hS => by (simp only [At, Bt] at hS hk; omega))
      replace hz7 := hz7.upd hu13 (fun k hk hl hS => by (simp only [At, Bt] at hS hk; omega))
      replace hB1 := hB1.upd hu13 (by (simp only [At]; omega))
      replace hb5 := hb5.upd hu13 (by (simp only [At]; omega))
      replace hb7 := hb7.upd hu13 (by (simp only [At]; omega))
      refine WL.nil (WX.keep [(0, _), (1, _), (4, _), (5, _), (6, _), (7, _), (8, _)] ⟨rfl, rfl, rfl, rfl, rfl, rfl, rfl, trivial⟩ ?_)
      rw [PS.clsB hp (by omega)] at hbD
      have hp9 : PS w13 r B0 A (clsQ o9.2) := hp.shut hu13 hbD hzD (hrD.upd hu13 (fun k hk hl hS => (hFD k hk).1 hS)) hFD hp.suf hp.fin (by show o9.2.d - 1 ≤ 52; have := hp.dle; omega) hp.ele
      refine WX.next (WC.seq (WC.region (WL.val rfl rfl rfl rfl (r_move rfl (ev_t rfl)) ?_)))
      refine WL.val rfl rfl rfl rfl (r_loadAgg (vs := [_, _, _, _, _, _]) rfl (ev_t rfl) agg_36 size_36 (Blk.cellsL hb5)) ?_
      refine WL.val rfl rfl rfl rfl (r_loadAgg (vs := [_, _, _, _, _, _]) rfl (ev_t rfl) agg_36 size_36 (Blk.cellsL hb7)) ?_
      refine WL.cons (SO.alloc rfl rfl rfl rfl (r_buildSlice66 rfl (ev_t rfl) (ev_t rfl) row_34) ?_)
      intro w14 hu14 hrow hz9
      have hs14 := hu14.size
      replace hU := hU.trans hu14 (by exact (fun _ _ h => h.elim))
      replace hx7 := hx7.upd hu14 (fun k hk hl hS => by exact (show False from hS).elim)
      replace hz7 := hz7.upd hu14 (fun k hk hl hS => by exact (show False from hS).elim)
      replace hB1 := hB1.upd hu14 (by exact (fun h => h))
      replace hb5 := hb5.upd hu14 (by exact (fun h => h))
      replace hb7 := hb7.upd hu14 (by exact (fun h => h))
      replace hp9 := hp9.updA hu14
      refine WL.val rfl rfl rfl rfl (r_build (cs := #[_, _, _, _, _, _]) (vs := [(0, _), (1, _), (5, _)]) rfl ⟨⟨rfl, ev_c⟩, ⟨rfl, (ev_t rfl)⟩, ⟨rfl, (ev_t rfl)⟩, trivial⟩ plc_36 zero_36 rfl) ?_
      refine WL.cons (SO.alloc rfl rfl rfl rfl (r_alloc rfl zero_36) ?_)
      intro w15 hu15 hB15 hz15
      have hs15 := hu15.size
      replace hU := hU.trans hu15 (by exact (fun _ _ h => h.elim))
      replace hx7 := hx7.upd hu15 (fun k hk hl hS => by exact (show False from hS).elim)
      replace hz7 := hz7.upd hu15 (fun k hk hl hS => by exact (show False from hS).elim)
      replace hB1 := hB1.upd hu15 (by exact (fun h => h))
      replace hb5 := hb5.upd hu15 (by exact (fun h => h))
      replace hb7 := hb7.upd hu15 (by exact (fun h => h))
      replace hp9 := hp9.updA hu15
      replace hrow := hrow.updA hu15
      refine WL.cons (SO.storeAll (us := [_, _, _, _, _, _]) rfl (ev_t rfl) (ev_t rfl) size_36 hB15 rfl rfl rfl rfl rfl ?_)
      intro w16 hu16 hB15 hz16
      have hs16 := hu16.size
      replace hU := hU.trans hu16 (by (intro k hl hk; (try simp only [At, New, Grow, From, No] at hk ⊢); omega))
      replace hx7 := hx7.upd hu16 (fun k hk hl hS => by (simp only [At, Bt] at hS hk; omega))
      replace hz7 := hz7.upd hu16 (fun k hk hl hS => by (simp only [At, Bt] at hS hk; omega))
      replace hB1 := hB1.upd hu16 (by (simp only [At]; omega))
      replace hb5 := hb5.upd hu16 (by (simp only [At]; omega))
      replace hb7 := hb7.upd hu16 (by (simp only [At]; omega))
      replace hp9 := hp9.updA hu16
      replace hrow := hrow.updA hu16
      refine WL.nil (WX.keep [(0, _), (1, _), (4, _), (5, _), (6, _), (7, _), (8, _), (9, _)] ⟨rfl, rfl, rfl, rfl, rfl, rfl, rfl, rfl, trivial⟩ ?_)
      have hb9 := hB15
      have hlr := hrow.lt
      obtain ⟨b9, hb9e⟩ : ∃ b9, b9 = w14.heap.size := ⟨_, rfl⟩
      rw [← hb9e] at hb9 ⊢
      have hlt9b := hb9.lt
      refine WX.next ?_
      -- cut 15: live [0, 1, 4, 5, 8, 9]
      refine WC.cut (fun E wB => ∃ (z0 z1 z2 z3 z4 z5 : Value), Upd (At r) w wB ∧ PS wB r B0 A (clsQ o9.2) ∧ TM wB (fun k => Bt (w.heap.size + 1) wB.heap.size k ∧ k ≠ b5) [z0, z1, z2, z3, z4, z5] (mkOp u x o9.1) ∧ Blk wB w.heap.size #[.int .u8 0, .string ⟨#[]⟩, .int .i64 0, .bool false, .slice none 0 0, .slice none 0 0] 36 ∧ Blk wB b5 #[.int .u8 (tk : Int), Sv ts, .int .i64 tn, .bool trc, .slice tA9 tps.length tp9, .slice tA tks.length tp] 36 ∧ Blk wB b9 #[z0, z1, z2, z3, z4, z5] 36 ∧ E = [(0, (.pointer (some ⟨r, 0, none⟩))), (1, .int .i64 (lv : Int)), (4, .pointer (some ⟨w.heap.size, 0, none⟩)), (5, .pointer (some ⟨b5, 0, none⟩)), (8, .bool (rgtQ lv)), (9, .pointer (some ⟨b9, 0, none⟩))]) ?_ ?_
      ·refine WC.seq (WC.region (WL.val rfl rfl rfl rfl (r_move rfl (ev_t rfl)) ?_))
       refine WL.val rfl rfl rfl rfl (r_eqlStrL rfl (ev_t rfl) ev_c) ?_
       refine WL.nil (WX.keep [(0, _), (1, _), (4, _), (5, _), (7, _), (8, _), (9, _), (53, _)] ⟨rfl, rfl, rfl, rfl, rfl, rfl, rfl, rfl, trivial⟩ (WX.next (WC.cond rfl (ev_t rfl) (fun hc15 => ?_) (fun hc15 => ?_))))
       ·try simp only [cS, ne_eq, Decidable.not_not] at hc15
        refine WC.region (WL.val rfl rfl rfl rfl (r_loadAgg (vs := [_, _, _, _, _, _]) rfl (ev_t rfl) agg_36 size_36 (Blk.cellsL hb5)) ?_)
        refine WL.val rfl rfl rfl rfl (r_loadAgg (vs := [_, _, _, _, _, _]) rfl (ev_t rfl) agg_36 size_36 (Blk.cellsL hb7)) ?_
        refine WL.cons (SO.alloc rfl rfl rfl rfl (r_buildSlice66 rfl (ev_t rfl) (ev_t rfl) row_34) ?_)
        intro w17 hu17 hrow2 hz9
        have hs17 := hu17.size
        replace hU := hU.trans hu17 (by exact (fun _ _ h => h.elim))
        replace hx7 := hx7.upd hu17 (fun k hk hl hS => by exact (show False from hS).elim)
        replace hz7 := hz7.upd hu17 (fun k hk hl hS => by exact (show False from hS).elim)
        replace hB1 := hB1.upd hu17 (by exact (fun h => h))
        replace hb5 := hb5.upd hu17 (by exact (fun h => h))
        replace hb7 := hb7.upd hu17 (by exact (fun h => h))
        replace hp9 := hp9.updA hu17
        replace hrow := hrow.updA hu17
        replace hb9 := hb9.upd hu17 (by exact (fun h => h))
        refine WL.val rfl rfl rfl rfl (r_build (cs := #[_, _, _, _, _, _]) (vs := [(0, _), (5, _)]) rfl ⟨⟨rfl, ev_c⟩, ⟨rfl, (ev_t rfl)⟩, trivial⟩ plc_36 zero_36 rfl) ?_
        refine WL.cons (SO.storeAll (us := [_, _, _, _, _, _]) rfl (ev_t rfl) (ev_t rfl) size_36 hb9 rfl rfl rfl rfl rfl ?_)
        intro w18 hu18 hb9 hz18
        have hs18 := hu18.size
        replace hU := hU.trans hu18 (by (intro k hl hk; (try simp only [At, New, Grow, From, No] at hk ⊢); omega))
        replace hx7 := hx7.upd hu18 (fun k hk hl hS => by (simp only [At, Bt] at hS hk; omega))
        replace hz7 := hz7.upd hu18 (fun k hk hl hS => by (simp only [At, Bt] at hS hk; omega))
        replace hB1 := hB1.upd hu18 (by (simp only [At]; omega))
        replace hb5 := hb5.upd hu18 (by (simp only [At]; omega))
        replace hb7 := hb7.upd hu18 (by (simp only [At]; omega))
        replace hp9 := hp9.updA hu18
        replace hrow := hrow.updA hu18
        replace hrow2 := hrow2.updA hu18
        refine WL.nil (WX.keep [(0, _), (1, _), (4, _), (5, _), (8, _), (9, _)] ⟨rfl, rfl, rfl, rfl, rfl, rfl, trivial⟩ (WX.meet [(0, _), (1, _), (4, _), (5, _), (8, _), (9, _)] ⟨rfl, rfl, rfl, rfl, rfl, rfl, trivial⟩ ?_))
        first
         | (have hu9 : u = [58, 58] := by simpa using hc15
            have hl2 := hrow2.lt
            refine ⟨_, _, _, _, _, _, hU, hp9, ?_, hB1, hb5, hb9, rfl⟩
            unfold mkOp
            rw [if_pos hu9]
            exact TM.exK (xs := [[_, _, _, _, _, _], [_, _, _, _, _, _]]) (Rd.of_blk (n := 2) (sz := 6) hrow2 (by simp only [Bt]; omega) rfl (by omega)) (Ms.cons (hx7.mono fun k hk => by simp only [Bt] at *; omega) (Ms.cons (hz7.mono fun k hk => by simp only [Bt] at *; omega) (Ms.nil _ _))) (by simp [inK]))
         | (have hu9 : ¬ u = [58, 58] := by simpa using hc15
            refine ⟨_, _, _, _, _, _, hU, hp9, ?_, hB1, hb5, hb9, rfl⟩
            unfold mkOp
            rw [if_neg hu9]
            exact TM.exK (xs := [[_, _, _, _, _, _], [_, _, _, _, _, _]]) (Rd.of_blk (n := 2) (sz := 6) hrow (by simp only [Bt]; omega) rfl (by omega)) (Ms.cons (hx7.mono fun k hk => by simp only [Bt] at *; omega) (Ms.cons (hz7.mono fun k hk => by simp only [Bt] at *; omega) (Ms.nil _ _))) (by simp [inK]))
       ·try simp only [cS, ne_eq, Decidable.not_not] at hc15
        refine WC.skip (WX.meet [(0, _), (1, _), (4, _), (5, _), (8, _), (9, _)] ⟨rfl, rfl, rfl, rfl, rfl, rfl, trivial⟩ ?_)
        first
         | (have hu9 : u = [58, 58] := by simpa using hc15
            have hl2 := hrow2.lt
            refine ⟨_, _, _, _, _, _, hU, hp9, ?_, hB1, hb5, hb9, rfl⟩
            unfold mkOp
            rw [if_pos hu9]
            exact TM.exK (xs := [[_, _, _, _, _, _], [_, _, _, _, _, _]]) (Rd.of_blk (n := 2) (sz := 6) hrow2 (by simp only [Bt]; omega) rfl (by omega)) (Ms.cons (hx7.mono fun k hk => by simp only [Bt] at *; omega) (Ms.cons (hz7.mono fun k hk => by simp only [Bt] at *; omega) (Ms.nil _ _))) (by simp [inK]))
         | (have hu9 : ¬ u = [58, 58] := by simpa using hc15
            refine ⟨_, _, _, _, _, _, hU, hp9, ?_, hB1, hb5, hb9, rfl⟩
            unfold mkOp
            rw [if_neg hu9]
            exact TM.exK (xs := [[_, _, _, _, _, _], [_, _, _, _, _, _]]) (Rd.of_blk (n := 2) (sz := 6) hrow (by simp only [Bt]; omega) rfl (by omega)) (Ms.cons (hx7.mono fun k hk => by simp only [Bt] at *; omega) (Ms.cons (hz7.mono fun k hk => by simp only [Bt] at *; omega) (Ms.nil _ _))) (by simp [inK]))
      ·clear hU hp9 hx7 hz7 hB1 hb5 hb7 hb9 hrow
       rintro E wB ⟨z0, z1, z2, z3, z4, z5, hU, hp, htn, hB1, hb5, hb9, rfl⟩
       have hsB := hU.size
       have hlt9c := hb9.lt
       obtain ⟨vk, vs, vn, vrc, vps, vks, vA9, vp9, vA, vp, vys, vxs, hev, hcs9, _⟩ := htn.mk6
       obtain ⟨rfl, rfl, rfl, rfl, rfl, rfl⟩ : z0 = _ ∧ z1 = _ ∧ z2 = _ ∧ z3 = _ ∧ z4 = _ ∧ z5 = _ := by simpa using hcs9
       refine WC.seq (WC.region (WL.val rfl rfl rfl rfl (r_loadAgg (vs := [_, _, _, _, _, _]) rfl (ev_t rfl) agg_36 size_36 (Blk.cellsL hb9)) ?_))
       refine WL.cons (SO.storeAll (us := [_, _, _, _, _, _]) rfl (ev_t rfl) (ev_t rfl) size_36 hb5 rfl rfl rfl rfl rfl ?_)
       intro w19 hu19 hb5 hz19
       have hs19 := hu19.size
       replace hU := hU.trans hu19 (by (intro k hl hk; (try simp only [At, New, Grow, From, No] at hk ⊢); omega))
       replace hp := hp.upd hu19 (by (intro k hk hS; first | (simp only [At] at hS; omega) | (have := hG k hS; omega)))
       replace htn := htn.upd hu19 (fun k hk hl hS => by (simp only [At, Bt] at hS hk; omega))
       replace hB1 := hB1.upd hu19 (by (simp only [At]; omega))
       replace hb9 := hb9.upd hu19 (by (simp only [At]; omega))
       refine WL.nil (WX.keep [(0, _), (1, _), (4, _), (5, _), (8, _)] ⟨rfl, rfl, rfl, rfl, rfl, trivial⟩ ?_)
       have hPs : Pst s (clsQ o9.2) := hPst.trans ((Pst.tl _).trans hmR.cls)
       refine WX.next (WC.seq (WC.region (WL.val rfl rfl rfl rfl (r_move rfl (ev_t rfl)) ?_)))
       refine WL.nil (WX.keep [(0, _), (1, _), (4, _), (5, _), (59, _)] ⟨rfl, rfl, rfl, rfl, rfl, trivial⟩ (WX.next (WC.cond rfl (ev_t rfl) (fun hc18 => ?_) (fun hc18 => ?_))))
       ·refine WC.seq (WC.region (WL.val rfl rfl rfl rfl (r_loadAgg (vs := [_, _, _, _, _, _]) rfl (ev_t rfl) agg_36 size_36 (Blk.cellsL hb5)) ?_))
        refine WL.cons (SO.storeAll (us := [_, _, _, _, _, _]) rfl (ev_t rfl) (ev_t rfl) size_36 hB1 rfl rfl rfl rfl rfl ?_)
        intro w20 hu20 hB1 hz20
        have hs20 := hu20.size
        replace hU := hU.trans hu20 (by (intro k hl hk; (try simp only [At, New, Grow, From, No] at hk ⊢); omega))
        replace hp := hp.upd hu20 (by (intro k hk hS; first | (simp only [At] at hS; omega) | (have := hG k hS; omega)))
        replace htn := htn.upd hu20 (fun k hk hl hS => by (simp only [At, Bt] at hS hk; omega))
        replace hb5 := hb5.upd hu20 (by (simp only [At]; omega))
        replace hb9 := hb9.upd hu20 (by (simp only [At]; omega))
        refine WL.nil (WX.keep [(4, _)] ⟨rfl, trivial⟩ (WX.next (WC.ret (WX.blockRet (WX.thenRet (WX.blockRet (WX.retC (vs := [_, _, _, _, _, _]) rfl rfl agg_36 size_36 (Blk.cellsL hB1) ?_)))))))
        rw [hopl, opL_last hsn hc18, ← ho9]
        exact ⟨_, rfl, htn.mono fun k hk => by simp only [Bt] at *; omega, hp, hPs, hU⟩
       ·refine WC.skip (WX.blockNormal (WX.meet [(0, _), (1, _), (4, _), (5, _)] ⟨rfl, rfl, rfl, rfl, trivial⟩ ?_))
        rw [opL_step hsn hc18, ← ho9] at hopl
        have hlen := hmR.2.1
        rw [opnQ_len] at hlen
        exact ⟨k2, by omega, _, _, _, _, _, _, _, _, k2, rfl, by rw [clsQ_ts]; omega, hopl, hPs, hU, hp, htn.mono fun k hk => by simp only [Bt] at *; omega, hB1, hb5, rfl⟩
end Go.Proofs.YtomkdhkkggbioaaGreatDoor

/-
 The reference's parser: functions of several names, what stands behind let.
-/
namespace Go.Proofs.YtomkdhkkggbioaaGreatDoor
open Go
set_option linter.unusedSimpArgs false
set_option linter.unusedVariables false

set_option maxHeartbeats 1000000 in
theorem funs_ok {w : World} {F F2 : Nat → Prop} {A : Option Addr} {p : Nat} {l : List (List UInt8)} {e : Ex} {c : List Value} (hr : Rd w F2 (.slice A l.length p) l.length 1 (l.map Sv)) (ht : TM w F c e) : Ret Tryz.prog 86 #[.slice A l.length p, .agg c.toArray] w fun v w' => ∃ c', v = .agg c'.toArray ∧ TM w' (fun k => F k ∨ Bt w.heap.size w'.heap.size k) c' (funQ l e) ∧ Upd No w w' := by
 replace ht := ht.bound
 replace hr := hr.bound
 have hle := hr.le
 obtain ⟨tk, ts, tn, trc, tps, tks, tA9, tp9, tA, tp, tys, txs, het, rfl, _⟩ := ht.mk6
 refine enterRet (vs := [_, _]) (N := 21) Tryz.func86 rfl rfl rfl ?_
 have hU := Upd.refl No w
 refine WC.keep [(0, _), (1, _)] ⟨rfl, rfl, trivial⟩ (WC.seq (WC.region (WL.cons (SO.alloc rfl rfl rfl rfl (r_boxAgg rfl (ev_t rfl)) ?_))))
 intro w1 hu1 hB1 hz1
 have hs1 := hu1.size
 replace hU := hU.transA hu1
 replace hr := hr.upd hu1 (fun k hk hl hS => by exact (show False from hS).elim)
 replace ht := ht.upd hu1 (fun k hk hl hS => by exact (show False from hS).elim)
 have hb3 := hB1
 change Blk _ _ #[.int .u8 (tk : Int), Sv ts, .int .i64 tn, .bool trc, .slice tA9 tps.length tp9, .slice tA tks.length tp] _ at hb3
 refine WL.cons (SO.alloc rfl rfl rfl rfl (r_alloc rfl zero_36) ?_)
 intro w2 hu2 hB2 hz2
 have hs2 := hu2.size
 replace hU := hU.transA hu2
 replace hr := hr.upd hu2 (fun k hk hl hS => by exact (show False from hS).elim)
 replace ht := ht.upd hu2 (fun k hk hl hS => by exact (show False from hS).elim)
 replace hb3 := hb3.upd hu2 (by exact (fun h => h))
 refine WL.nil (WX.keep [(0, _), (3, _), (4, _)] ⟨rfl, rfl, rfl, trivial⟩ ?_)
 have hb4 := hB2
 have hl3 := hb3.lt
 refine WX.next (WC.seq (WC.seq (WC.region (WL.val rfl rfl rfl rfl (r_move rfl (ev_t rfl)) ?_))))
 refine WL.val rfl rfl rfl rfl (r_lenSlice (ts := #[]) rfl (ev_t rfl) elem_66) ?_
 refine WL.val rfl rfl rfl rfl (r_subN rfl (ev_t rfl) ev_c (by simp only [inK]; omega)) ?_
 refine WL.val rfl rfl rfl rfl (r_assign rfl (ev_t rfl)) ?_
 refine WL.nil (WX.keep [(0, _), (3, _), (4, _), (5, _)] ⟨rfl, rfl, rfl, rfl, trivial⟩ (WX.next (WC.block ?_)))
 -- loop 1: live [0, 3, 4, 5]
 refine WC.keep [(0, _), (3, _), (4, _), (5, _)] ⟨rfl, rfl, rfl, rfl, trivial⟩ (WC.loop (fun qq E wA => ∃ (j : Nat) (y0 y1 y2 y3 y4 y5 : Value), j ≤ l.length ∧ qq = j ∧ Upd No w wA ∧ Rd wA (fun k => F2 k ∧ k < w.heap.size) (.slice A l.length p) l.length 1 (l.map Sv) ∧ TM wA (fun k => (F k ∧ k < w.heap.size) ∨ (w.heap.size < k ∧ k ≠ w1.heap.size ∧ k < wA.heap.size)) [y0, y1, y2, y3, y4, y5] (funQ (l.drop j) e) ∧ Blk wA w.heap.size #[y0, y1, y2, y3, y4, y5] 36 ∧ Blk wA w1.heap.size #[.int .u8 0, .string ⟨#[]⟩, .int .i64 0, .bool false, .slice none 0 0, .slice none 0 0] 36 ∧ E = [(0, .slice A l.length p), (3, .pointer (some ⟨w.heap.size, 0, none⟩)), (4, .pointer (some ⟨w1.heap.size, 0, none⟩)), (5, .int .i64 ((j : Int) - 1))]) (l.length) ?_ ?_)
 ·exact ⟨l.length, _, _, _, _, _, _, Nat.le_refl _, rfl, hU, hr, by rw [List.drop_length]; exact ht.mono fun k hk => .inl hk, hb3, hb4, rfl⟩
 ·clear hU hr ht hb3 hb4
  rintro qq E wA ⟨j, y0, y1, y2, y3, y4, y5, hj, rfl, hU, hr, ht, hb3, hb4, rfl⟩
  have hsA := hU.size
  have hl3 := hb3.lt
  have hl4 := hb4.lt
  obtain ⟨uk, us, un, urc, ups, uks, uA9, up9, uA, up, uys, uxs, heu, hcs9, _⟩ := ht.mk6
  obtain ⟨rfl, rfl, rfl, rfl, rfl, rfl⟩ : y0 = _ ∧ y1 = _ ∧ y2 = _ ∧ y3 = _ ∧ y4 = _ ∧ y5 = _ := by simpa using hcs9
  refine WC.seq (WC.seq (WC.region (WL.val rfl rfl rfl rfl (r_move rfl (ev_t rfl)) ?_)))
  refine WL.val rfl rfl rfl rfl (r_geq rfl (ev_t rfl) ev_c) ?_
  refine WL.nil (WX.keep [(0, _), (3, _), (4, _), (5, _), (10, _)] ⟨rfl, rfl, rfl, rfl, rfl, trivial⟩ (WX.next (WC.cond rfl (ev_t rfl) (fun hc2 => ?_) (fun hc2 => ?_))))
  ·try simp only [cS, ne_eq, Decidable.not_not] at hc2
   obtain ⟨i, rfl⟩ : ∃ i, qq = i + 1 := ⟨qq - 1, by omega⟩
   have hi : i < l.length := by omega
   obtain ⟨b1, o1, rfl, _⟩ := hr.open (by omega)
   have hki : l[i]? = some l[i] := List.getElem?_eq_getElem hi
   have hdr := List.drop_eq_getElem_cons hi
   generalize l[i] = x at hki hdr
   refine WC.skip (WX.next (WC.seq (WC.block (WC.draws' (fun u0_ u1_ => Upd (At w.heap.size) u0_ u1_) (fun j => [0, 0, 0, 0, 1, 1, 0, 2].getD j 0) (.calm 0 (.calm 1 (.calm 2 (.held 3 (.one 4 (.one 5 (.calm 6 (.one 7 (.done))))))))) mixed (by kernel_rfl) (by repeat (first | with_reducible exact Deaf.body | with_reducible apply Deaf.then | with_reducible apply Deaf.block)) ?_))))
   intro w3 hu3
   have hz3 := congrArg Array.size hu3.2.2.2
   replace hu3 := Upd.of_draw hu3
   have hs3 := hu3.size
   replace hU := hU.transA hu3
   replace hr := hr.upd hu3 (fun k hk hl hS => by exact (show False from hS).elim)
   replace ht := ht.upd hu3 (fun k hk hl hS => by exact (show False from hS).elim)
   replace hb3 := hb3.upd hu3 (by exact (fun h => h))
   replace hb4 := hb4.upd hu3 (by exact (fun h => h))
   have hS4 := Upd.refl (At w.heap.size) w3
   refine WN.calm _ rfl rfl rfl rfl rfl (fun _ => r_move rfl (ev_t rfl)) ?_
   refine WN.calm _ rfl rfl rfl rfl rfl (fun _ => r_move rfl (ev_t rfl)) ?_
   refine WN.calm _ rfl rfl rfl rfl rfl (fun _ => r_indexAddr rfl (ev_t rfl) (ev_t rfl) elem_66 size_9 (by omega) (by omega)) ?_
   refine WN.held _ rfl rfl rfl rfl rfl hS4 (fun w' hS => r_load rfl (ev_t rfl) flat_9 ((hr.upd hS (by intro k hk hl hS'; (try simp only [At, From, No, Grow, New, Bt] at hk hS'); omega)).cell (j := i) (u := Sv x) (by omega) (by rw [List.getElem?_map, hki]; rfl))) ?_
   refine WN.step _ rfl (SO.val rfl rfl rfl rfl (r_loadAgg (vs := [_, _, _, _, _, _]) rfl (ev_t rfl) agg_36 size_36 (Blk.cellsL hb3)) ?_)
   refine ⟨hS4, ?_⟩
   refine WN.step _ rfl (SO.alloc rfl rfl rfl rfl (r_buildSlice6 rfl (ev_t rfl) row_34) ?_)
   intro w4 hu4 hB4 hz4
   have hs4 := hu4.size
   replace hS4 := Upd.trans hS4 hu4 (by intro k hl hk; exact (show False from hk).elim)
   replace hU := hU.transA hu4
   replace hr := hr.upd hu4 (fun k hk hl hS => by exact (show False from hS).elim)
   replace ht := ht.upd hu4 (fun k hk hl hS => by exact (show False from hS).elim)
   replace hb3 := hb3.upd hu4 (by exact (fun h => h))
   replace hb4 := hb4.upd hu4 (by exact (fun h => h))
   refine ⟨hS4, ?_⟩
   have hrow := hB4
   change Blk _ _ #[.int .u8 (uk : Int), Sv us, .int .i64 un, .bool urc, .slice uA9 ups.length up9, .slice uA uks.length up] _ at hrow
   have hrl := hrow.lt
   refine WN.calm _ rfl rfl rfl rfl rfl (fun _ => r_build (cs := #[_, _, _, _, _, _]) (vs := [(0, _), (1, _), (5, _)]) rfl ⟨⟨rfl, ev_c⟩, ⟨rfl, (ev_t rfl)⟩, ⟨rfl, (ev_t rfl)⟩, trivial⟩ plc_36 zero_36 rfl) ?_
   refine WN.step _ rfl (SO.storeAll (us := [_, _, _, _, _, _]) rfl (ev_t rfl) (ev_t rfl) size_36 hb3 rfl rfl rfl rfl rfl ?_)
   intro w5 hu5 hb3 hz5
   have hs5 := hu5.size
   try replace hS4 := Upd.trans hS4 hu5 (by intro k hl hk; exact hk)
   replace hU := hU.transA hu5
   replace hr := hr.upd hu5 (fun k hk hl hS => by (simp only [At] at hS; have := hk.2; omega))
   replace ht := ht.upd hu5 (fun k hk hl hS => by (simp only [At] at hS; rcases hk with hk | hk; (have := hk.2; omega); (have := hk.1; have := hk.2.2; omega)))
   replace hb4 := hb4.upd hu5 (by (simp only [At]; omega))
   replace hrow := hrow.upd hu5 (by (simp only [At]; omega))
   refine ⟨trivial, ?_⟩
   refine WN.done ?_
   refine WX.keep [(0, _), (3, _), (4, _), (5, _)] ⟨rfl, rfl, rfl, rfl, trivial⟩ (WX.blockNormal (WX.next (WC.region (WL.val rfl rfl rfl rfl (r_move rfl (ev_t rfl)) ?_))))
   refine WL.val rfl rfl rfl rfl (r_subN rfl (ev_t rfl) ev_c (by simp only [inK]; omega)) ?_
   refine WL.val rfl rfl rfl rfl (r_assign rfl (ev_t rfl)) ?_
   refine WL.nil (WX.keep [(0, _), (3, _), (4, _), (5, _)] ⟨rfl, rfl, rfl, rfl, trivial⟩ (WX.meet [(0, _), (3, _), (4, _), (5, _)] ⟨rfl, rfl, rfl, rfl, trivial⟩ ?_))
   refine ⟨i, by omega, i, _, _, _, _, _, _, by omega, rfl, hU, hr, ?_, hb3, hb4, by simp⟩
   rw [hdr, funQ_cons]
   exact TM.exK (xs := [[_, _, _, _, _, _]]) (Rd.of_blk (n := 1) (sz := 6) hrow (.inr ⟨by omega, by omega, by omega⟩) rfl (by omega)) (Ms.cons (ht.mono fun k hk => by rcases hk with hk | hk; exact .inl hk; exact .inr ⟨hk.1, hk.2.1, by have := hk.2.2; omega⟩) (Ms.nil _ _)) (by simp [inK])
  ·try simp only [cS, ne_eq, Decidable.not_not] at hc2
   obtain rfl : qq = 0 := by omega
   rw [List.drop_zero] at ht
   refine WC.exit (WX.thenExit (WX.thenExit (WX.blockHere (WX.next (WC.seq (WC.region (WL.val rfl rfl rfl rfl (r_loadAgg (vs := [_, _, _, _, _, _]) rfl (ev_t rfl) agg_36 size_36 (Blk.cellsL hb3)) ?_)))))))
   refine WL.cons (SO.storeAll (us := [_, _, _, _, _, _]) rfl (ev_t rfl) (ev_t rfl) size_36 hb4 rfl rfl rfl rfl rfl ?_)
   intro w6 hu6 hb4 hz6
   have hs6 := hu6.size
   replace hU := hU.transA hu6
   replace hr := hr.upd hu6 (fun k hk hl hS => by (simp only [At] at hS; have := hk.2; omega))
   replace ht := ht.upd hu6 (fun k hk hl hS => by (simp only [At] at hS; rcases hk with hk | hk; (have := hk.2; omega); (have := hk.1; have := hk.2.2; omega)))
   replace hb3 := hb3.upd hu6 (by (simp only [At]; omega))
   refine WL.nil (WX.keep [(4, _)] ⟨rfl, trivial⟩ (WX.next (WC.ret (WX.retC (vs := [_, _, _, _, _, _]) rfl rfl agg_36 size_36 (Blk.cellsL hb4) ?_))))
   exact ⟨_, rfl, ht.mono fun k hk => by rcases hk with hk | hk; exact .inl hk.1; exact .inr ⟨by omega, by have := hk.2.2; omega⟩, hU⟩
def BinC (n : Nat) : Prop := ∀ (w : World) (r B0 : Nat) (A : List Tok) (s : St), PS w r B0 A s → s.d ≤ 50 → 51 ≤ s.d + n →
 Ret Tryz.prog 58 #[.pointer (some ⟨r, 0, none⟩)] w fun v w' => ∃ (g : Nat) (tx : List UInt8) (rc : Bool) (y : Ex), (binB (eq9 n).expr s).1 = .mk 12 tx 0 rc [] [y] ∧ v = .agg #[.int .u8 12, Sv tx, .int .i64 0, .bool rc, .slice none 0 0, .slice (some ⟨g, 0, none⟩) 1 1] ∧ Acc 36 w' w.heap.size (At g) (.slice (some ⟨g, 0, none⟩) 1 1) [y] ∧ PS w' r B0 A (binB (eq9 n).expr s).2 ∧ Pst s (binB (eq9 n).expr s).2 ∧ Upd (At r) w w'
set_option maxHeartbeats 4000000 in
theorem bind_ok {n : Nat} (ih : PC 59 (eq9 n).expr n) : BinC n := by
 intro w r B0 A s hp hd hn
 obtain ⟨hI1, hI2, hI3, hI4, hI5⟩ := hp.I
 obtain ⟨rc, hrc⟩ : ∃ rc, rc = isQ s [114, 101, 99] := ⟨_, rfl⟩
 obtain ⟨s0, hs0⟩ : ∃ s0, s0 = takQ s [114, 101, 99] := ⟨_, rfl⟩
 obtain ⟨t1, ht1⟩ : ∃ t1, t1 = txtQ s0 1 := ⟨_, rfl⟩
 obtain ⟨nm9, hnm9⟩ : ∃ nm9, nm9 = nmsQ t1.2.ts.length [] t1.2 := ⟨_, rfl⟩
 obtain ⟨q9, hq9⟩ : ∃ q9, q9 = (eq9 n).expr (musQ nm9.2 [61]) := ⟨_, rfl⟩
 have hbin : binB (eq9 n).expr s = (.mk 12 t1.1 0 rc [] [funQ nm9.1 q9.1], if q9.2.e = 0 ∧ rc = true ∧ (funQ nm9.1 q9.1).k ≠ 10 then fauQ q9.2 4 else q9.2) := by
  unfold binB
  rw [hq9, hnm9, ht1, hs0, hrc]
 have hP1 : Pst s t1.2 := by rw [ht1, hs0]; exact (Pst.tak _ _).trans (Pst.txt _ _)
 have hP2 : Pst s nm9.2 := hP1.trans (by rw [hnm9]; exact Mo.nms _ _ _)
 have hP3 : Pst s (musQ nm9.2 [61]) := hP2.trans (Pst.mus _ _)
 have hd3 := hP3.1
 refine enterRet (vs := [_]) (N := 52) Tryz.func58 rfl rfl rfl ?_
 have hU := Upd.refl (At r) w
 refine WC.keep [(0, _)] ⟨rfl, trivial⟩ (WC.seq (WC.region (WL.cons (SO.alloc rfl rfl rfl rfl (r_alloc rfl zero_36) ?_))))
 intro w1 hu1 hB1 hz1
 have hs1 := hu1.size
 replace hU := hU.trans hu1 (by exact (fun _ _ h => h.elim))
 replace hp := hp.upd hu1 (by exact (fun _ _ h => h))
 refine WL.nil (WX.keep [(0, _), (2, _)] ⟨rfl, rfl, trivial⟩ (WX.next (WC.seq (WC.region (WL.val rfl rfl rfl rfl (r_build (cs := #[_, _, _, _, _, _]) (vs := [(0, _)]) rfl ⟨⟨rfl, ev_c⟩, trivial⟩ plc_36 zero_36 rfl) ?_)))))
 refine WL.cons (SO.alloc rfl rfl rfl rfl (r_alloc rfl zero_36) ?_)
 intro w2 hu2 hB2 hz2
 have hs2 := hu2.size
 replace hU := hU.trans hu2 (by exact (fun _ _ h => h.elim))
 replace hp := hp.upd hu2 (by exact (fun _ _ h => h))
 replace hB1 := hB1.upd hu2 (by exact (fun h => h))
 refine WL.cons (SO.storeAll (us := [_, _, _, _, _, _]) rfl (ev_t rfl) (ev_t rfl) size_36 hB2 rfl rfl rfl rfl rfl ?_)
 intro w3 hu3 hB2 hz3
 have hs3 := hu3.size
 replace hU := hU.trans hu3 (by (intro k hl hk; (try simp only [At, New, Grow, From, No] at hk ⊢); omega))
 replace hp := hp.upd hu3 (by (intro k hk hS; first | (simp only [At] at hS; omega) | (have := hG k hS; omega)))
 replace hB1 := hB1.upd hu3 (by (simp only [At]; omega))
 refine WL.nil (WX.keep [(0, _), (2, _), (3, _)] ⟨rfl, rfl, rfl, trivial⟩ ?_)
 have hb3 := hB2
 change Blk _ _ #[.int .u8 12, .string ⟨#[]⟩, .int .i64 0, .bool false, .slice none 0 0, .slice none 0 0] _ at hb3
 have hlt3 := hb3.lt
 obtain ⟨b3, hb3e⟩ : ∃ b3, b3 = w1.heap.size := ⟨_, rfl⟩
 rw [← hb3e] at hb3 hlt3 ⊢
 have hb3w : w.heap.size < b3 := by omega
 refine WX.next (WC.seq (WC.region (WL.val rfl rfl rfl rfl (r_move rfl (ev_t rfl)) ?_)))
 refine WL.cons (SO.call (take_ok (u := [114, 101, 99]) hp) rfl body_31 ⟨(ev_t rfl), ev_c, trivial⟩ rfl rfl rfl rfl ?_)
 rintro v9 w4 ⟨rfl, hp2, hu4⟩
 have hs4 := hu4.size
 replace hU := hU.trans hu4 (by exact (fun _ _ h => h))
 replace hB1 := hB1.upd hu4 (by (simp only [At]; omega))
 replace hb3 := hb3.upd hu4 (by (simp only [At]; omega))
 have hp := hp2
 rw [← hs0] at hp
 rw [← hrc]
 refine WL.val rfl rfl rfl rfl (r_field0 rfl (ev_t rfl) fld_36_3) ?_
 refine WL.cons (SO.store rfl (ev_t rfl) (ev_t rfl) size_4 hb3 rfl rfl rfl rfl rfl ?_)
 intro w5 hu5 hb3 hz5
 have hs5 := hu5.size
 replace hU := hU.trans hu5 (by (intro k hl hk; (try simp only [At, New, Grow, From, No] at hk ⊢); omega))
 replace hB1 := hB1.upd hu5 (by (simp only [At]; omega))
 replace hp := hp.upd hu5 (by (intro k hk hS; first | (simp only [At] at hS; omega) | (have := hG k hS; omega)))
 refine WL.nil (WX.keep [(0, _), (2, _), (3, _)] ⟨rfl, rfl, rfl, trivial⟩ (WX.next (WC.seq (WC.region (WL.val rfl rfl rfl rfl (r_move rfl (ev_t rfl)) ?_)))))
 refine WL.cons (SO.call (text_ok9 (k := 1) hp (by decide)) rfl body_82 ⟨(ev_t rfl), ev_c, trivial⟩ rfl rfl rfl rfl ?_)
 rintro v9 w6 ⟨rfl, hp2, hu6⟩
 have hs6 := hu6.size
 replace hU := hU.trans hu6 (by exact (fun _ _ h => h))
 replace hB1 := hB1.upd hu6 (by (simp only [At]; omega))
 replace hb3 := hb3.upd hu6 (by (simp only [At]; omega))
 have hp := hp2
 rw [← ht1] at hp ⊢
 refine WL.val rfl rfl rfl rfl (r_field0 rfl (ev_t rfl) fld_36_1) ?_
 refine WL.cons (SO.store rfl (ev_t rfl) (ev_t rfl) size_9 hb3 rfl rfl rfl rfl rfl ?_)
 intro w7 hu7 hb3 hz7
 have hs7 := hu7.size
 replace hU := hU.trans hu7 (by (intro k hl hk; (try simp only [At, New, Grow, From, No] at hk ⊢); omega))
 replace hB1 := hB1.upd hu7 (by (simp only [At]; omega))
 replace hp := hp.upd hu7 (by (intro k hk hS; first | (simp only [At] at hS; omega) | (have := hG k hS; omega)))
 refine WL.nil (WX.keep [(0, _), (2, _), (3, _)] ⟨rfl, rfl, rfl, trivial⟩ ?_)
 change Blk _ _ #[.int .u8 12, Sv t1.1, .int .i64 0, .bool rc, .slice none 0 0, .slice none 0 0] _ at hb3
 refine WX.next (WC.seq (WC.region (WL.val rfl rfl rfl rfl (r_assign rfl ev_c) ?_)))
 refine WL.nil (WX.keep [(0, _), (2, _), (3, _), (4, _)] ⟨rfl, rfl, rfl, rfl, trivial⟩ (WX.next (WC.seq (WC.block ?_))))
 -- loop 1: live [0, 2, 3, 4]
 refine WC.keep [(0, _), (2, _), (3, _), (4, _)] ⟨rfl, rfl, rfl, rfl, trivial⟩ (WC.loop (fun qq E wA => ∃ (s1 : St) (ks : List (List UInt8)) (G : Nat → Prop) (v1 : Value) (k1 : Nat), qq = k1 ∧ s1.ts.length ≤ k1 ∧ Upd (At r) w wA ∧ PS wA r B0 A s1 ∧ Acc 9 wA (b3 + 1) G v1 ks ∧ ks.length + s1.ts.length ≤ 2100 ∧ nm9 = nmsQ k1 ks s1 ∧ Blk wA w.heap.size #[.int .u8 0, .string ⟨#[]⟩, .int .i64 0, .bool false, .slice none 0 0, .slice none 0 0] 36 ∧ Blk wA b3 #[.int .u8 12, Sv t1.1, .int .i64 0, .bool rc, .slice none 0 0, .slice none 0 0] 36 ∧ E = [(0, (.pointer (some ⟨r, 0, none⟩))), (2, .pointer (some ⟨w.heap.size, 0, none⟩)), (3, .pointer (some ⟨b3, 0, none⟩)), (4, v1)]) (t1.2.ts.length) ?_ ?_)
 ·exact ⟨_, _, _, _, _, rfl, Nat.le_refl _, hU, hp, Acc.nil _ _, by have := hP1.2.1; simp only [List.length_nil]; omega, hnm9, hB1, hb3, rfl⟩
 ·clear hU hp hB1 hb3
  rintro qq E wA ⟨s1, ks, G, v1, k1, rfl, hk1, hU, hp, hac, hkl, hnm, hB1, hb3, rfl⟩
  obtain ⟨A1, c1, rfl, hcc1⟩ := hac.form
  have hG := hac.lt
  have hI := hp.I
  have hsC := hU.size
  have hlt1 := hB1.lt
  have hlt3 := hb3.lt
  refine WC.seq (WC.seq (WC.region (WL.val rfl rfl rfl rfl (r_move rfl (ev_t rfl)) ?_)))
  refine WL.cons (SO.call (kind_ok (k := 1) hp) rfl body_32 ⟨(ev_t rfl), ev_c, trivial⟩ rfl rfl rfl rfl ?_)
  rintro v9 w8 ⟨rfl, hu8⟩
  have hs8 := hu8.size
  replace hU := hU.trans hu8 (by exact (fun _ _ h => h.elim))
  replace hp := hp.upd hu8 (by exact (fun _ _ h => h))
  replace hac := hac.upd hu8 (fun k hk hl hS => by exact (show False from hS).elim)
  replace hB1 := hB1.upd hu8 (by exact (fun h => h))
  replace hb3 := hb3.upd hu8 (by exact (fun h => h))
  refine WL.nil (WX.keep [(0, _), (2, _), (3, _), (4, _), (15, _)] ⟨rfl, rfl, rfl, rfl, rfl, trivial⟩ (WX.next (WC.cond rfl (ev_t rfl) (fun hc5 => ?_) (fun hc5 => ?_))))
  ·obtain ⟨k2, rfl⟩ : ∃ k2, qq = k2 + 1 := ⟨qq - 1, by omega⟩
   rw [nmsQ_step hc5] at hnm
   have htl := tlQ_len s1
   refine WC.skip (WX.next (WC.block (WC.region (WL.val rfl rfl rfl rfl (r_move rfl (ev_t rfl)) ?_))))
   refine WL.val rfl rfl rfl rfl (r_move rfl (ev_t rfl)) ?_
   refine WL.cons (SO.call (text_ok9 (k := 1) hp (by decide)) rfl body_82 ⟨(ev_t rfl), ev_c, trivial⟩ rfl rfl rfl rfl ?_)
   rintro v9 w9 ⟨rfl, hp2, hu9⟩
   have hs9 := hu9.size
   replace hU := hU.trans hu9 (by exact (fun _ _ h => h))
   replace hac := hac.upd hu9 (fun k hk hl hS => by (simp only [At] at hS; omega))
   replace hB1 := hB1.upd hu9 (by (simp only [At]; omega))
   replace hb3 := hb3.upd hu9 (by (simp only [At]; omega))
   have hp := hp2
   rw [txtQ_T hc5]
   replace hp : PS w9 r B0 A (tlQ s1) := by rw [txtQ_T hc5] at hp; exact hp
   refine WL.cons (SO.alloc rfl rfl rfl rfl (r_buildSlice1 (vs := [_]) rfl ⟨(ev_t rfl), trivial⟩ rfl row_66 rfl rfl) ?_)
   intro w10 hu10 hB10 hz10
   have hs10 := hu10.size
   replace hU := hU.trans hu10 (by exact (fun _ _ h => h.elim))
   replace hac := hac.upd hu10 (fun k hk hl hS => by exact (show False from hS).elim)
   replace hB1 := hB1.upd hu10 (by exact (fun h => h))
   replace hb3 := hb3.upd hu10 (by exact (fun h => h))
   replace hp := hp.upd hu10 (by exact (fun _ _ h => h))
   refine WL.cons (SO.appendA (a := s1.hd.s) hac (F2 := No) TM.sv (fun k hk => hk.elim) (Rd.of_blk (F := At _) (n := 1) (sz := 1) hB10 rfl rfl (by omega)) row_66 (by omega) rfl rfl (ev_t rfl) (ev_t rfl) rfl rfl rfl rfl ?_ (by omega))
   intro v5 w11 hac2 hu11 hBw
   have hs11 := hu11.size
   replace hU := hU.trans hu11 (by (intro k hl hk; first | exact hk | exact (show False from hk).elim | (have := hG k hk; omega) | (simp only [At] at *; exfalso; omega)))
   replace hB1 := hB1.upd hu11 (by (intro hS; have := hG _ hS; omega))
   replace hb3 := hb3.upd hu11 (by (intro hS; have := hG _ hS; omega))
   replace hp := hp.upd hu11 (by (intro k hk hS; first | (simp only [At] at hS; omega) | (have := hG k hS; omega)))
   refine WL.val rfl rfl rfl rfl (r_assign rfl (ev_t rfl)) ?_
   refine WL.nil (WX.keep [(0, _), (2, _), (3, _), (4, _)] ⟨rfl, rfl, rfl, rfl, trivial⟩ (WX.blockNormal (WX.meet [(0, _), (2, _), (3, _), (4, _)] ⟨rfl, rfl, rfl, rfl, trivial⟩ ?_)))
   refine ⟨k2, by omega, _, _, _, _, _, rfl, by omega, hU, hp, hac2, ?_, hnm, hB1, hb3, rfl⟩
   simp only [List.length_append, List.length_cons, List.length_nil]
   omega
  ·rw [nmsQ_stop hc5] at hnm
   subst hnm
   have hd4 : s1.d = s.d := hP2.1
   refine WC.exit (WX.thenExit (WX.thenExit (WX.blockHere (WX.next (WC.seq (WC.region (WL.val rfl rfl rfl rfl (r_move rfl (ev_t rfl)) ?_)))))))
   refine WL.cons (SO.call (must_ok (u := [61]) hp) rfl body_84 ⟨(ev_t rfl), ev_c, trivial⟩ rfl rfl rfl rfl ?_)
   rintro v9 w12 ⟨hp2, hu12⟩
   have hs12 := hu12.size
   replace hU := hU.trans hu12 (by exact (fun _ _ h => h))
   replace hac := hac.upd hu12 (fun k hk hl hS => by (simp only [At] at hS; omega))
   replace hB1 := hB1.upd hu12 (by (simp only [At]; omega))
   replace hb3 := hb3.upd hu12 (by (simp only [At]; omega))
   have hp := hp2
   refine WL.nil (WX.keep [(0, _), (2, _), (3, _), (4, _)] ⟨rfl, rfl, rfl, rfl, trivial⟩ (WX.next (WC.seq (WC.region ?_))))
   obtain ⟨FD, bD, offD, cD, zD, badD, hbD, hzD, hrD, hFD, hID⟩ := hp.open
   refine WL.val rfl rfl rfl rfl (r_move rfl (ev_t rfl)) ?_
   refine WL.val rfl rfl rfl rfl (r_nilCheck rfl (ev_t rfl)) ?_
   refine WL.val rfl rfl rfl rfl (r_field0 rfl (ev_t rfl) fld_58_1) ?_
   refine WL.val rfl rfl rfl rfl (r_load rfl (ev_t rfl) flat_3 (Blk.cell hbD rfl)) ?_
   refine WL.val rfl rfl rfl rfl (r_assign rfl (ev_t rfl)) ?_
   refine WL.nil (WX.keep [(0, _), (2, _), (3, _), (4, _), (5, _)] ⟨rfl, rfl, rfl, rfl, rfl, trivial⟩ (WX.next (WC.seq (WC.region (WL.val rfl rfl rfl rfl (r_move rfl (ev_t rfl)) ?_)))))
   refine WL.val rfl rfl rfl rfl (r_move rfl (ev_t rfl)) ?_
   refine WL.cons (SO.call (ih _ _ _ _ _ hp (by (try simp only [tlQ_d, musQ_d, takQ_d, txtQ_d]); omega) (by (try simp only [tlQ_d, musQ_d, takQ_d, txtQ_d]); omega)) rfl body_59 ⟨(ev_t rfl), trivial⟩ rfl rfl rfl rfl ?_)
   rintro v9 w13 ⟨c9, rfl, ht, hp2, hst, hu13⟩
   have hs13 := hu13.size
   replace hU := hU.trans hu13 (by exact (fun _ _ h => h))
   replace hac := hac.upd hu13 (fun k hk hl hS => by (simp only [At] at hS; omega))
   replace hB1 := hB1.upd hu13 (by (simp only [At]; omega))
   replace hb3 := hb3.upd hu13 (by (simp only [At]; omega))
   have hp := hp2
   have hsd := hst.1
   try simp only [tlQ_d, musQ_d, takQ_d, txtQ_d] at hsd
   rw [← hq9] at ht hp hst
   obtain ⟨xs, hrx, hmx⟩ := hac.done (by omega)
   rw [Ms.sv hmx] at hrx
   refine WL.cons (SO.call (funs_ok hrx ht) rfl body_86 ⟨(ev_t rfl), (ev_t rfl), trivial⟩ rfl rfl rfl rfl ?_)
   rintro v9 w14 ⟨c8, rfl, ht2, hu14⟩
   have hs14 := hu14.size
   replace hU := hU.trans hu14 (by exact (fun _ _ h => h.elim))
   replace hac := hac.upd hu14 (fun k hk hl hS => by exact (show False from hS).elim)
   replace hB1 := hB1.upd hu14 (by exact (fun h => h))
   replace hb3 := hb3.upd hu14 (by exact (fun h => h))
   replace hp := hp.upd hu14 (by exact (fun _ _ h => h))
   replace ht := ht.upd hu14 (fun k hk hl hS => by exact (show False from hS).elim)
   obtain ⟨tk, ts, tn, trc, tps, tks, tA9, tp9, tA, tp, tys, txs, het, rfl, _⟩ := ht2.mk6
   refine WL.cons (SO.alloc rfl rfl rfl rfl (r_alloc rfl zero_36) ?_)
   intro w15 hu15 hB15 hz15
   have hs15 := hu15.size
   replace hU := hU.trans hu15 (by exact (fun _ _ h => h.elim))
   replace hB1 := hB1.upd hu15 (by exact (fun h => h))
   replace hb3 := hb3.upd hu15 (by exact (fun h => h))
   replace hp := hp.upd hu15 (by exact (fun _ _ h => h))
   replace ht := ht.upd hu15 (fun k hk hl hS => by exact (show False from hS).elim)
   replace ht2 := ht2.upd hu15 (fun k hk hl hS => by exact (show False from hS).elim)
   refine WL.cons (SO.storeAll (us := [_, _, _, _, _, _]) rfl (ev_t rfl) (ev_t rfl) size_36 hB15 rfl rfl rfl rfl rfl ?_)
   intro w16 hu16 hB15 hz16
   have hs16 := hu16.size
   replace hU := hU.trans hu16 (by (intro k hl hk; (try simp only [At, New, Grow, From, No] at hk ⊢); omega))
   replace hB1 := hB1.upd hu16 (by (simp only [At]; omega))
   replace hb3 := hb3.upd hu16 (by (simp only [At]; omega))
   replace hp := hp.upd hu16 (by (intro k hk hS; first | (simp only [At] at hS; omega) | (have := hG k hS; omega)))
   replace ht := ht.upd hu16 (fun k hk hl hS => by (simp only [At, Bt] at hS hk; omega))
   replace ht2 := ht2.upd hu16 (fun k hk hl hS => by (simp only [At, Bt] at hS hk; omega))
   refine WL.nil (WX.keep [(0, _), (2, _), (3, _), (5, _), (6, _)] ⟨rfl, rfl, rfl, rfl, rfl, trivial⟩ ?_)
   have hb6 := hB15
   change Blk _ _ #[.int .u8 (tk : Int), Sv ts, .int .i64 tn, .bool trc, .slice tA9 tps.length tp9, .slice tA tks.length tp] _ at hb6
   have hlt6 := hb6.lt
   obtain ⟨b6, hb6e⟩ : ∃ b6, b6 = w14.heap.size := ⟨_, rfl⟩
   rw [← hb6e] at hb6 hlt6 ⊢
   have hek : (funQ ks q9.1).k = tk := by rw [het]; rfl
   refine WX.next (WC.seq (WC.seq (WC.region ?_)))
   obtain ⟨FE, bE, offE, cE, zE, badE, hbE, hzE, hrE, hFE, hIE⟩ := hp.open
   refine WL.val rfl rfl rfl rfl (r_move rfl (ev_t rfl)) ?_
   refine WL.val rfl rfl rfl rfl (r_nilCheck rfl (ev_t rfl)) ?_
   refine WL.val rfl rfl rfl rfl (r_field0 rfl (ev_t rfl) fld_58_4) ?_
   refine WL.val rfl rfl rfl rfl (r_load rfl (ev_t rfl) flat_3 (Blk.cell hbE rfl)) ?_
   refine WL.val rfl rfl rfl rfl (r_eql rfl (ev_t rfl) ev_c) ?_
   refine WL.val rfl rfl rfl rfl (r_move rfl (ev_t rfl)) ?_
   refine WL.cases 36 rfl (fun hb10_5 => ?_) (fun hb10_5 => ?_)
   ·try simp only [cS, ne_eq, Decidable.not_not] at hb10_5
    refine WL.val rfl rfl rfl rfl (r_field0 rfl (ev_t rfl) fld_36_3) ?_
    refine WL.val rfl rfl rfl rfl (r_load rfl (ev_t rfl) flat_4 (Blk.cell hb3 rfl)) ?_
    refine WL.val rfl rfl rfl rfl (r_pickT rfl (ev_t rfl) (ev_t rfl)) ?_
    refine WL.val rfl rfl rfl rfl (r_move rfl (ev_t rfl)) ?_
    refine WL.cases 40 rfl (fun hb10_9 => ?_) (fun hb10_9 => ?_)
    ·refine WL.val rfl rfl rfl rfl (r_field0 rfl (ev_t rfl) fld_36_0) ?_
     refine WL.val rfl rfl rfl rfl (r_load rfl (ev_t rfl) flat_5 (Blk.cell hb6 rfl)) ?_
     refine WL.val rfl rfl rfl rfl (r_neq rfl (ev_t rfl) ev_c) ?_
     refine WL.val rfl rfl rfl rfl (r_pickT rfl (ev_t rfl) (ev_t rfl)) ?_
     refine WL.nil (WX.keep [(0, _), (2, _), (3, _), (5, _), (6, _), (44, _)] ⟨rfl, rfl, rfl, rfl, rfl, rfl, trivial⟩ (WX.next (WC.cond rfl (ev_t rfl) (fun hc10 => ?_) (fun hc10 => ?_))))
     ·try simp only [cS, ne_eq, Decidable.not_not] at hc10
      refine WC.region (WL.val rfl rfl rfl rfl (r_move rfl (ev_t rfl)) ?_)
      refine WL.val rfl rfl rfl rfl (r_move rfl (ev_t rfl)) ?_
      refine WL.cons (SO.call (fault_ok (e := 4) hp (by omega) (by decide)) rfl body_35 ⟨(ev_t rfl), (ev_t rfl), ev_c, trivial⟩ rfl rfl rfl rfl ?_)
      rintro v9 w17 ⟨hp2, hu17⟩
      have hs17 := hu17.size
      replace hU := hU.trans hu17 (by exact (fun _ _ h => h))
      replace hB1 := hB1.upd hu17 (by (simp only [At]; omega))
      replace hb3 := hb3.upd hu17 (by (simp only [At]; omega))
      replace ht2 := ht2.upd hu17 (fun k hk hl hS => by (simp only [At, Bt] at hS hk; omega))
      replace hb6 := hb6.upd hu17 (by (simp only [At]; omega))
      have hp := hp2
      refine WL.nil (WX.keep [(2, _), (3, _), (6, _)] ⟨rfl, rfl, rfl, trivial⟩ (WX.next (WC.seq (WC.region (WL.val rfl rfl rfl rfl (r_loadAgg (vs := [_, _, _, _, _, _]) rfl (ev_t rfl) agg_36 size_36 (Blk.cellsL hb6)) ?_)))))
      refine WL.cons (SO.alloc rfl rfl rfl rfl (r_buildSlice6 rfl (ev_t rfl) row_34) ?_)
      intro w18 hu18 hB18 hz18
      have hs18 := hu18.size
      replace hU := hU.trans hu18 (by exact (fun _ _ h => h.elim))
      replace hB1 := hB1.upd hu18 (by exact (fun h => h))
      replace hb3 := hb3.upd hu18 (by exact (fun h => h))
      replace ht2 := ht2.upd hu18 (fun k hk hl hS => by exact (show False from hS).elim)
      replace hb6 := hb6.upd hu18 (by exact (fun h => h))
      replace hp := hp.upd hu18 (by exact (fun _ _ h => h))
      refine WL.val rfl rfl rfl rfl (r_field0 rfl (ev_t rfl) fld_36_5) ?_
      have hrow := hB18
      change Blk _ _ #[.int .u8 (tk : Int), Sv ts, .int .i64 tn, .bool trc, .slice tA9 tps.length tp9, .slice tA tks.length tp] _ at hrow
      refine WL.cons (SO.store rfl (ev_t rfl) (ev_t rfl) size_34 hb3 rfl rfl rfl rfl rfl ?_)
      intro w19 hu19 hb3 hz19
      have hs19 := hu19.size
      replace hU := hU.trans hu19 (by (intro k hl hk; (try simp only [At, New, Grow, From, No] at hk ⊢); omega))
      replace hB1 := hB1.upd hu19 (by (simp only [At]; omega))
      replace ht2 := ht2.upd hu19 (fun k hk hl hS => by (simp only [At, Bt] at hS hk; omega))
      replace hb6 := hb6.upd hu19 (by (simp only [At]; omega))
      replace hp := hp.upd hu19 (by (intro k hk hS; first | (simp only [At] at hS; omega) | (have := hG k hS; omega)))
      replace hrow := hrow.updA hu19
      refine WL.nil (WX.keep [(2, _), (3, _)] ⟨rfl, rfl, trivial⟩ ?_)
      have hlr := hrow.lt
      refine WX.next (WC.seq (WC.region (WL.val rfl rfl rfl rfl (r_loadAgg (vs := [_, _, _, _, _, _]) rfl (ev_t rfl) agg_36 size_36 (Blk.cellsL hb3)) ?_)))
      refine WL.cons (SO.storeAll (us := [_, _, _, _, _, _]) rfl (ev_t rfl) (ev_t rfl) size_36 hB1 rfl rfl rfl rfl rfl ?_)
      intro w20 hu20 hB1 hz20
      have hs20 := hu20.size
      replace hU := hU.trans hu20 (by (intro k hl hk; (try simp only [At, New, Grow, From, No] at hk ⊢); omega))
      replace hb3 := hb3.upd hu20 (by (simp only [At]; omega))
      replace ht2 := ht2.upd hu20 (fun k hk hl hS => by (simp only [At, Bt] at hS hk; omega))
      replace hb6 := hb6.upd hu20 (by (simp only [At]; omega))
      replace hp := hp.upd hu20 (by (intro k hk hS; first | (simp only [At] at hS; omega) | (have := hG k hS; omega)))
      replace hrow := hrow.updA hu20
      refine WL.nil (WX.keep [(2, _)] ⟨rfl, trivial⟩ (WX.next (WC.ret (WX.retC (vs := [_, _, _, _, _, _]) rfl rfl agg_36 size_36 (Blk.cellsL hB1) ?_))))
      rw [hbin]
      refine ⟨_, _, _, _, rfl, rfl, Acc.single hrow rfl ht2 (fun k hk => by simp only [Bt] at hk; omega) (by omega), ?_⟩
      first
       | (rw [if_pos ⟨by omega, by simp_all, by rw [hek]; omega⟩]
          exact ⟨hp, hP3.trans (hst.trans (Pst.fau _ _)), hU⟩)
       | (rw [if_neg (by rintro ⟨h1, h2, h3⟩; rw [hek] at h3; first | omega | (simp_all; done))]
          exact ⟨hp, hP3.trans hst, hU⟩)
     ·try simp only [cS, ne_eq, Decidable.not_not] at hc10
      refine WC.skip (WX.next (WC.seq (WC.region (WL.val rfl rfl rfl rfl (r_loadAgg (vs := [_, _, _, _, _, _]) rfl (ev_t rfl) agg_36 size_36 (Blk.cellsL hb6)) ?_))))
      refine WL.cons (SO.alloc rfl rfl rfl rfl (r_buildSlice6 rfl (ev_t rfl) row_34) ?_)
      intro w21 hu21 hB21 hz21
      have hs21 := hu21.size
      replace hU := hU.trans hu21 (by exact (fun _ _ h => h.elim))
      replace hB1 := hB1.upd hu21 (by exact (fun h => h))
      replace hb3 := hb3.upd hu21 (by exact (fun h => h))
      replace hp := hp.upd hu21 (by exact (fun _ _ h => h))
      replace ht2 := ht2.upd hu21 (fun k hk hl hS => by exact (show False from hS).elim)
      replace hb6 := hb6.upd hu21 (by exact (fun h => h))
      refine WL.val rfl rfl rfl rfl (r_field0 rfl (ev_t rfl) fld_36_5) ?_
      have hrow := hB21
      change Blk _ _ #[.int .u8 (tk : Int), Sv ts, .int .i64 tn, .bool trc, .slice tA9 tps.length tp9, .slice tA tks.length tp] _ at hrow
      refine WL.cons (SO.store rfl (ev_t rfl) (ev_t rfl) size_34 hb3 rfl rfl rfl rfl rfl ?_)
      intro w22 hu22 hb3 hz22
      have hs22 := hu22.size
      replace hU := hU.trans hu22 (by (intro k hl hk; (try simp only [At, New, Grow, From, No] at hk ⊢); omega))
      replace hB1 := hB1.upd hu22 (by (simp only [At]; omega))
      replace hp := hp.upd hu22 (by (intro k hk hS; first | (simp only [At] at hS; omega) | (have := hG k hS; omega)))
      replace ht2 := ht2.upd hu22 (fun k hk hl hS => by (simp only [At, Bt] at hS hk; omega))
      replace hb6 := hb6.upd hu22 (by (simp only [At]; omega))
      replace hrow := hrow.updA hu22
      refine WL.nil (WX.keep [(2, _), (3, _)] ⟨rfl, rfl, trivial⟩ ?_)
      have hlr := hrow.lt
      refine WX.next (WC.seq (WC.region (WL.val rfl rfl rfl rfl (r_loadAgg (vs := [_, _, _, _, _, _]) rfl (ev_t rfl) agg_36 size_36 (Blk.cellsL hb3)) ?_)))
      refine WL.cons (SO.storeAll (us := [_, _, _, _, _, _]) rfl (ev_t rfl) (ev_t rfl) size_36 hB1 rfl rfl rfl rfl rfl ?_)
      intro w23 hu23 hB1 hz23
      have hs23 := hu23.size
      replace hU := hU.trans hu23 (by (intro k hl hk; (try simp only [At, New, Grow, From, No] at hk ⊢); omega))
      replace hb3 := hb3.upd hu23 (by (simp only [At]; omega))
      replace hp := hp.upd hu23 (by (intro k hk hS; first | (simp only [At] at hS; omega) | (have := hG k hS; omega)))
      replace ht2 := ht2.upd hu23 (fun k hk hl hS => by (simp only [At, Bt] at hS hk; omega))
      replace hb6 := hb6.upd hu23 (by (simp only [At]; omega))
      replace hrow := hrow.updA hu23
      refine WL.nil (WX.keep [(2, _)] ⟨rfl, trivial⟩ (WX.next (WC.ret (WX.retC (vs := [_, _, _, _, _, _]) rfl rfl agg_36 size_36 (Blk.cellsL hB1) ?_))))
      rw [hbin]
      refine ⟨_, _, _, _, rfl, rfl, Acc.single hrow rfl ht2 (fun k hk => by simp only [Bt] at hk; omega) (by omega), ?_⟩
      first
       | (rw [if_pos ⟨by omega, by simp_all, by rw [hek]; omega⟩]
          exact ⟨hp, hP3.trans (hst.trans (Pst.fau _ _)), hU⟩)
       | (rw [if_neg (by rintro ⟨h1, h2, h3⟩; rw [hek] at h3; first | omega | (simp_all; done))]
          exact ⟨hp, hP3.trans hst, hU⟩)
    ·refine WL.skip rfl rfl rfl (WL.skip rfl rfl rfl (WL.skip rfl rfl rfl (WL.val rfl rfl rfl rfl (r_pickF rfl (ev_t rfl) ev_c) ?_)))
     refine WL.nil (WX.keep [(0, _), (2, _), (3, _), (5, _), (6, _), (44, _)] ⟨rfl, rfl, rfl, rfl, rfl, rfl, trivial⟩ (WX.next (WC.cond_false rfl (ev_t rfl) ?_)))
     refine WC.skip (WX.next (WC.seq (WC.region (WL.val rfl rfl rfl rfl (r_loadAgg (vs := [_, _, _, _, _, _]) rfl (ev_t rfl) agg_36 size_36 (Blk.cellsL hb6)) ?_))))
     refine WL.cons (SO.alloc rfl rfl rfl rfl (r_buildSlice6 rfl (ev_t rfl) row_34) ?_)
     intro w24 hu24 hB24 hz24
     have hs24 := hu24.size
     replace hU := hU.trans hu24 (by exact (fun _ _ h => h.elim))
     replace hB1 := hB1.upd hu24 (by exact (fun h => h))
     replace hb3 := hb3.upd hu24 (by exact (fun h => h))
     replace hp := hp.upd hu24 (by exact (fun _ _ h => h))
     replace ht2 := ht2.upd hu24 (fun k hk hl hS => by exact (show False from hS).elim)
     replace hb6 := hb6.upd hu24 (by exact (fun h => h))
     refine WL.val rfl rfl rfl rfl (r_field0 rfl (ev_t rfl) fld_36_5) ?_
     have hrow := hB24
     change Blk _ _ #[.int .u8 (tk : Int), Sv ts, .int .i64 tn, .bool trc, .slice tA9 tps.length tp9, .slice tA tks.length tp] _ at hrow
     refine WL.cons (SO.store rfl (ev_t rfl) (ev_t rfl) size_34 hb3 rfl rfl rfl rfl rfl ?_)
     intro w25 hu25 hb3 hz25
     have hs25 := hu25.size
     replace hU := hU.trans hu25 (by (intro k hl hk; (try simp only [At, New, Grow, From, No] at hk ⊢); omega))
     replace hB1 := hB1.upd hu25 (by (simp only [At]; omega))
     replace hp := hp.upd hu25 (by (intro k hk hS; first | (simp only [At] at hS; omega) | (have := hG k hS; omega)))
     replace ht2 := ht2.upd hu25 (fun k hk hl hS => by (simp only [At, Bt] at hS hk; omega))
     replace hb6 := hb6.upd hu25 (by (simp only [At]; omega))
     replace hrow := hrow.updA hu25
     refine WL.nil (WX.keep [(2, _), (3, _)] ⟨rfl, rfl, trivial⟩ ?_)
     have hlr := hrow.lt
     refine WX.next (WC.seq (WC.region (WL.val rfl rfl rfl rfl (r_loadAgg (vs := [_, _, _, _, _, _]) rfl (ev_t rfl) agg_36 size_36 (Blk.cellsL hb3)) ?_)))
     refine WL.cons (SO.storeAll (us := [_, _, _, _, _, _]) rfl (ev_t rfl) (ev_t rfl) size_36 hB1 rfl rfl rfl rfl rfl ?_)
     intro w26 hu26 hB1 hz26
     have hs26 := hu26.size
     replace hU := hU.trans hu26 (by (intro k hl hk; (try simp only [At, New, Grow, From, No] at hk ⊢); omega))
     replace hb3 := hb3.upd hu26 (by (simp only [At]; omega))
     replace hp := hp.upd hu26 (by (intro k hk hS; first | (simp only [At] at hS; omega) | (have := hG k hS; omega)))
     replace ht2 := ht2.upd hu26 (fun k hk hl hS => by (simp only [At, Bt] at hS hk; omega))
     replace hb6 := hb6.upd hu26 (by (simp only [At]; omega))
     replace hrow := hrow.updA hu26
     refine WL.nil (WX.keep [(2, _)] ⟨rfl, trivial⟩ (WX.next (WC.ret (WX.retC (vs := [_, _, _, _, _, _]) rfl rfl agg_36 size_36 (Blk.cellsL hB1) ?_))))
     rw [hbin]
     refine ⟨_, _, _, _, rfl, rfl, Acc.single hrow rfl ht2 (fun k hk => by simp only [Bt] at hk; omega) (by omega), ?_⟩
     first
      | (rw [if_pos ⟨by omega, by simp_all, by rw [hek]; omega⟩]
         exact ⟨hp, hP3.trans (hst.trans (Pst.fau _ _)), hU⟩)
      | (rw [if_neg (by rintro ⟨h1, h2, h3⟩; rw [hek] at h3; first | omega | (simp_all; done))]
         exact ⟨hp, hP3.trans hst, hU⟩)
   ·try simp only [cS, ne_eq, Decidable.not_not] at hb10_5
    refine WL.skip rfl rfl rfl (WL.skip rfl rfl rfl (WL.val rfl rfl rfl rfl (r_pickF rfl (ev_t rfl) ev_c) ?_))
    refine WL.val rfl rfl rfl rfl (r_move rfl (ev_t rfl)) ?_
    refine WL.skip rfl rfl rfl (WL.skip rfl rfl rfl (WL.skip rfl rfl rfl (WL.val rfl rfl rfl rfl (r_pickF rfl (ev_t rfl) ev_c) ?_)))
    refine WL.nil (WX.keep [(0, _), (2, _), (3, _), (5, _), (6, _), (44, _)] ⟨rfl, rfl, rfl, rfl, rfl, rfl, trivial⟩ (WX.next (WC.cond_false rfl (ev_t rfl) ?_)))
    refine WC.skip (WX.next (WC.seq (WC.region (WL.val rfl rfl rfl rfl (r_loadAgg (vs := [_, _, _, _, _, _]) rfl (ev_t rfl) agg_36 size_36 (Blk.cellsL hb6)) ?_))))
    refine WL.cons (SO.alloc rfl rfl rfl rfl (r_buildSlice6 rfl (ev_t rfl) row_34) ?_)
    intro w27 hu27 hB27 hz27
    have hs27 := hu27.size
    replace hU := hU.trans hu27 (by exact (fun _ _ h => h.elim))
    replace hB1 := hB1.upd hu27 (by exact (fun h => h))
    replace hb3 := hb3.upd hu27 (by exact (fun h => h))
    replace hp := hp.upd hu27 (by exact (fun _ _ h => h))
    replace ht2 := ht2.upd hu27 (fun k hk hl hS => by exact (show False from hS).elim)
    replace hb6 := hb6.upd hu27 (by exact (fun h => h))
    refine WL.val rfl rfl rfl rfl (r_field0 rfl (ev_t rfl) fld_36_5) ?_
    have hrow := hB27
    change Blk _ _ #[.int .u8 (tk : Int), Sv ts, .int .i64 tn, .bool trc, .slice tA9 tps.length tp9, .slice tA tks.length tp] _ at hrow
    refine WL.cons (SO.store rfl (ev_t rfl) (ev_t rfl) size_34 hb3 rfl rfl rfl rfl rfl ?_)
    intro w28 hu28 hb3 hz28
    have hs28 := hu28.size
    replace hU := hU.trans hu28 (by (intro k hl hk; (try simp only [At, New, Grow, From, No] at hk ⊢); omega))
    replace hB1 := hB1.upd hu28 (by (simp only [At]; omega))
    replace hp := hp.upd hu28 (by (intro k hk hS; first | (simp only [At] at hS; omega) | (have := hG k hS; omega)))
    replace ht2 := ht2.upd hu28 (fun k hk hl hS => by (simp only [At, Bt] at hS hk; omega))
    replace hb6 := hb6.upd hu28 (by (simp only [At]; omega))
    replace hrow := hrow.updA hu28
    refine WL.nil (WX.keep [(2, _), (3, _)] ⟨rfl, rfl, trivial⟩ ?_)
    have hlr := hrow.lt
    refine WX.next (WC.seq (WC.region (WL.val rfl rfl rfl rfl (r_loadAgg (vs := [_, _, _, _, _, _]) rfl (ev_t rfl) agg_36 size_36 (Blk.cellsL hb3)) ?_)))
    refine WL.cons (SO.storeAll (us := [_, _, _, _, _, _]) rfl (ev_t rfl) (ev_t rfl) size_36 hB1 rfl rfl rfl rfl rfl ?_)
    intro w29 hu29 hB1 hz29
    have hs29 := hu29.size
    replace hU := hU.trans hu29 (by (intro k hl hk; (try simp only [At, New, Grow, From, No] at hk ⊢); omega))
    replace hb3 := hb3.upd hu29 (by (simp only [At]; omega))
    replace hp := hp.upd hu29 (by (intro k hk hS; first | (simp only [At] at hS; omega) | (have := hG k hS; omega)))
    replace ht2 := ht2.upd hu29 (fun k hk hl hS => by (simp only [At, Bt] at hS hk; omega))
    replace hb6 := hb6.upd hu29 (by (simp only [At]; omega))
    replace hrow := hrow.updA hu29
    refine WL.nil (WX.keep [(2, _)] ⟨rfl, trivial⟩ (WX.next (WC.ret (WX.retC (vs := [_, _, _, _, _, _]) rfl rfl agg_36 size_36 (Blk.cellsL hB1) ?_))))
    rw [hbin]
    refine ⟨_, _, _, _, rfl, rfl, Acc.single hrow rfl ht2 (fun k hk => by simp only [Bt] at hk; omega) (by omega), ?_⟩
    first
     | (rw [if_pos ⟨by omega, by simp_all, by rw [hek]; omega⟩]
        exact ⟨hp, hP3.trans (hst.trans (Pst.fau _ _)), hU⟩)
     | (rw [if_neg (by rintro ⟨h1, h2, h3⟩; rw [hek] at h3; first | omega | (simp_all; done))]
        exact ⟨hp, hP3.trans hst, hU⟩)
end Go.Proofs.YtomkdhkkggbioaaGreatDoor
