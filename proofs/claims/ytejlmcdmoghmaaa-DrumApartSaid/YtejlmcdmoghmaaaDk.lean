/-
  law 13: what was synced; what is handed in and told.
-/
import Derived.Test.YtejlmcdmoghmaaaDl
import Derived.Test.YtejlmcdmoghmaaaFo
namespace Go.Proofs.Ytejlmcdmoghmaaa
open Go
set_option linter.unusedSimpArgs false
set_option linter.unusedVariables false

theorem sureW {p q s : List UInt8} {c : Int} (hs : s = fallS ⟨p, q, true⟩ c) : s = p ∨ (s.length ≤ q.length ∧ q.take s.length = s) := by
  unfold fallS at hs
  split at hs
  · right
    rw [hs, List.length_take]
    simp only
    refine ⟨by omega, ?_⟩
    exact take_same (by omega)
  · rw [if_neg (by simp)] at hs
    exact .inl hs
theorem sureA {p q s : List UInt8} {c : Int} (hs : s = fallS ⟨p, p ++ q, false⟩ c) : p.length ≤ s.length ∧ s.take p.length = p ∧ s.length ≤ p.length + q.length ∧ s.drop p.length = q.take (s.length - p.length) := by
  have key : ∃ j, j ≤ q.length ∧ s = p ++ q.take j := by
    unfold fallS at hs
    rw [if_neg (by simp)] at hs
    split at hs
    · refine ⟨min (min c ((p ++ q).length : Int)).toNat q.length, by omega, ?_⟩
      rw [hs, List.take_append]
      simp only
      rw [List.take_of_length_le (by omega)]
      congr 1
      exact take_same (by omega)
    · exact ⟨0, by omega, by rw [hs]; simp⟩
  obtain ⟨j, hj, rfl⟩ := key
  have hl : (p ++ q.take j).length = p.length + j := by rw [List.length_append, List.length_take]; omega
  rw [hl]
  refine ⟨by omega, by simp, by omega, ?_⟩
  rw [List.drop_left]
  congr 1
  omega
theorem notN {w w1 : World} {k : Nat} (hk : k < w.heap.size) : ¬ New w w1 k := fun h => by simp only [New] at h; omega

set_option maxHeartbeats 1000000 in
theorem drumSure.walk {w : World} {pv qv cv : Value} {p q : List UInt8} {cuts : List Int} {wr : Bool} (hp : Rd w (fun k => k < w.heap.size) pv p.length 1 (p.map U8)) (hq : Rd w (fun k => k < w.heap.size) qv q.length 1 (q.map U8)) (hc : Rd w (fun k => k < w.heap.size) cv cuts.length 1 (cuts.map I64v)) :
    Ret Try.prog 3 #[pv, qv, cv, .bool wr] w fun v w' => v = .bool true ∧ Upd No w w' := by
  obtain ⟨Ap, cp, rfl, hcp⟩ := hp.slice_form
  obtain ⟨Aq, cq, rfl, hcq⟩ := hq.slice_form
  have hpm := hp.le
  have hqm := hq.le
  refine enterRet (vs := [_, _, _, _]) (N := 113) Try.func3 rfl rfl rfl ?_
  have hU := Upd.refl No w
  refine WC.keep [(0, _), (1, _), (2, _), (3, _)] ⟨rfl, rfl, rfl, rfl, trivial⟩ ?_
  refine WC.seq ?_
  -- region 0 law.go:82
  refine WC.region ?_
  refine WL.val rfl rfl rfl rfl (r_assign rfl ev_c) ?_
  refine WL.nil ?_
  refine WX.keep [(0, _), (1, _), (2, _), (3, _)] ⟨rfl, rfl, rfl, rfl, trivial⟩ ?_
  refine WX.next ?_
  refine WC.seq ?_
  refine WC.seq ?_
  -- region 1 law.go:83
  refine WC.region ?_
  refine WL.cons (SO.call (awake13_ok _) rfl body_14 trivial rfl rfl rfl rfl ?_)
  rintro v w1 ⟨rfl, hu1⟩
  have hs1 := hu1.size
  replace hU := hU.trans hu1 (by first | exact (fun _ _ h => h) | exact (fun _ _ h => h.elim) | (intro k hl hk; (try simp only [At, New, Grow, From, No] at hk ⊢); omega))
  replace hp := hp.upd hu1 (by first | exact (fun _ _ _ h => h) | exact (fun k hk _ => notN hk))
  replace hq := hq.upd hu1 (by first | exact (fun _ _ _ h => h) | exact (fun k hk _ => notN hk))
  replace hc := hc.upd hu1 (by first | exact (fun _ _ _ h => h) | exact (fun k hk _ => notN hk))
  refine WL.val rfl rfl rfl rfl (r_not rfl (ev_t rfl)) ?_
  refine WL.val rfl rfl rfl rfl (r_move rfl (ev_t rfl)) ?_
  refine WL.cases 16 rfl (fun hb1_2 => ?_) (fun hb1_2 => ?_)
  · try (exfalso; first | (simp at hb1_2; done) | (simp only [decide_eq_true_eq, decide_eq_false_iff_not, Bool.not_eq_true', Bool.not_eq_false', Bool.not_eq_true, Bool.not_eq_false] at hb1_2; omega) | omega)
    all_goals
      try simp only [decide_eq_true_eq, decide_eq_false_iff_not, Bool.not_eq_true', Bool.not_eq_false', Bool.not_eq_true, Bool.not_eq_false, Option.isNone_none, Option.isNone_some, Option.isSome_none, Option.isSome_some, ne_eq, Decidable.not_not] at hb1_2
      refine WL.skip rfl rfl rfl ?_
      refine WL.skip rfl rfl rfl ?_
      refine WL.skip rfl rfl rfl ?_
      refine WL.skip rfl rfl rfl ?_
      refine WL.skip rfl rfl rfl ?_
      refine WL.skip rfl rfl rfl ?_
      refine WL.val rfl rfl rfl rfl (r_pickT rfl (ev_t rfl) ev_c) ?_
      refine WL.nil ?_
      refine WX.keep [(0, _), (1, _), (2, _), (3, _), (23, _)] ⟨rfl, rfl, rfl, rfl, rfl, trivial⟩ ?_
      refine WX.next ?_
      refine WC.cond_true rfl (ev_t rfl) ?_
      refine WC.seq ?_
      -- region 2 law.go:84
      refine WC.region ?_
      refine WL.cons (SO.call (awake13_ok _) rfl body_14 trivial rfl rfl rfl rfl ?_)
      rintro v w2 ⟨rfl, hu2⟩
      have hs2 := hu2.size
      replace hU := hU.trans hu2 (by first | exact (fun _ _ h => h) | exact (fun _ _ h => h.elim) | (intro k hl hk; (try simp only [At, New, Grow, From, No] at hk ⊢); omega))
      replace hp := hp.upd hu2 (by first | exact (fun _ _ _ h => h) | exact (fun k hk _ => notN hk))
      replace hq := hq.upd hu2 (by first | exact (fun _ _ _ h => h) | exact (fun k hk _ => notN hk))
      replace hc := hc.upd hu2 (by first | exact (fun _ _ _ h => h) | exact (fun k hk _ => notN hk))
      refine WL.val rfl rfl rfl rfl (r_assign rfl (ev_t rfl)) ?_
      refine WL.nil ?_
      refine WX.keep [(8, _)] ⟨rfl, trivial⟩ ?_
      refine WX.next ?_
      refine WC.ret ?_
      refine WX.thenRet ?_
      refine WX.retE1 rfl rfl ?_
      first
        | exact ⟨rfl, hU⟩
        | (refine ⟨?_, hU⟩; rw [List.drop_zero, Nat.sub_zero, List.take_of_length_le (by rw [List.length_drop]; omega), hA.2.2.2]; simp; done)
        | (refine ⟨?_, hU⟩; simp [hW2.2]; done)
  · try (exfalso; first | (simp at hb1_2; done) | (simp only [decide_eq_true_eq, decide_eq_false_iff_not, Bool.not_eq_true', Bool.not_eq_false', Bool.not_eq_true, Bool.not_eq_false] at hb1_2; omega) | omega)
    all_goals
      try simp only [decide_eq_true_eq, decide_eq_false_iff_not, Bool.not_eq_true', Bool.not_eq_false', Bool.not_eq_true, Bool.not_eq_false, Option.isNone_none, Option.isNone_some, Option.isSome_none, Option.isSome_some, ne_eq, Decidable.not_not] at hb1_2
      refine WL.val rfl rfl rfl rfl (r_move rfl (ev_t rfl)) ?_
      refine WL.val rfl rfl rfl rfl (r_lenSlice (ts := #[]) rfl (ev_t rfl) elem_22) ?_
      refine WL.val rfl rfl rfl rfl (r_move rfl (ev_t rfl)) ?_
      refine WL.val rfl rfl rfl rfl (r_lenSlice (ts := #[]) rfl (ev_t rfl) elem_22) ?_
      first | refine WL.val rfl rfl rfl rfl (r_addN rfl (ev_t rfl) (ev_t rfl) (by simp only [inK]; omega)) ?_ | refine WL.val rfl rfl rfl rfl (r_add rfl (ev_t rfl) (ev_t rfl)) ?_
      refine WL.val rfl rfl rfl rfl (r_gtr rfl (ev_t rfl) ev_c) ?_
      refine WL.val rfl rfl rfl rfl (r_pickF rfl (ev_t rfl) (ev_t rfl)) ?_
      refine WL.nil ?_
      refine WX.keep [(0, _), (1, _), (2, _), (3, _), (23, _)] ⟨rfl, rfl, rfl, rfl, rfl, trivial⟩ ?_
      refine WX.next ?_
      refine WC.cond rfl (ev_t rfl) (fun hc1 => ?_) (fun hc1 => ?_)
      · try (exfalso; first | (simp at hc1; done) | (simp only [decide_eq_true_eq, decide_eq_false_iff_not, Bool.not_eq_true', Bool.not_eq_false', Bool.not_eq_true, Bool.not_eq_false] at hc1; omega) | omega)
        all_goals
          try simp only [decide_eq_true_eq, decide_eq_false_iff_not, Bool.not_eq_true', Bool.not_eq_false', Bool.not_eq_true, Bool.not_eq_false, Option.isNone_none, Option.isNone_some, Option.isSome_none, Option.isSome_some, ne_eq, Decidable.not_not] at hc1
          refine WC.seq ?_
          -- region 2 law.go:84
          refine WC.region ?_
          refine WL.cons (SO.call (awake13_ok _) rfl body_14 trivial rfl rfl rfl rfl ?_)
          rintro v w3 ⟨rfl, hu3⟩
          have hs3 := hu3.size
          replace hU := hU.trans hu3 (by first | exact (fun _ _ h => h) | exact (fun _ _ h => h.elim) | (intro k hl hk; (try simp only [At, New, Grow, From, No] at hk ⊢); omega))
          replace hp := hp.upd hu3 (by first | exact (fun _ _ _ h => h) | exact (fun k hk _ => notN hk))
          replace hq := hq.upd hu3 (by first | exact (fun _ _ _ h => h) | exact (fun k hk _ => notN hk))
          replace hc := hc.upd hu3 (by first | exact (fun _ _ _ h => h) | exact (fun k hk _ => notN hk))
          refine WL.val rfl rfl rfl rfl (r_assign rfl (ev_t rfl)) ?_
          refine WL.nil ?_
          refine WX.keep [(8, _)] ⟨rfl, trivial⟩ ?_
          refine WX.next ?_
          refine WC.ret ?_
          refine WX.thenRet ?_
          refine WX.retE1 rfl rfl ?_
          first
            | exact ⟨rfl, hU⟩
            | (refine ⟨?_, hU⟩; rw [List.drop_zero, Nat.sub_zero, List.take_of_length_le (by rw [List.length_drop]; omega), hA.2.2.2]; simp; done)
            | (refine ⟨?_, hU⟩; simp [hW2.2]; done)
      · try (exfalso; first | (simp at hc1; done) | (simp only [decide_eq_true_eq, decide_eq_false_iff_not, Bool.not_eq_true', Bool.not_eq_false', Bool.not_eq_true, Bool.not_eq_false] at hc1; omega) | omega)
        all_goals
          try simp only [decide_eq_true_eq, decide_eq_false_iff_not, Bool.not_eq_true', Bool.not_eq_false', Bool.not_eq_true, Bool.not_eq_false, Option.isNone_none, Option.isNone_some, Option.isSome_none, Option.isSome_some, ne_eq, Decidable.not_not] at hc1
          refine WC.skip ?_
          refine WX.next ?_
          refine WC.seq ?_
          -- region 3 law.go:86
          refine WC.region ?_
          refine WL.cons (SO.call (Dnew_ok (n := 1) (most := 10000) (by omega) (by omega)) rfl body_15 ⟨ev_c, ev_c, trivial⟩ rfl rfl rfl rfl ?_)
          rintro v w4 ⟨pd, rfl, hd, hu4⟩
          rw [D1_new] at hd
          have hs4 := hu4.size
          replace hU := hU.trans hu4 (by first | exact (fun _ _ h => h) | exact (fun _ _ h => h.elim) | (intro k hl hk; (try simp only [At, New, Grow, From, No] at hk ⊢); omega))
          replace hp := hp.upd hu4 (by first | exact (fun _ _ _ h => h) | exact (fun k hk _ => notN hk))
          replace hq := hq.upd hu4 (by first | exact (fun _ _ _ h => h) | exact (fun k hk _ => notN hk))
          replace hc := hc.upd hu4 (by first | exact (fun _ _ _ h => h) | exact (fun k hk _ => notN hk))
          replace hd := hd.mono (F' := New w w4) (fun k hk _ => by simp only [New] at hk ⊢; omega)
          refine WL.val rfl rfl rfl rfl (r_move rfl (ev_t rfl)) ?_
          refine WL.val rfl rfl rfl rfl (r_extract rfl (ev_t rfl) rfl) ?_
          refine WL.val rfl rfl rfl rfl (r_extract rfl (ev_t rfl) rfl) ?_
          refine WL.val rfl rfl rfl rfl (r_assign rfl (ev_t rfl)) ?_
          refine WL.val rfl rfl rfl rfl (r_assign rfl (ev_t rfl)) ?_
          refine WL.nil ?_
          refine WX.keep [(0, _), (1, _), (2, _), (3, _), (9, _)] ⟨rfl, rfl, rfl, rfl, rfl, trivial⟩ ?_
          refine WX.next ?_
          refine WC.seq ?_
          -- region 4 law.go:87
          refine WC.region ?_
          refine WL.val rfl rfl rfl rfl (r_move rfl (ev_t rfl)) ?_
          refine WL.val rfl rfl rfl rfl (r_move rfl (ev_t rfl)) ?_
          refine WL.cons (SO.call (Append_good hd D1_look hp (fun k hk _ => notN hk)) rfl body_16 ⟨(ev_t rfl), ev_c, (ev_t rfl), trivial⟩ rfl rfl rfl rfl ?_)
          rintro v w5 ⟨rfl, hd, hu5⟩
          rw [D1_append (by simp; omega) (by omega) (by omega)] at hd ⊢
          have hs5 := hu5.size
          replace hU := hU.trans hu5 (by first | exact (fun _ _ h => h) | exact (fun _ _ h => h.elim) | (intro k hl hk; (try simp only [At, New, Grow, From, No] at hk ⊢); omega))
          replace hp := hp.upd hu5 (by first | exact (fun _ _ _ h => h) | exact (fun k hk _ => notN hk))
          replace hq := hq.upd hu5 (by first | exact (fun _ _ _ h => h) | exact (fun k hk _ => notN hk))
          replace hc := hc.upd hu5 (by first | exact (fun _ _ _ h => h) | exact (fun k hk _ => notN hk))
          replace hd := hd.mono (F' := New w w5) (fun k hk _ => New.grow (by omega) (by omega) hk)
          refine WL.nil ?_
          refine WX.keep [(0, _), (1, _), (2, _), (3, _), (9, _)] ⟨rfl, rfl, rfl, rfl, rfl, trivial⟩ ?_
          refine WX.next ?_
          refine WC.seq ?_
          -- region 5 law.go:88
          refine WC.region ?_
          refine WL.val rfl rfl rfl rfl (r_move rfl (ev_t rfl)) ?_
          refine WL.cons (SO.call (Sync_good hd D1_look) rfl body_17 ⟨(ev_t rfl), ev_c, trivial⟩ rfl rfl rfl rfl ?_)
          rintro v w6 ⟨rfl, hd, hu6⟩
          rw [D1_sync (by omega) (by omega)] at hd ⊢
          have hs6 := hu6.size
          replace hU := hU.trans hu6 (by first | exact (fun _ _ h => h) | exact (fun _ _ h => h.elim) | (intro k hl hk; (try simp only [At, New, Grow, From, No] at hk ⊢); omega))
          replace hp := hp.upd hu6 (by first | exact (fun _ _ _ h => h) | exact (fun k hk _ => notN hk))
          replace hq := hq.upd hu6 (by first | exact (fun _ _ _ h => h) | exact (fun k hk _ => notN hk))
          replace hc := hc.upd hu6 (by first | exact (fun _ _ _ h => h) | exact (fun k hk _ => notN hk))
          replace hd := hd.mono (F' := New w w6) (fun k hk _ => New.grow (by omega) (by omega) hk)
          simp only [List.nil_append] at hd
          refine WL.nil ?_
          refine WX.keep [(0, _), (1, _), (2, _), (3, _), (9, _)] ⟨rfl, rfl, rfl, rfl, rfl, trivial⟩ ?_
          refine WX.next ?_
          refine WC.seq ?_
          refine WC.seq ?_
          -- region 6 law.go:89
          refine WC.region ?_
          refine WL.val rfl rfl rfl rfl (r_move rfl (ev_t rfl)) ?_
          refine WL.nil ?_
          refine WX.keep [(0, _), (1, _), (2, _), (3, _), (9, _), (34, _)] ⟨rfl, rfl, rfl, rfl, rfl, rfl, trivial⟩ ?_
          refine WX.next ?_
          refine WC.cond rfl (ev_t rfl) (fun hc6 => ?_) (fun hc6 => ?_)
          · try (exfalso; first | (simp at hc6; done) | (simp only [decide_eq_true_eq, decide_eq_false_iff_not, Bool.not_eq_true', Bool.not_eq_false', Bool.not_eq_true, Bool.not_eq_false] at hc6; omega) | omega)
            all_goals
              try simp only [decide_eq_true_eq, decide_eq_false_iff_not, Bool.not_eq_true', Bool.not_eq_false', Bool.not_eq_true, Bool.not_eq_false, Option.isNone_none, Option.isNone_some, Option.isSome_none, Option.isSome_some, ne_eq, Decidable.not_not] at hc6
              subst hc6
              obtain ⟨s, hs⟩ : ∃ s, s = fallS ⟨p, q, true⟩ (cuts.getD 0 (-1)) := ⟨_, rfl⟩
              -- region 7 law.go:90
              refine WC.region ?_
              refine WL.val rfl rfl rfl rfl (r_move rfl (ev_t rfl)) ?_
              refine WL.val rfl rfl rfl rfl (r_move rfl (ev_t rfl)) ?_
              refine WL.cons (SO.call (Write_good hd D1_look hq (fun k hk _ => notN hk)) rfl body_18 ⟨(ev_t rfl), ev_c, (ev_t rfl), trivial⟩ rfl rfl rfl rfl ?_)
              rintro v w7 ⟨rfl, hd, hu7⟩
              rw [D1_write (by omega) (by omega) (by omega)] at hd ⊢
              have hs7 := hu7.size
              replace hU := hU.trans hu7 (by first | exact (fun _ _ h => h) | exact (fun _ _ h => h.elim) | (intro k hl hk; (try simp only [At, New, Grow, From, No] at hk ⊢); omega))
              replace hp := hp.upd hu7 (by first | exact (fun _ _ _ h => h) | exact (fun k hk _ => notN hk))
              replace hq := hq.upd hu7 (by first | exact (fun _ _ _ h => h) | exact (fun k hk _ => notN hk))
              replace hc := hc.upd hu7 (by first | exact (fun _ _ _ h => h) | exact (fun k hk _ => notN hk))
              replace hd := hd.mono (F' := New w w7) (fun k hk _ => New.grow (by omega) (by omega) hk)
              refine WL.nil ?_
              refine WX.keep [(0, _), (1, _), (2, _), (3, _), (9, _)] ⟨rfl, rfl, rfl, rfl, rfl, trivial⟩ ?_
              refine WX.next ?_
              refine WC.seq ?_
              -- region 9 law.go:94
              refine WC.region ?_
              refine WL.val rfl rfl rfl rfl (r_move rfl (ev_t rfl)) ?_
              refine WL.val rfl rfl rfl rfl (r_move rfl (ev_t rfl)) ?_
              refine WL.cons (SO.call (Restart_ok hd hc (fun k hk _ => notN hk)) rfl body_19 ⟨(ev_t rfl), (ev_t rfl), trivial⟩ rfl rfl rfl rfl ?_)
              rintro v w8 ⟨rfl, hd, hu8⟩
              rw [D1_restart] at hd
              have hs8 := hu8.size
              replace hU := hU.trans hu8 (by first | exact (fun _ _ h => h) | exact (fun _ _ h => h.elim) | (intro k hl hk; (try simp only [At, New, Grow, From, No] at hk ⊢); omega))
              replace hp := hp.upd hu8 (by first | exact (fun _ _ _ h => h) | exact (fun k hk _ => notN hk))
              replace hq := hq.upd hu8 (by first | exact (fun _ _ _ h => h) | exact (fun k hk _ => notN hk))
              replace hc := hc.upd hu8 (by first | exact (fun _ _ _ h => h) | exact (fun k hk _ => notN hk))
              replace hd := hd.mono (F' := New w w8) (fun k hk _ => New.grow (by omega) (by omega) hk)
              refine WL.nil ?_
              refine WX.keep [(0, _), (1, _), (3, _), (9, _)] ⟨rfl, rfl, rfl, rfl, trivial⟩ ?_
              refine WX.next ?_
              refine WC.seq ?_
              -- region 10 law.go:95
              refine WC.region ?_
              refine WL.val rfl rfl rfl rfl (r_move rfl (ev_t rfl)) ?_
              refine WL.cons (SO.call (Read_good hd D1_look) rfl body_20 ⟨(ev_t rfl), ev_c, trivial⟩ rfl rfl rfl rfl ?_)
              rintro v w9 ⟨v, rfl, ho, hu9⟩
              rw [D1_track] at ho
              have hs9 := hu9.size
              replace hU := hU.trans hu9 (by first | exact (fun _ _ h => h) | exact (fun _ _ h => h.elim) | (intro k hl hk; (try simp only [At, New, Grow, From, No] at hk ⊢); omega))
              replace hp := hp.upd hu9 (by first | exact (fun _ _ _ h => h) | exact (fun k hk _ => notN hk))
              replace hq := hq.upd hu9 (by first | exact (fun _ _ _ h => h) | exact (fun k hk _ => notN hk))
              replace hc := hc.upd hu9 (by first | exact (fun _ _ _ h => h) | exact (fun k hk _ => notN hk))
              rw [← hs] at ho
              obtain ⟨A, c, rfl, hcs⟩ := Own.form ho
              refine WL.val rfl rfl rfl rfl (r_move rfl (ev_t rfl)) ?_
              refine WL.val rfl rfl rfl rfl (r_extract rfl (ev_t rfl) rfl) ?_
              refine WL.val rfl rfl rfl rfl (r_extract rfl (ev_t rfl) rfl) ?_
              refine WL.val rfl rfl rfl rfl (r_assign rfl (ev_t rfl)) ?_
              refine WL.val rfl rfl rfl rfl (r_assign rfl (ev_t rfl)) ?_
              refine WL.nil ?_
              refine WX.keep [(0, _), (1, _), (3, _), (11, _), (12, _)] ⟨rfl, rfl, rfl, rfl, rfl, trivial⟩ ?_
              refine WX.next ?_
              refine WC.seq ?_
              refine WC.seq ?_
              -- region 11 law.go:96
              refine WC.region ?_
              refine WL.val rfl rfl rfl rfl (r_move rfl (ev_t rfl)) ?_
              refine WL.val rfl rfl rfl rfl (r_neq rfl (ev_t rfl) ev_c) ?_
              refine WL.nil ?_
              refine WX.keep [(0, _), (1, _), (3, _), (11, _), (50, _)] ⟨rfl, rfl, rfl, rfl, rfl, trivial⟩ ?_
              refine WX.next ?_
              refine WC.cond rfl (ev_t rfl) (fun hc11 => ?_) (fun hc11 => ?_)
              · try (exfalso; first | (simp at hc11; done) | (simp only [decide_eq_true_eq, decide_eq_false_iff_not, Bool.not_eq_true', Bool.not_eq_false', Bool.not_eq_true, Bool.not_eq_false] at hc11; omega) | omega)
                all_goals
                  try simp only [decide_eq_true_eq, decide_eq_false_iff_not, Bool.not_eq_true', Bool.not_eq_false', Bool.not_eq_true, Bool.not_eq_false, Option.isNone_none, Option.isNone_some, Option.isSome_none, Option.isSome_some, ne_eq, Decidable.not_not] at hc11
                  refine WC.seq ?_
                  -- region 12 law.go:97
                  refine WC.region ?_
                  refine WL.val rfl rfl rfl rfl (r_assign rfl ev_c) ?_
                  refine WL.nil ?_
                  refine WX.keep [(8, _)] ⟨rfl, trivial⟩ ?_
                  refine WX.next ?_
                  refine WC.ret ?_
                  refine WX.thenRet ?_
                  refine WX.retE1 rfl rfl ?_
                  first
                    | exact ⟨rfl, hU⟩
                    | (refine ⟨?_, hU⟩; rw [List.drop_zero, Nat.sub_zero, List.take_of_length_le (by rw [List.length_drop]; omega), hA.2.2.2]; simp; done)
                    | (refine ⟨?_, hU⟩; simp [hW2.2]; done)
              · try (exfalso; first | (simp at hc11; done) | (simp only [decide_eq_true_eq, decide_eq_false_iff_not, Bool.not_eq_true', Bool.not_eq_false', Bool.not_eq_true, Bool.not_eq_false] at hc11; omega) | omega)
                all_goals
                  try simp only [decide_eq_true_eq, decide_eq_false_iff_not, Bool.not_eq_true', Bool.not_eq_false', Bool.not_eq_true, Bool.not_eq_false, Option.isNone_none, Option.isNone_some, Option.isSome_none, Option.isSome_some, ne_eq, Decidable.not_not] at hc11
                  refine WC.skip ?_
                  refine WX.next ?_
                  refine WC.seq ?_
                  have hsl : s.length ≤ 10000 := by
                    have h1 := fallS_len
                    have := (hd.wf.trk _ (List.mem_singleton.2 rfl)).2
                    rw [← hs] at this
                    exact Int.ofNat_le.1 this
                  -- region 13 law.go:99
                  refine WC.region ?_
                  refine WL.val rfl rfl rfl rfl (r_move rfl (ev_t rfl)) ?_
                  refine WL.val rfl rfl rfl rfl (r_toStr rfl (ev_t rfl) (ho.rd (by omega)) elem_22 int_5 str_9) ?_
                  refine WL.val rfl rfl rfl rfl (r_assign rfl (ev_t rfl)) ?_
                  refine WL.nil ?_
                  refine WX.keep [(0, _), (1, _), (3, _), (13, _)] ⟨rfl, rfl, rfl, rfl, trivial⟩ ?_
                  refine WX.next ?_
                  refine WC.seq ?_
                  refine WC.seq ?_
                  -- region 14 law.go:100
                  refine WC.region ?_
                  refine WL.val rfl rfl rfl rfl (r_move rfl (ev_t rfl)) ?_
                  refine WL.nil ?_
                  refine WX.keep [(0, _), (1, _), (13, _), (53, _)] ⟨rfl, rfl, rfl, rfl, trivial⟩ ?_
                  refine WX.next ?_
                  refine WC.cond rfl (ev_t rfl) (fun hc14 => ?_) (fun hc14 => ?_)
                  · try (exfalso; first | (simp at hc14; done) | (simp only [decide_eq_true_eq, decide_eq_false_iff_not, Bool.not_eq_true', Bool.not_eq_false', Bool.not_eq_true, Bool.not_eq_false] at hc14; omega) | omega)
                    all_goals
                      try simp only [decide_eq_true_eq, decide_eq_false_iff_not, Bool.not_eq_true', Bool.not_eq_false', Bool.not_eq_true, Bool.not_eq_false, Option.isNone_none, Option.isNone_some, Option.isSome_none, Option.isSome_some, ne_eq, Decidable.not_not] at hc14
                      refine WC.seq ?_
                      have hW := sureW hs
                      -- region 15 law.go:101
                      refine WC.region ?_
                      refine WL.val rfl rfl rfl rfl (r_move rfl (ev_t rfl)) ?_
                      refine WL.val rfl rfl rfl rfl (r_move rfl (ev_t rfl)) ?_
                      refine WL.val rfl rfl rfl rfl (r_toStr rfl (ev_t rfl) hp elem_22 int_5 str_9) ?_
                      refine WL.val rfl rfl rfl rfl (r_eqlStrL rfl (ev_t rfl) (ev_t rfl)) ?_
                      refine WL.val rfl rfl rfl rfl (r_move rfl (ev_t rfl)) ?_
                      refine WL.cases 58 rfl (fun hb15_4 => ?_) (fun hb15_4 => ?_)
                      · try (exfalso; first | (simp at hb15_4; done) | (simp only [decide_eq_true_eq, decide_eq_false_iff_not, Bool.not_eq_true', Bool.not_eq_false', Bool.not_eq_true, Bool.not_eq_false] at hb15_4; omega) | omega)
                        all_goals
                          try simp only [decide_eq_true_eq, decide_eq_false_iff_not, Bool.not_eq_true', Bool.not_eq_false', Bool.not_eq_true, Bool.not_eq_false, Option.isNone_none, Option.isNone_some, Option.isSome_none, Option.isSome_some, ne_eq, Decidable.not_not] at hb15_4
                          refine WL.skip rfl rfl rfl ?_
                          refine WL.skip rfl rfl rfl ?_
                          refine WL.skip rfl rfl rfl ?_
                          refine WL.skip rfl rfl rfl ?_
                          refine WL.skip rfl rfl rfl ?_
                          refine WL.skip rfl rfl rfl ?_
                          refine WL.skip rfl rfl rfl ?_
                          refine WL.skip rfl rfl rfl ?_
                          refine WL.skip rfl rfl rfl ?_
                          refine WL.skip rfl rfl rfl ?_
                          refine WL.skip rfl rfl rfl ?_
                          refine WL.skip rfl rfl rfl ?_
                          refine WL.skip rfl rfl rfl ?_
                          refine WL.skip rfl rfl rfl ?_
                          refine WL.val rfl rfl rfl rfl (r_pickT rfl (ev_t rfl) ev_c) ?_
                          refine WL.val rfl rfl rfl rfl (r_assign rfl (ev_t rfl)) ?_
                          refine WL.nil ?_
                          refine WX.keep [(8, _)] ⟨rfl, trivial⟩ ?_
                          refine WX.next ?_
                          refine WC.ret ?_
                          refine WX.thenRet ?_
                          refine WX.retE1 rfl rfl ?_
                          first
                            | exact ⟨rfl, hU⟩
                            | (refine ⟨?_, hU⟩; rw [List.drop_zero, Nat.sub_zero, List.take_of_length_le (by rw [List.length_drop]; omega), hA.2.2.2]; simp; done)
                            | (refine ⟨?_, hU⟩; simp [hW2.2]; done)
                      · try (exfalso; first | (simp at hb15_4; done) | (simp only [decide_eq_true_eq, decide_eq_false_iff_not, Bool.not_eq_true', Bool.not_eq_false', Bool.not_eq_true, Bool.not_eq_false] at hb15_4; omega) | omega)
                        all_goals
                          try simp only [decide_eq_true_eq, decide_eq_false_iff_not, Bool.not_eq_true', Bool.not_eq_false', Bool.not_eq_true, Bool.not_eq_false, Option.isNone_none, Option.isNone_some, Option.isSome_none, Option.isSome_some, ne_eq, Decidable.not_not] at hb15_4
                          have hW2 := hW.resolve_left hb15_4
                          refine WL.val rfl rfl rfl rfl (r_move rfl (ev_t rfl)) ?_
                          refine WL.val rfl rfl rfl rfl (r_lenStrL rfl (ev_t rfl) str_9) ?_
                          refine WL.val rfl rfl rfl rfl (r_move rfl (ev_t rfl)) ?_
                          refine WL.val rfl rfl rfl rfl (r_lenSlice (ts := #[]) rfl (ev_t rfl) elem_22) ?_
                          refine WL.val rfl rfl rfl rfl (r_leq rfl (ev_t rfl) (ev_t rfl)) ?_
                          refine WL.val rfl rfl rfl rfl (r_move rfl (ev_t rfl)) ?_
                          refine WL.cases 64 rfl (fun hb15_10 => ?_) (fun hb15_10 => ?_)
                          · try (exfalso; first | (simp at hb15_10; done) | (simp only [decide_eq_true_eq, decide_eq_false_iff_not, Bool.not_eq_true', Bool.not_eq_false', Bool.not_eq_true, Bool.not_eq_false] at hb15_10; omega) | omega)
                            all_goals
                              try simp only [decide_eq_true_eq, decide_eq_false_iff_not, Bool.not_eq_true', Bool.not_eq_false', Bool.not_eq_true, Bool.not_eq_false, Option.isNone_none, Option.isNone_some, Option.isSome_none, Option.isSome_some, ne_eq, Decidable.not_not] at hb15_10
                              refine WL.val rfl rfl rfl rfl (r_move rfl (ev_t rfl)) ?_
                              refine WL.val rfl rfl rfl rfl (r_move rfl (ev_t rfl)) ?_
                              refine WL.val rfl rfl rfl rfl (r_move rfl (ev_t rfl)) ?_
                              refine WL.val rfl rfl rfl rfl (r_lenStrL rfl (ev_t rfl) str_9) ?_
                              refine WL.val rfl rfl rfl rfl (r_slice (l := 0) (h := s.length) rfl (ev_t rfl) elem_22 size_5 bnd_none (bnd_some (ev_t rfl) (by omega)) (by omega) (by omega) (by omega)) ?_
                              refine WL.val rfl rfl rfl rfl (r_toStr rfl (ev_t rfl) (hq.sliceB (lo := 0) (h := s.length) (by omega) (by omega)) elem_22 int_5 str_9) ?_
                              refine WL.val rfl rfl rfl rfl (r_eqlStrL rfl (ev_t rfl) (ev_t rfl)) ?_
                              refine WL.val rfl rfl rfl rfl (r_pickT rfl (ev_t rfl) (ev_t rfl)) ?_
                              refine WL.val rfl rfl rfl rfl (r_pickF rfl (ev_t rfl) (ev_t rfl)) ?_
                              refine WL.val rfl rfl rfl rfl (r_assign rfl (ev_t rfl)) ?_
                              refine WL.nil ?_
                              refine WX.keep [(8, _)] ⟨rfl, trivial⟩ ?_
                              refine WX.next ?_
                              refine WC.ret ?_
                              refine WX.thenRet ?_
                              refine WX.retE1 rfl rfl ?_
                              first
                                | exact ⟨rfl, hU⟩
                                | (refine ⟨?_, hU⟩; rw [List.drop_zero, Nat.sub_zero, List.take_of_length_le (by rw [List.length_drop]; omega), hA.2.2.2]; simp; done)
                                | (refine ⟨?_, hU⟩; simp [hW2.2]; done)
                          · try simp only [decide_eq_true_eq, decide_eq_false_iff_not, Bool.not_eq_true', Bool.not_eq_false', Bool.not_eq_true, Bool.not_eq_false, Option.isNone_none, Option.isNone_some, Option.isSome_none, Option.isSome_some, ne_eq, Decidable.not_not] at hb15_10
                            exfalso
                            omega
                  · try (exfalso; first | (simp at hc14; done) | (simp only [decide_eq_true_eq, decide_eq_false_iff_not, Bool.not_eq_true', Bool.not_eq_false', Bool.not_eq_true, Bool.not_eq_false] at hc14; omega) | omega)
                    all_goals
                      try simp only [decide_eq_true_eq, decide_eq_false_iff_not, Bool.not_eq_true', Bool.not_eq_false', Bool.not_eq_true, Bool.not_eq_false, Option.isNone_none, Option.isNone_some, Option.isSome_none, Option.isSome_some, ne_eq, Decidable.not_not] at hc14
                      refine WC.skip ?_
                      refine WX.next ?_
                      refine WC.seq ?_
                      have hA := sureA hs
                      -- region 16 law.go:103 DRAWS
                      refine WC.draws' (fun u0_ u1_ => Upd No u0_ u1_) (fun j => [0, 0, 0, 0, 0, 0, 0, 0, 0, 0, 0, 2, 0, 0, 0, 0, 0, 0, 0, 0, 0, 0, 0, 0, 0, 0, 0, 0, 0, 0, 0, 0, 0, 0, 0, 0, 2, 0, 0, 0].getD j 0) (.calm 0 (.calm 1 (.calm 2 (.calm 3 (.calm 4 (.calm 5 (.calm 6 (.calm 7 (.calm 8 (.calm 9 (.calm 10 (.one 11 (.calm 12 (.calm 13 (.calm 14 (.calm 15 (.calm 16 (.calm 17 (.calm 18 (.calm 19 (.calm 20 (.calm 21 (.calm 22 (.calm 23 (.calm 24 (.calm 25 (.calm 26 (.calm 27 (.calm 28 (.calm 29 (.calm 30 (.calm 31 (.calm 32 (.calm 33 (.calm 34 (.calm 35 (.one 36 (.calm 37 (.calm 38 (.calm 39 (.done))))))))))))))))))))))))))))))))))))))))) mixed (by kernel_rfl) (by repeat (first | with_reducible exact Deaf.body | with_reducible apply Deaf.then | with_reducible apply Deaf.block)) ?_
                      intro w10 hu10
                      have hz10 := congrArg Array.size hu10.2.2.2
                      replace hu10 := Upd.of_draw hu10
                      have hs10 := hu10.size
                      replace hU := hU.trans hu10 (by first | exact (fun _ _ h => h) | exact (fun _ _ h => h.elim) | (intro k hl hk; (try simp only [At, New, Grow, From, No] at hk ⊢); omega))
                      replace hp := hp.upd hu10 (by first | exact (fun _ _ _ h => h) | exact (fun k hk _ => notN hk))
                      replace hq := hq.upd hu10 (by first | exact (fun _ _ _ h => h) | exact (fun k hk _ => notN hk))
                      replace hc := hc.upd hu10 (by first | exact (fun _ _ _ h => h) | exact (fun k hk _ => notN hk))
                      refine WN.calm _ rfl rfl rfl rfl rfl (fun _ => r_move rfl (ev_t rfl)) ?_
                      refine WN.calm _ rfl rfl rfl rfl rfl (fun _ => r_lenStrL rfl (ev_t rfl) str_9) ?_
                      refine WN.calm _ rfl rfl rfl rfl rfl (fun _ => r_move rfl (ev_t rfl)) ?_
                      refine WN.calm _ rfl rfl rfl rfl rfl (fun _ => r_lenSlice (ts := #[]) rfl (ev_t rfl) elem_22) ?_
                      refine WN.calm _ rfl rfl rfl rfl rfl (fun _ => r_geq rfl (ev_t rfl) (ev_t rfl)) ?_
                      refine WN.calm _ rfl rfl rfl rfl rfl (fun _ => r_move rfl (ev_t rfl)) ?_
                      refine WN.cases 79 rfl (fun hb16_5 => ?_) (fun hb16_5 => ?_)
                      · try (exfalso; first | (simp at hb16_5; done) | (simp only [decide_eq_true_eq, decide_eq_false_iff_not, Bool.not_eq_true', Bool.not_eq_false', Bool.not_eq_true, Bool.not_eq_false] at hb16_5; omega) | omega)
                        all_goals
                          try simp only [decide_eq_true_eq, decide_eq_false_iff_not, Bool.not_eq_true', Bool.not_eq_false', Bool.not_eq_true, Bool.not_eq_false, Option.isNone_none, Option.isNone_some, Option.isSome_none, Option.isSome_some, ne_eq, Decidable.not_not] at hb16_5
                          refine WN.calm _ rfl rfl rfl rfl rfl (fun _ => r_move rfl (ev_t rfl)) ?_
                          refine WN.calm _ rfl rfl rfl rfl rfl (fun _ => r_move rfl (ev_t rfl)) ?_
                          refine WN.calm _ rfl rfl rfl rfl rfl (fun _ => r_lenSlice (ts := #[]) rfl (ev_t rfl) elem_22) ?_
                          refine WN.calm _ rfl rfl rfl rfl rfl (fun _ => r_sliceStr (l := 0) (h := p.length) rfl (ev_t rfl) str_9 bnd_none (bnd_some (ev_t rfl) (by omega)) (by omega) (by omega)) ?_
                          refine WN.calm _ rfl rfl rfl rfl rfl (fun _ => r_move rfl (ev_t rfl)) ?_
                          refine WN.step _ rfl (SO.val rfl rfl rfl rfl (r_toStr rfl (ev_t rfl) hp elem_22 int_5 str_9) ?_)
                          refine ⟨trivial, ?_⟩
                          refine WN.calm _ rfl rfl rfl rfl rfl (fun _ => r_eqlStrL rfl (ev_t rfl) (ev_t rfl)) ?_
                          refine WN.calm _ rfl rfl rfl rfl rfl (fun _ => r_pickT rfl (ev_t rfl) (ev_t rfl)) ?_
                          refine WN.calm _ rfl rfl rfl rfl rfl (fun _ => r_move rfl (ev_t rfl)) ?_
                          refine WN.cases 88 rfl (fun hb16_14 => ?_) (fun hb16_14 => ?_)
                          · try (exfalso; first | (simp at hb16_14; done) | (simp only [decide_eq_true_eq, decide_eq_false_iff_not, Bool.not_eq_true', Bool.not_eq_false', Bool.not_eq_true, Bool.not_eq_false] at hb16_14; omega) | omega)
                            all_goals
                              try simp only [decide_eq_true_eq, decide_eq_false_iff_not, Bool.not_eq_true', Bool.not_eq_false', Bool.not_eq_true, Bool.not_eq_false, Option.isNone_none, Option.isNone_some, Option.isSome_none, Option.isSome_some, ne_eq, Decidable.not_not] at hb16_14
                              refine WN.calm _ rfl rfl rfl rfl rfl (fun _ => r_move rfl (ev_t rfl)) ?_
                              refine WN.calm _ rfl rfl rfl rfl rfl (fun _ => r_lenStrL rfl (ev_t rfl) str_9) ?_
                              refine WN.calm _ rfl rfl rfl rfl rfl (fun _ => r_move rfl (ev_t rfl)) ?_
                              refine WN.calm _ rfl rfl rfl rfl rfl (fun _ => r_lenSlice (ts := #[]) rfl (ev_t rfl) elem_22) ?_
                              refine WN.calm _ rfl rfl rfl rfl rfl (fun _ => r_move rfl (ev_t rfl)) ?_
                              refine WN.calm _ rfl rfl rfl rfl rfl (fun _ => r_lenSlice (ts := #[]) rfl (ev_t rfl) elem_22) ?_
                              first | refine WN.calm _ rfl rfl rfl rfl rfl (fun _ => r_addN rfl (ev_t rfl) (ev_t rfl) (by simp only [inK]; omega)) ?_ | refine WN.calm _ rfl rfl rfl rfl rfl (fun _ => r_add rfl (ev_t rfl) (ev_t rfl)) ?_
                              refine WN.calm _ rfl rfl rfl rfl rfl (fun _ => r_leq rfl (ev_t rfl) (ev_t rfl)) ?_
                              refine WN.calm _ rfl rfl rfl rfl rfl (fun _ => r_pickT rfl (ev_t rfl) (ev_t rfl)) ?_
                              refine WN.calm _ rfl rfl rfl rfl rfl (fun _ => r_move rfl (ev_t rfl)) ?_
                              refine WN.cases 98 rfl (fun hb16_24 => ?_) (fun hb16_24 => ?_)
                              · try (exfalso; first | (simp at hb16_24; done) | (simp only [decide_eq_true_eq, decide_eq_false_iff_not, Bool.not_eq_true', Bool.not_eq_false', Bool.not_eq_true, Bool.not_eq_false] at hb16_24; omega) | omega)
                                all_goals
                                  try simp only [decide_eq_true_eq, decide_eq_false_iff_not, Bool.not_eq_true', Bool.not_eq_false', Bool.not_eq_true, Bool.not_eq_false, Option.isNone_none, Option.isNone_some, Option.isSome_none, Option.isSome_some, ne_eq, Decidable.not_not] at hb16_24
                                  refine WN.calm _ rfl rfl rfl rfl rfl (fun _ => r_move rfl (ev_t rfl)) ?_
                                  refine WN.calm _ rfl rfl rfl rfl rfl (fun _ => r_move rfl (ev_t rfl)) ?_
                                  refine WN.calm _ rfl rfl rfl rfl rfl (fun _ => r_lenSlice (ts := #[]) rfl (ev_t rfl) elem_22) ?_
                                  refine WN.calm _ rfl rfl rfl rfl rfl (fun _ => r_sliceStr (l := p.length) (h := s.length) rfl (ev_t rfl) str_9 (bnd_some (ev_t rfl) (by omega)) bnd_none (by omega) (by omega)) ?_
                                  refine WN.calm _ rfl rfl rfl rfl rfl (fun _ => r_move rfl (ev_t rfl)) ?_
                                  refine WN.calm _ rfl rfl rfl rfl rfl (fun _ => r_move rfl (ev_t rfl)) ?_
                                  refine WN.calm _ rfl rfl rfl rfl rfl (fun _ => r_lenStrL rfl (ev_t rfl) str_9) ?_
                                  refine WN.calm _ rfl rfl rfl rfl rfl (fun _ => r_move rfl (ev_t rfl)) ?_
                                  refine WN.calm _ rfl rfl rfl rfl rfl (fun _ => r_lenSlice (ts := #[]) rfl (ev_t rfl) elem_22) ?_
                                  first | refine WN.calm _ rfl rfl rfl rfl rfl (fun _ => r_subN rfl (ev_t rfl) (ev_t rfl) (by simp only [inK]; omega)) ?_ | refine WN.calm _ rfl rfl rfl rfl rfl (fun _ => r_sub rfl (ev_t rfl) (ev_t rfl)) ?_
                                  refine WN.calm _ rfl rfl rfl rfl rfl (fun _ => r_slice (l := 0) (h := s.length - p.length) rfl (ev_t rfl) elem_22 size_5 bnd_none (bnd_some (ev_t rfl) (by omega)) (by omega) (by omega) (by omega)) ?_
                                  refine WN.step _ rfl (SO.val rfl rfl rfl rfl (r_toStr rfl (ev_t rfl) (hq.sliceB (lo := 0) (h := s.length - p.length) (by omega) (by omega)) elem_22 int_5 str_9) ?_)
                                  refine ⟨trivial, ?_⟩
                                  refine WN.calm _ rfl rfl rfl rfl rfl (fun _ => r_eqlStrL rfl (ev_t rfl) (ev_t rfl)) ?_
                                  refine WN.calm _ rfl rfl rfl rfl rfl (fun _ => r_pickT rfl (ev_t rfl) (ev_t rfl)) ?_
                                  refine WN.calm _ rfl rfl rfl rfl rfl (fun _ => r_assign rfl (ev_t rfl)) ?_
                                  refine WN.done ?_
                                  refine WX.keep [(8, _)] ⟨rfl, trivial⟩ ?_
                                  refine WX.next ?_
                                  refine WC.ret ?_
                                  refine WX.retE1 rfl rfl ?_
                                  first
                                    | exact ⟨rfl, hU⟩
                                    | (refine ⟨?_, hU⟩; rw [List.drop_zero, Nat.sub_zero, List.take_of_length_le (by rw [List.length_drop]; omega), hA.2.2.2]; simp; done)
                                    | (refine ⟨?_, hU⟩; simp [hW2.2]; done)
                              · try (exfalso; first | (simp at hb16_24; done) | (simp only [decide_eq_true_eq, decide_eq_false_iff_not, Bool.not_eq_true', Bool.not_eq_false', Bool.not_eq_true, Bool.not_eq_false] at hb16_24; omega) | omega)
                                all_goals
                                  try simp only [decide_eq_true_eq, decide_eq_false_iff_not, Bool.not_eq_true', Bool.not_eq_false', Bool.not_eq_true, Bool.not_eq_false, Option.isNone_none, Option.isNone_some, Option.isSome_none, Option.isSome_some, ne_eq, Decidable.not_not] at hb16_24
                                  refine WN.skip _ rfl rfl rfl rfl ?_
                                  refine WN.skip _ rfl rfl rfl rfl ?_
                                  refine WN.skip _ rfl rfl rfl rfl ?_
                                  refine WN.skip _ rfl rfl rfl rfl ?_
                                  refine WN.skip _ rfl rfl rfl rfl ?_
                                  refine WN.skip _ rfl rfl rfl rfl ?_
                                  refine WN.skip _ rfl rfl rfl rfl ?_
                                  refine WN.skip _ rfl rfl rfl rfl ?_
                                  refine WN.skip _ rfl rfl rfl rfl ?_
                                  refine WN.skip _ rfl rfl rfl rfl ?_
                                  refine WN.skip _ rfl rfl rfl rfl ?_
                                  refine WN.step _ rfl (SO.skip rfl rfl rfl ?_)
                                  refine ⟨trivial, ?_⟩
                                  refine WN.skip _ rfl rfl rfl rfl ?_
                                  refine WN.calm _ rfl rfl rfl rfl rfl (fun _ => r_pickF rfl (ev_t rfl) ev_c) ?_
                                  refine WN.calm _ rfl rfl rfl rfl rfl (fun _ => r_assign rfl (ev_t rfl)) ?_
                                  refine WN.done ?_
                                  refine WX.keep [(8, _)] ⟨rfl, trivial⟩ ?_
                                  refine WX.next ?_
                                  refine WC.ret ?_
                                  refine WX.retE1 rfl rfl ?_
                                  first
                                    | exact ⟨rfl, hU⟩
                                    | (refine ⟨?_, hU⟩; rw [List.drop_zero, Nat.sub_zero, List.take_of_length_le (by rw [List.length_drop]; omega), hA.2.2.2]; simp; done)
                                    | (refine ⟨?_, hU⟩; simp [hW2.2]; done)
                          · try simp only [decide_eq_true_eq, decide_eq_false_iff_not, Bool.not_eq_true', Bool.not_eq_false', Bool.not_eq_true, Bool.not_eq_false, Option.isNone_none, Option.isNone_some, Option.isSome_none, Option.isSome_some, ne_eq, Decidable.not_not] at hb16_14
                            exfalso
                            rw [List.drop_zero, Nat.sub_zero] at hb16_14; exact hb16_14 hA.2.1
                      · try (exfalso; first | (simp at hb16_5; done) | (simp only [decide_eq_true_eq, decide_eq_false_iff_not, Bool.not_eq_true', Bool.not_eq_false', Bool.not_eq_true, Bool.not_eq_false] at hb16_5; omega) | omega)
                        all_goals
                          try simp only [decide_eq_true_eq, decide_eq_false_iff_not, Bool.not_eq_true', Bool.not_eq_false', Bool.not_eq_true, Bool.not_eq_false, Option.isNone_none, Option.isNone_some, Option.isSome_none, Option.isSome_some, ne_eq, Decidable.not_not] at hb16_5
                          refine WN.skip _ rfl rfl rfl rfl ?_
                          refine WN.skip _ rfl rfl rfl rfl ?_
                          refine WN.skip _ rfl rfl rfl rfl ?_
                          refine WN.skip _ rfl rfl rfl rfl ?_
                          refine WN.skip _ rfl rfl rfl rfl ?_
                          refine WN.step _ rfl (SO.skip rfl rfl rfl ?_)
                          refine ⟨trivial, ?_⟩
                          refine WN.skip _ rfl rfl rfl rfl ?_
                          refine WN.calm _ rfl rfl rfl rfl rfl (fun _ => r_pickF rfl (ev_t rfl) ev_c) ?_
                          refine WN.calm _ rfl rfl rfl rfl rfl (fun _ => r_move rfl (ev_t rfl)) ?_
                          refine WN.skip _ rfl rfl rfl rfl ?_
                          refine WN.skip _ rfl rfl rfl rfl ?_
                          refine WN.skip _ rfl rfl rfl rfl ?_
                          refine WN.skip _ rfl rfl rfl rfl ?_
                          refine WN.skip _ rfl rfl rfl rfl ?_
                          refine WN.skip _ rfl rfl rfl rfl ?_
                          refine WN.skip _ rfl rfl rfl rfl ?_
                          refine WN.skip _ rfl rfl rfl rfl ?_
                          refine WN.calm _ rfl rfl rfl rfl rfl (fun _ => r_pickF rfl (ev_t rfl) ev_c) ?_
                          refine WN.calm _ rfl rfl rfl rfl rfl (fun _ => r_move rfl (ev_t rfl)) ?_
                          refine WN.skip _ rfl rfl rfl rfl ?_
                          refine WN.skip _ rfl rfl rfl rfl ?_
                          refine WN.skip _ rfl rfl rfl rfl ?_
                          refine WN.skip _ rfl rfl rfl rfl ?_
                          refine WN.skip _ rfl rfl rfl rfl ?_
                          refine WN.skip _ rfl rfl rfl rfl ?_
                          refine WN.skip _ rfl rfl rfl rfl ?_
                          refine WN.skip _ rfl rfl rfl rfl ?_
                          refine WN.skip _ rfl rfl rfl rfl ?_
                          refine WN.skip _ rfl rfl rfl rfl ?_
                          refine WN.skip _ rfl rfl rfl rfl ?_
                          refine WN.step _ rfl (SO.skip rfl rfl rfl ?_)
                          refine ⟨trivial, ?_⟩
                          refine WN.skip _ rfl rfl rfl rfl ?_
                          refine WN.calm _ rfl rfl rfl rfl rfl (fun _ => r_pickF rfl (ev_t rfl) ev_c) ?_
                          refine WN.calm _ rfl rfl rfl rfl rfl (fun _ => r_assign rfl (ev_t rfl)) ?_
                          refine WN.done ?_
                          refine WX.keep [(8, _)] ⟨rfl, trivial⟩ ?_
                          refine WX.next ?_
                          refine WC.ret ?_
                          refine WX.retE1 rfl rfl ?_
                          first
                            | exact ⟨rfl, hU⟩
                            | (refine ⟨?_, hU⟩; rw [List.drop_zero, Nat.sub_zero, List.take_of_length_le (by rw [List.length_drop]; omega), hA.2.2.2]; simp; done)
                            | (refine ⟨?_, hU⟩; simp [hW2.2]; done)
          · try (exfalso; first | (simp at hc6; done) | (simp only [decide_eq_true_eq, decide_eq_false_iff_not, Bool.not_eq_true', Bool.not_eq_false', Bool.not_eq_true, Bool.not_eq_false] at hc6; omega) | omega)
            all_goals
              try simp only [decide_eq_true_eq, decide_eq_false_iff_not, Bool.not_eq_true', Bool.not_eq_false', Bool.not_eq_true, Bool.not_eq_false, Option.isNone_none, Option.isNone_some, Option.isSome_none, Option.isSome_some, ne_eq, Decidable.not_not] at hc6
              subst hc6
              obtain ⟨s, hs⟩ : ∃ s, s = fallS ⟨p, p ++ q, false⟩ (cuts.getD 0 (-1)) := ⟨_, rfl⟩
              -- region 8 law.go:92
              refine WC.region ?_
              refine WL.val rfl rfl rfl rfl (r_move rfl (ev_t rfl)) ?_
              refine WL.val rfl rfl rfl rfl (r_move rfl (ev_t rfl)) ?_
              refine WL.cons (SO.call (Append_good hd D1_look hq (fun k hk _ => notN hk)) rfl body_16 ⟨(ev_t rfl), ev_c, (ev_t rfl), trivial⟩ rfl rfl rfl rfl ?_)
              rintro v w11 ⟨rfl, hd, hu11⟩
              rw [D1_append (by omega) (by omega) (by omega)] at hd ⊢
              have hs11 := hu11.size
              replace hU := hU.trans hu11 (by first | exact (fun _ _ h => h) | exact (fun _ _ h => h.elim) | (intro k hl hk; (try simp only [At, New, Grow, From, No] at hk ⊢); omega))
              replace hp := hp.upd hu11 (by first | exact (fun _ _ _ h => h) | exact (fun k hk _ => notN hk))
              replace hq := hq.upd hu11 (by first | exact (fun _ _ _ h => h) | exact (fun k hk _ => notN hk))
              replace hc := hc.upd hu11 (by first | exact (fun _ _ _ h => h) | exact (fun k hk _ => notN hk))
              replace hd := hd.mono (F' := New w w11) (fun k hk _ => New.grow (by omega) (by omega) hk)
              refine WL.nil ?_
              refine WX.keep [(0, _), (1, _), (2, _), (3, _), (9, _)] ⟨rfl, rfl, rfl, rfl, rfl, trivial⟩ ?_
              refine WX.next ?_
              refine WC.seq ?_
              -- region 9 law.go:94
              refine WC.region ?_
              refine WL.val rfl rfl rfl rfl (r_move rfl (ev_t rfl)) ?_
              refine WL.val rfl rfl rfl rfl (r_move rfl (ev_t rfl)) ?_
              refine WL.cons (SO.call (Restart_ok hd hc (fun k hk _ => notN hk)) rfl body_19 ⟨(ev_t rfl), (ev_t rfl), trivial⟩ rfl rfl rfl rfl ?_)
              rintro v w12 ⟨rfl, hd, hu12⟩
              rw [D1_restart] at hd
              have hs12 := hu12.size
              replace hU := hU.trans hu12 (by first | exact (fun _ _ h => h) | exact (fun _ _ h => h.elim) | (intro k hl hk; (try simp only [At, New, Grow, From, No] at hk ⊢); omega))
              replace hp := hp.upd hu12 (by first | exact (fun _ _ _ h => h) | exact (fun k hk _ => notN hk))
              replace hq := hq.upd hu12 (by first | exact (fun _ _ _ h => h) | exact (fun k hk _ => notN hk))
              replace hc := hc.upd hu12 (by first | exact (fun _ _ _ h => h) | exact (fun k hk _ => notN hk))
              replace hd := hd.mono (F' := New w w12) (fun k hk _ => New.grow (by omega) (by omega) hk)
              refine WL.nil ?_
              refine WX.keep [(0, _), (1, _), (3, _), (9, _)] ⟨rfl, rfl, rfl, rfl, trivial⟩ ?_
              refine WX.next ?_
              refine WC.seq ?_
              -- region 10 law.go:95
              refine WC.region ?_
              refine WL.val rfl rfl rfl rfl (r_move rfl (ev_t rfl)) ?_
              refine WL.cons (SO.call (Read_good hd D1_look) rfl body_20 ⟨(ev_t rfl), ev_c, trivial⟩ rfl rfl rfl rfl ?_)
              rintro v w13 ⟨v, rfl, ho, hu13⟩
              rw [D1_track] at ho
              have hs13 := hu13.size
              replace hU := hU.trans hu13 (by first | exact (fun _ _ h => h) | exact (fun _ _ h => h.elim) | (intro k hl hk; (try simp only [At, New, Grow, From, No] at hk ⊢); omega))
              replace hp := hp.upd hu13 (by first | exact (fun _ _ _ h => h) | exact (fun k hk _ => notN hk))
              replace hq := hq.upd hu13 (by first | exact (fun _ _ _ h => h) | exact (fun k hk _ => notN hk))
              replace hc := hc.upd hu13 (by first | exact (fun _ _ _ h => h) | exact (fun k hk _ => notN hk))
              rw [← hs] at ho
              obtain ⟨A, c, rfl, hcs⟩ := Own.form ho
              refine WL.val rfl rfl rfl rfl (r_move rfl (ev_t rfl)) ?_
              refine WL.val rfl rfl rfl rfl (r_extract rfl (ev_t rfl) rfl) ?_
              refine WL.val rfl rfl rfl rfl (r_extract rfl (ev_t rfl) rfl) ?_
              refine WL.val rfl rfl rfl rfl (r_assign rfl (ev_t rfl)) ?_
              refine WL.val rfl rfl rfl rfl (r_assign rfl (ev_t rfl)) ?_
              refine WL.nil ?_
              refine WX.keep [(0, _), (1, _), (3, _), (11, _), (12, _)] ⟨rfl, rfl, rfl, rfl, rfl, trivial⟩ ?_
              refine WX.next ?_
              refine WC.seq ?_
              refine WC.seq ?_
              -- region 11 law.go:96
              refine WC.region ?_
              refine WL.val rfl rfl rfl rfl (r_move rfl (ev_t rfl)) ?_
              refine WL.val rfl rfl rfl rfl (r_neq rfl (ev_t rfl) ev_c) ?_
              refine WL.nil ?_
              refine WX.keep [(0, _), (1, _), (3, _), (11, _), (50, _)] ⟨rfl, rfl, rfl, rfl, rfl, trivial⟩ ?_
              refine WX.next ?_
              refine WC.cond rfl (ev_t rfl) (fun hc11 => ?_) (fun hc11 => ?_)
              · try (exfalso; first | (simp at hc11; done) | (simp only [decide_eq_true_eq, decide_eq_false_iff_not, Bool.not_eq_true', Bool.not_eq_false', Bool.not_eq_true, Bool.not_eq_false] at hc11; omega) | omega)
                all_goals
                  try simp only [decide_eq_true_eq, decide_eq_false_iff_not, Bool.not_eq_true', Bool.not_eq_false', Bool.not_eq_true, Bool.not_eq_false, Option.isNone_none, Option.isNone_some, Option.isSome_none, Option.isSome_some, ne_eq, Decidable.not_not] at hc11
                  refine WC.seq ?_
                  -- region 12 law.go:97
                  refine WC.region ?_
                  refine WL.val rfl rfl rfl rfl (r_assign rfl ev_c) ?_
                  refine WL.nil ?_
                  refine WX.keep [(8, _)] ⟨rfl, trivial⟩ ?_
                  refine WX.next ?_
                  refine WC.ret ?_
                  refine WX.thenRet ?_
                  refine WX.retE1 rfl rfl ?_
                  first
                    | exact ⟨rfl, hU⟩
                    | (refine ⟨?_, hU⟩; rw [List.drop_zero, Nat.sub_zero, List.take_of_length_le (by rw [List.length_drop]; omega), hA.2.2.2]; simp; done)
                    | (refine ⟨?_, hU⟩; simp [hW2.2]; done)
              · try (exfalso; first | (simp at hc11; done) | (simp only [decide_eq_true_eq, decide_eq_false_iff_not, Bool.not_eq_true', Bool.not_eq_false', Bool.not_eq_true, Bool.not_eq_false] at hc11; omega) | omega)
                all_goals
                  try simp only [decide_eq_true_eq, decide_eq_false_iff_not, Bool.not_eq_true', Bool.not_eq_false', Bool.not_eq_true, Bool.not_eq_false, Option.isNone_none, Option.isNone_some, Option.isSome_none, Option.isSome_some, ne_eq, Decidable.not_not] at hc11
                  refine WC.skip ?_
                  refine WX.next ?_
                  refine WC.seq ?_
                  have hsl : s.length ≤ 10000 := by
                    have h1 := fallS_len
                    have := (hd.wf.trk _ (List.mem_singleton.2 rfl)).2
                    rw [← hs] at this
                    exact Int.ofNat_le.1 this
                  -- region 13 law.go:99
                  refine WC.region ?_
                  refine WL.val rfl rfl rfl rfl (r_move rfl (ev_t rfl)) ?_
                  refine WL.val rfl rfl rfl rfl (r_toStr rfl (ev_t rfl) (ho.rd (by omega)) elem_22 int_5 str_9) ?_
                  refine WL.val rfl rfl rfl rfl (r_assign rfl (ev_t rfl)) ?_
                  refine WL.nil ?_
                  refine WX.keep [(0, _), (1, _), (3, _), (13, _)] ⟨rfl, rfl, rfl, rfl, trivial⟩ ?_
                  refine WX.next ?_
                  refine WC.seq ?_
                  refine WC.seq ?_
                  -- region 14 law.go:100
                  refine WC.region ?_
                  refine WL.val rfl rfl rfl rfl (r_move rfl (ev_t rfl)) ?_
                  refine WL.nil ?_
                  refine WX.keep [(0, _), (1, _), (13, _), (53, _)] ⟨rfl, rfl, rfl, rfl, trivial⟩ ?_
                  refine WX.next ?_
                  refine WC.cond rfl (ev_t rfl) (fun hc14 => ?_) (fun hc14 => ?_)
                  · try (exfalso; first | (simp at hc14; done) | (simp only [decide_eq_true_eq, decide_eq_false_iff_not, Bool.not_eq_true', Bool.not_eq_false', Bool.not_eq_true, Bool.not_eq_false] at hc14; omega) | omega)
                    all_goals
                      try simp only [decide_eq_true_eq, decide_eq_false_iff_not, Bool.not_eq_true', Bool.not_eq_false', Bool.not_eq_true, Bool.not_eq_false, Option.isNone_none, Option.isNone_some, Option.isSome_none, Option.isSome_some, ne_eq, Decidable.not_not] at hc14
                      refine WC.seq ?_
                      have hW := sureW hs
                      -- region 15 law.go:101
                      refine WC.region ?_
                      refine WL.val rfl rfl rfl rfl (r_move rfl (ev_t rfl)) ?_
                      refine WL.val rfl rfl rfl rfl (r_move rfl (ev_t rfl)) ?_
                      refine WL.val rfl rfl rfl rfl (r_toStr rfl (ev_t rfl) hp elem_22 int_5 str_9) ?_
                      refine WL.val rfl rfl rfl rfl (r_eqlStrL rfl (ev_t rfl) (ev_t rfl)) ?_
                      refine WL.val rfl rfl rfl rfl (r_move rfl (ev_t rfl)) ?_
                      refine WL.cases 58 rfl (fun hb15_4 => ?_) (fun hb15_4 => ?_)
                      · try (exfalso; first | (simp at hb15_4; done) | (simp only [decide_eq_true_eq, decide_eq_false_iff_not, Bool.not_eq_true', Bool.not_eq_false', Bool.not_eq_true, Bool.not_eq_false] at hb15_4; omega) | omega)
                        all_goals
                          try simp only [decide_eq_true_eq, decide_eq_false_iff_not, Bool.not_eq_true', Bool.not_eq_false', Bool.not_eq_true, Bool.not_eq_false, Option.isNone_none, Option.isNone_some, Option.isSome_none, Option.isSome_some, ne_eq, Decidable.not_not] at hb15_4
                          refine WL.skip rfl rfl rfl ?_
                          refine WL.skip rfl rfl rfl ?_
                          refine WL.skip rfl rfl rfl ?_
                          refine WL.skip rfl rfl rfl ?_
                          refine WL.skip rfl rfl rfl ?_
                          refine WL.skip rfl rfl rfl ?_
                          refine WL.skip rfl rfl rfl ?_
                          refine WL.skip rfl rfl rfl ?_
                          refine WL.skip rfl rfl rfl ?_
                          refine WL.skip rfl rfl rfl ?_
                          refine WL.skip rfl rfl rfl ?_
                          refine WL.skip rfl rfl rfl ?_
                          refine WL.skip rfl rfl rfl ?_
                          refine WL.skip rfl rfl rfl ?_
                          refine WL.val rfl rfl rfl rfl (r_pickT rfl (ev_t rfl) ev_c) ?_
                          refine WL.val rfl rfl rfl rfl (r_assign rfl (ev_t rfl)) ?_
                          refine WL.nil ?_
                          refine WX.keep [(8, _)] ⟨rfl, trivial⟩ ?_
                          refine WX.next ?_
                          refine WC.ret ?_
                          refine WX.thenRet ?_
                          refine WX.retE1 rfl rfl ?_
                          first
                            | exact ⟨rfl, hU⟩
                            | (refine ⟨?_, hU⟩; rw [List.drop_zero, Nat.sub_zero, List.take_of_length_le (by rw [List.length_drop]; omega), hA.2.2.2]; simp; done)
                            | (refine ⟨?_, hU⟩; simp [hW2.2]; done)
                      · try (exfalso; first | (simp at hb15_4; done) | (simp only [decide_eq_true_eq, decide_eq_false_iff_not, Bool.not_eq_true', Bool.not_eq_false', Bool.not_eq_true, Bool.not_eq_false] at hb15_4; omega) | omega)
                        all_goals
                          try simp only [decide_eq_true_eq, decide_eq_false_iff_not, Bool.not_eq_true', Bool.not_eq_false', Bool.not_eq_true, Bool.not_eq_false, Option.isNone_none, Option.isNone_some, Option.isSome_none, Option.isSome_some, ne_eq, Decidable.not_not] at hb15_4
                          have hW2 := hW.resolve_left hb15_4
                          refine WL.val rfl rfl rfl rfl (r_move rfl (ev_t rfl)) ?_
                          refine WL.val rfl rfl rfl rfl (r_lenStrL rfl (ev_t rfl) str_9) ?_
                          refine WL.val rfl rfl rfl rfl (r_move rfl (ev_t rfl)) ?_
                          refine WL.val rfl rfl rfl rfl (r_lenSlice (ts := #[]) rfl (ev_t rfl) elem_22) ?_
                          refine WL.val rfl rfl rfl rfl (r_leq rfl (ev_t rfl) (ev_t rfl)) ?_
                          refine WL.val rfl rfl rfl rfl (r_move rfl (ev_t rfl)) ?_
                          refine WL.cases 64 rfl (fun hb15_10 => ?_) (fun hb15_10 => ?_)
                          · try (exfalso; first | (simp at hb15_10; done) | (simp only [decide_eq_true_eq, decide_eq_false_iff_not, Bool.not_eq_true', Bool.not_eq_false', Bool.not_eq_true, Bool.not_eq_false] at hb15_10; omega) | omega)
                            all_goals
                              try simp only [decide_eq_true_eq, decide_eq_false_iff_not, Bool.not_eq_true', Bool.not_eq_false', Bool.not_eq_true, Bool.not_eq_false, Option.isNone_none, Option.isNone_some, Option.isSome_none, Option.isSome_some, ne_eq, Decidable.not_not] at hb15_10
                              refine WL.val rfl rfl rfl rfl (r_move rfl (ev_t rfl)) ?_
                              refine WL.val rfl rfl rfl rfl (r_move rfl (ev_t rfl)) ?_
                              refine WL.val rfl rfl rfl rfl (r_move rfl (ev_t rfl)) ?_
                              refine WL.val rfl rfl rfl rfl (r_lenStrL rfl (ev_t rfl) str_9) ?_
                              refine WL.val rfl rfl rfl rfl (r_slice (l := 0) (h := s.length) rfl (ev_t rfl) elem_22 size_5 bnd_none (bnd_some (ev_t rfl) (by omega)) (by omega) (by omega) (by omega)) ?_
                              refine WL.val rfl rfl rfl rfl (r_toStr rfl (ev_t rfl) (hq.sliceB (lo := 0) (h := s.length) (by omega) (by omega)) elem_22 int_5 str_9) ?_
                              refine WL.val rfl rfl rfl rfl (r_eqlStrL rfl (ev_t rfl) (ev_t rfl)) ?_
                              refine WL.val rfl rfl rfl rfl (r_pickT rfl (ev_t rfl) (ev_t rfl)) ?_
                              refine WL.val rfl rfl rfl rfl (r_pickF rfl (ev_t rfl) (ev_t rfl)) ?_
                              refine WL.val rfl rfl rfl rfl (r_assign rfl (ev_t rfl)) ?_
                              refine WL.nil ?_
                              refine WX.keep [(8, _)] ⟨rfl, trivial⟩ ?_
                              refine WX.next ?_
                              refine WC.ret ?_
                              refine WX.thenRet ?_
                              refine WX.retE1 rfl rfl ?_
                              first
                                | exact ⟨rfl, hU⟩
                                | (refine ⟨?_, hU⟩; rw [List.drop_zero, Nat.sub_zero, List.take_of_length_le (by rw [List.length_drop]; omega), hA.2.2.2]; simp; done)
                                | (refine ⟨?_, hU⟩; simp [hW2.2]; done)
                          · try simp only [decide_eq_true_eq, decide_eq_false_iff_not, Bool.not_eq_true', Bool.not_eq_false', Bool.not_eq_true, Bool.not_eq_false, Option.isNone_none, Option.isNone_some, Option.isSome_none, Option.isSome_some, ne_eq, Decidable.not_not] at hb15_10
                            exfalso
                            omega
                  · try (exfalso; first | (simp at hc14; done) | (simp only [decide_eq_true_eq, decide_eq_false_iff_not, Bool.not_eq_true', Bool.not_eq_false', Bool.not_eq_true, Bool.not_eq_false] at hc14; omega) | omega)
                    all_goals
                      try simp only [decide_eq_true_eq, decide_eq_false_iff_not, Bool.not_eq_true', Bool.not_eq_false', Bool.not_eq_true, Bool.not_eq_false, Option.isNone_none, Option.isNone_some, Option.isSome_none, Option.isSome_some, ne_eq, Decidable.not_not] at hc14
                      refine WC.skip ?_
                      refine WX.next ?_
                      refine WC.seq ?_
                      have hA := sureA hs
                      -- region 16 law.go:103 DRAWS
                      refine WC.draws' (fun u0_ u1_ => Upd No u0_ u1_) (fun j => [0, 0, 0, 0, 0, 0, 0, 0, 0, 0, 0, 2, 0, 0, 0, 0, 0, 0, 0, 0, 0, 0, 0, 0, 0, 0, 0, 0, 0, 0, 0, 0, 0, 0, 0, 0, 2, 0, 0, 0].getD j 0) (.calm 0 (.calm 1 (.calm 2 (.calm 3 (.calm 4 (.calm 5 (.calm 6 (.calm 7 (.calm 8 (.calm 9 (.calm 10 (.one 11 (.calm 12 (.calm 13 (.calm 14 (.calm 15 (.calm 16 (.calm 17 (.calm 18 (.calm 19 (.calm 20 (.calm 21 (.calm 22 (.calm 23 (.calm 24 (.calm 25 (.calm 26 (.calm 27 (.calm 28 (.calm 29 (.calm 30 (.calm 31 (.calm 32 (.calm 33 (.calm 34 (.calm 35 (.one 36 (.calm 37 (.calm 38 (.calm 39 (.done))))))))))))))))))))))))))))))))))))))))) mixed (by kernel_rfl) (by repeat (first | with_reducible exact Deaf.body | with_reducible apply Deaf.then | with_reducible apply Deaf.block)) ?_
                      intro w14 hu14
                      have hz14 := congrArg Array.size hu14.2.2.2
                      replace hu14 := Upd.of_draw hu14
                      have hs14 := hu14.size
                      replace hU := hU.trans hu14 (by first | exact (fun _ _ h => h) | exact (fun _ _ h => h.elim) | (intro k hl hk; (try simp only [At, New, Grow, From, No] at hk ⊢); omega))
                      replace hp := hp.upd hu14 (by first | exact (fun _ _ _ h => h) | exact (fun k hk _ => notN hk))
                      replace hq := hq.upd hu14 (by first | exact (fun _ _ _ h => h) | exact (fun k hk _ => notN hk))
                      replace hc := hc.upd hu14 (by first | exact (fun _ _ _ h => h) | exact (fun k hk _ => notN hk))
                      refine WN.calm _ rfl rfl rfl rfl rfl (fun _ => r_move rfl (ev_t rfl)) ?_
                      refine WN.calm _ rfl rfl rfl rfl rfl (fun _ => r_lenStrL rfl (ev_t rfl) str_9) ?_
                      refine WN.calm _ rfl rfl rfl rfl rfl (fun _ => r_move rfl (ev_t rfl)) ?_
                      refine WN.calm _ rfl rfl rfl rfl rfl (fun _ => r_lenSlice (ts := #[]) rfl (ev_t rfl) elem_22) ?_
                      refine WN.calm _ rfl rfl rfl rfl rfl (fun _ => r_geq rfl (ev_t rfl) (ev_t rfl)) ?_
                      refine WN.calm _ rfl rfl rfl rfl rfl (fun _ => r_move rfl (ev_t rfl)) ?_
                      refine WN.cases 79 rfl (fun hb16_5 => ?_) (fun hb16_5 => ?_)
                      · try (exfalso; first | (simp at hb16_5; done) | (simp only [decide_eq_true_eq, decide_eq_false_iff_not, Bool.not_eq_true', Bool.not_eq_false', Bool.not_eq_true, Bool.not_eq_false] at hb16_5; omega) | omega)
                        all_goals
                          try simp only [decide_eq_true_eq, decide_eq_false_iff_not, Bool.not_eq_true', Bool.not_eq_false', Bool.not_eq_true, Bool.not_eq_false, Option.isNone_none, Option.isNone_some, Option.isSome_none, Option.isSome_some, ne_eq, Decidable.not_not] at hb16_5
                          refine WN.calm _ rfl rfl rfl rfl rfl (fun _ => r_move rfl (ev_t rfl)) ?_
                          refine WN.calm _ rfl rfl rfl rfl rfl (fun _ => r_move rfl (ev_t rfl)) ?_
                          refine WN.calm _ rfl rfl rfl rfl rfl (fun _ => r_lenSlice (ts := #[]) rfl (ev_t rfl) elem_22) ?_
                          refine WN.calm _ rfl rfl rfl rfl rfl (fun _ => r_sliceStr (l := 0) (h := p.length) rfl (ev_t rfl) str_9 bnd_none (bnd_some (ev_t rfl) (by omega)) (by omega) (by omega)) ?_
                          refine WN.calm _ rfl rfl rfl rfl rfl (fun _ => r_move rfl (ev_t rfl)) ?_
                          refine WN.step _ rfl (SO.val rfl rfl rfl rfl (r_toStr rfl (ev_t rfl) hp elem_22 int_5 str_9) ?_)
                          refine ⟨trivial, ?_⟩
                          refine WN.calm _ rfl rfl rfl rfl rfl (fun _ => r_eqlStrL rfl (ev_t rfl) (ev_t rfl)) ?_
                          refine WN.calm _ rfl rfl rfl rfl rfl (fun _ => r_pickT rfl (ev_t rfl) (ev_t rfl)) ?_
                          refine WN.calm _ rfl rfl rfl rfl rfl (fun _ => r_move rfl (ev_t rfl)) ?_
                          refine WN.cases 88 rfl (fun hb16_14 => ?_) (fun hb16_14 => ?_)
                          · try (exfalso; first | (simp at hb16_14; done) | (simp only [decide_eq_true_eq, decide_eq_false_iff_not, Bool.not_eq_true', Bool.not_eq_false', Bool.not_eq_true, Bool.not_eq_false] at hb16_14; omega) | omega)
                            all_goals
                              try simp only [decide_eq_true_eq, decide_eq_false_iff_not, Bool.not_eq_true', Bool.not_eq_false', Bool.not_eq_true, Bool.not_eq_false, Option.isNone_none, Option.isNone_some, Option.isSome_none, Option.isSome_some, ne_eq, Decidable.not_not] at hb16_14
                              refine WN.calm _ rfl rfl rfl rfl rfl (fun _ => r_move rfl (ev_t rfl)) ?_
                              refine WN.calm _ rfl rfl rfl rfl rfl (fun _ => r_lenStrL rfl (ev_t rfl) str_9) ?_
                              refine WN.calm _ rfl rfl rfl rfl rfl (fun _ => r_move rfl (ev_t rfl)) ?_
                              refine WN.calm _ rfl rfl rfl rfl rfl (fun _ => r_lenSlice (ts := #[]) rfl (ev_t rfl) elem_22) ?_
                              refine WN.calm _ rfl rfl rfl rfl rfl (fun _ => r_move rfl (ev_t rfl)) ?_
                              refine WN.calm _ rfl rfl rfl rfl rfl (fun _ => r_lenSlice (ts := #[]) rfl (ev_t rfl) elem_22) ?_
                              first | refine WN.calm _ rfl rfl rfl rfl rfl (fun _ => r_addN rfl (ev_t rfl) (ev_t rfl) (by simp only [inK]; omega)) ?_ | refine WN.calm _ rfl rfl rfl rfl rfl (fun _ => r_add rfl (ev_t rfl) (ev_t rfl)) ?_
                              refine WN.calm _ rfl rfl rfl rfl rfl (fun _ => r_leq rfl (ev_t rfl) (ev_t rfl)) ?_
                              refine WN.calm _ rfl rfl rfl rfl rfl (fun _ => r_pickT rfl (ev_t rfl) (ev_t rfl)) ?_
                              refine WN.calm _ rfl rfl rfl rfl rfl (fun _ => r_move rfl (ev_t rfl)) ?_
                              refine WN.cases 98 rfl (fun hb16_24 => ?_) (fun hb16_24 => ?_)
                              · try (exfalso; first | (simp at hb16_24; done) | (simp only [decide_eq_true_eq, decide_eq_false_iff_not, Bool.not_eq_true', Bool.not_eq_false', Bool.not_eq_true, Bool.not_eq_false] at hb16_24; omega) | omega)
                                all_goals
                                  try simp only [decide_eq_true_eq, decide_eq_false_iff_not, Bool.not_eq_true', Bool.not_eq_false', Bool.not_eq_true, Bool.not_eq_false, Option.isNone_none, Option.isNone_some, Option.isSome_none, Option.isSome_some, ne_eq, Decidable.not_not] at hb16_24
                                  refine WN.calm _ rfl rfl rfl rfl rfl (fun _ => r_move rfl (ev_t rfl)) ?_
                                  refine WN.calm _ rfl rfl rfl rfl rfl (fun _ => r_move rfl (ev_t rfl)) ?_
                                  refine WN.calm _ rfl rfl rfl rfl rfl (fun _ => r_lenSlice (ts := #[]) rfl (ev_t rfl) elem_22) ?_
                                  refine WN.calm _ rfl rfl rfl rfl rfl (fun _ => r_sliceStr (l := p.length) (h := s.length) rfl (ev_t rfl) str_9 (bnd_some (ev_t rfl) (by omega)) bnd_none (by omega) (by omega)) ?_
                                  refine WN.calm _ rfl rfl rfl rfl rfl (fun _ => r_move rfl (ev_t rfl)) ?_
                                  refine WN.calm _ rfl rfl rfl rfl rfl (fun _ => r_move rfl (ev_t rfl)) ?_
                                  refine WN.calm _ rfl rfl rfl rfl rfl (fun _ => r_lenStrL rfl (ev_t rfl) str_9) ?_
                                  refine WN.calm _ rfl rfl rfl rfl rfl (fun _ => r_move rfl (ev_t rfl)) ?_
                                  refine WN.calm _ rfl rfl rfl rfl rfl (fun _ => r_lenSlice (ts := #[]) rfl (ev_t rfl) elem_22) ?_
                                  first | refine WN.calm _ rfl rfl rfl rfl rfl (fun _ => r_subN rfl (ev_t rfl) (ev_t rfl) (by simp only [inK]; omega)) ?_ | refine WN.calm _ rfl rfl rfl rfl rfl (fun _ => r_sub rfl (ev_t rfl) (ev_t rfl)) ?_
                                  refine WN.calm _ rfl rfl rfl rfl rfl (fun _ => r_slice (l := 0) (h := s.length - p.length) rfl (ev_t rfl) elem_22 size_5 bnd_none (bnd_some (ev_t rfl) (by omega)) (by omega) (by omega) (by omega)) ?_
                                  refine WN.step _ rfl (SO.val rfl rfl rfl rfl (r_toStr rfl (ev_t rfl) (hq.sliceB (lo := 0) (h := s.length - p.length) (by omega) (by omega)) elem_22 int_5 str_9) ?_)
                                  refine ⟨trivial, ?_⟩
                                  refine WN.calm _ rfl rfl rfl rfl rfl (fun _ => r_eqlStrL rfl (ev_t rfl) (ev_t rfl)) ?_
                                  refine WN.calm _ rfl rfl rfl rfl rfl (fun _ => r_pickT rfl (ev_t rfl) (ev_t rfl)) ?_
                                  refine WN.calm _ rfl rfl rfl rfl rfl (fun _ => r_assign rfl (ev_t rfl)) ?_
                                  refine WN.done ?_
                                  refine WX.keep [(8, _)] ⟨rfl, trivial⟩ ?_
                                  refine WX.next ?_
                                  refine WC.ret ?_
                                  refine WX.retE1 rfl rfl ?_
                                  first
                                    | exact ⟨rfl, hU⟩
                                    | (refine ⟨?_, hU⟩; rw [List.drop_zero, Nat.sub_zero, List.take_of_length_le (by rw [List.length_drop]; omega), hA.2.2.2]; simp; done)
                                    | (refine ⟨?_, hU⟩; simp [hW2.2]; done)
                              · try (exfalso; first | (simp at hb16_24; done) | (simp only [decide_eq_true_eq, decide_eq_false_iff_not, Bool.not_eq_true', Bool.not_eq_false', Bool.not_eq_true, Bool.not_eq_false] at hb16_24; omega) | omega)
                                all_goals
                                  try simp only [decide_eq_true_eq, decide_eq_false_iff_not, Bool.not_eq_true', Bool.not_eq_false', Bool.not_eq_true, Bool.not_eq_false, Option.isNone_none, Option.isNone_some, Option.isSome_none, Option.isSome_some, ne_eq, Decidable.not_not] at hb16_24
                                  refine WN.skip _ rfl rfl rfl rfl ?_
                                  refine WN.skip _ rfl rfl rfl rfl ?_
                                  refine WN.skip _ rfl rfl rfl rfl ?_
                                  refine WN.skip _ rfl rfl rfl rfl ?_
                                  refine WN.skip _ rfl rfl rfl rfl ?_
                                  refine WN.skip _ rfl rfl rfl rfl ?_
                                  refine WN.skip _ rfl rfl rfl rfl ?_
                                  refine WN.skip _ rfl rfl rfl rfl ?_
                                  refine WN.skip _ rfl rfl rfl rfl ?_
                                  refine WN.skip _ rfl rfl rfl rfl ?_
                                  refine WN.skip _ rfl rfl rfl rfl ?_
                                  refine WN.step _ rfl (SO.skip rfl rfl rfl ?_)
                                  refine ⟨trivial, ?_⟩
                                  refine WN.skip _ rfl rfl rfl rfl ?_
                                  refine WN.calm _ rfl rfl rfl rfl rfl (fun _ => r_pickF rfl (ev_t rfl) ev_c) ?_
                                  refine WN.calm _ rfl rfl rfl rfl rfl (fun _ => r_assign rfl (ev_t rfl)) ?_
                                  refine WN.done ?_
                                  refine WX.keep [(8, _)] ⟨rfl, trivial⟩ ?_
                                  refine WX.next ?_
                                  refine WC.ret ?_
                                  refine WX.retE1 rfl rfl ?_
                                  first
                                    | exact ⟨rfl, hU⟩
                                    | (refine ⟨?_, hU⟩; rw [List.drop_zero, Nat.sub_zero, List.take_of_length_le (by rw [List.length_drop]; omega), hA.2.2.2]; simp; done)
                                    | (refine ⟨?_, hU⟩; simp [hW2.2]; done)
                          · try simp only [decide_eq_true_eq, decide_eq_false_iff_not, Bool.not_eq_true', Bool.not_eq_false', Bool.not_eq_true, Bool.not_eq_false, Option.isNone_none, Option.isNone_some, Option.isSome_none, Option.isSome_some, ne_eq, Decidable.not_not] at hb16_14
                            exfalso
                            rw [List.drop_zero, Nat.sub_zero] at hb16_14; exact hb16_14 hA.2.1
                      · try (exfalso; first | (simp at hb16_5; done) | (simp only [decide_eq_true_eq, decide_eq_false_iff_not, Bool.not_eq_true', Bool.not_eq_false', Bool.not_eq_true, Bool.not_eq_false] at hb16_5; omega) | omega)
                        all_goals
                          try simp only [decide_eq_true_eq, decide_eq_false_iff_not, Bool.not_eq_true', Bool.not_eq_false', Bool.not_eq_true, Bool.not_eq_false, Option.isNone_none, Option.isNone_some, Option.isSome_none, Option.isSome_some, ne_eq, Decidable.not_not] at hb16_5
                          refine WN.skip _ rfl rfl rfl rfl ?_
                          refine WN.skip _ rfl rfl rfl rfl ?_
                          refine WN.skip _ rfl rfl rfl rfl ?_
                          refine WN.skip _ rfl rfl rfl rfl ?_
                          refine WN.skip _ rfl rfl rfl rfl ?_
                          refine WN.step _ rfl (SO.skip rfl rfl rfl ?_)
                          refine ⟨trivial, ?_⟩
                          refine WN.skip _ rfl rfl rfl rfl ?_
                          refine WN.calm _ rfl rfl rfl rfl rfl (fun _ => r_pickF rfl (ev_t rfl) ev_c) ?_
                          refine WN.calm _ rfl rfl rfl rfl rfl (fun _ => r_move rfl (ev_t rfl)) ?_
                          refine WN.skip _ rfl rfl rfl rfl ?_
                          refine WN.skip _ rfl rfl rfl rfl ?_
                          refine WN.skip _ rfl rfl rfl rfl ?_
                          refine WN.skip _ rfl rfl rfl rfl ?_
                          refine WN.skip _ rfl rfl rfl rfl ?_
                          refine WN.skip _ rfl rfl rfl rfl ?_
                          refine WN.skip _ rfl rfl rfl rfl ?_
                          refine WN.skip _ rfl rfl rfl rfl ?_
                          refine WN.calm _ rfl rfl rfl rfl rfl (fun _ => r_pickF rfl (ev_t rfl) ev_c) ?_
                          refine WN.calm _ rfl rfl rfl rfl rfl (fun _ => r_move rfl (ev_t rfl)) ?_
                          refine WN.skip _ rfl rfl rfl rfl ?_
                          refine WN.skip _ rfl rfl rfl rfl ?_
                          refine WN.skip _ rfl rfl rfl rfl ?_
                          refine WN.skip _ rfl rfl rfl rfl ?_
                          refine WN.skip _ rfl rfl rfl rfl ?_
                          refine WN.skip _ rfl rfl rfl rfl ?_
                          refine WN.skip _ rfl rfl rfl rfl ?_
                          refine WN.skip _ rfl rfl rfl rfl ?_
                          refine WN.skip _ rfl rfl rfl rfl ?_
                          refine WN.skip _ rfl rfl rfl rfl ?_
                          refine WN.skip _ rfl rfl rfl rfl ?_
                          refine WN.step _ rfl (SO.skip rfl rfl rfl ?_)
                          refine ⟨trivial, ?_⟩
                          refine WN.skip _ rfl rfl rfl rfl ?_
                          refine WN.calm _ rfl rfl rfl rfl rfl (fun _ => r_pickF rfl (ev_t rfl) ev_c) ?_
                          refine WN.calm _ rfl rfl rfl rfl rfl (fun _ => r_assign rfl (ev_t rfl)) ?_
                          refine WN.done ?_
                          refine WX.keep [(8, _)] ⟨rfl, trivial⟩ ?_
                          refine WX.next ?_
                          refine WC.ret ?_
                          refine WX.retE1 rfl rfl ?_
                          first
                            | exact ⟨rfl, hU⟩
                            | (refine ⟨?_, hU⟩; rw [List.drop_zero, Nat.sub_zero, List.take_of_length_le (by rw [List.length_drop]; omega), hA.2.2.2]; simp; done)
                            | (refine ⟨?_, hU⟩; simp [hW2.2]; done)
end Go.Proofs.Ytejlmcdmoghmaaa
