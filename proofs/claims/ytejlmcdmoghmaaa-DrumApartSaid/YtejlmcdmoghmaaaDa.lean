/-
  law 13: the power goes off; what is handed in and told.
-/
import Derived.Test.YtejlmcdmoghmaaaDk
namespace Go.Proofs.Ytejlmcdmoghmaaa
open Go
set_option linter.unusedSimpArgs false
set_option linter.unusedVariables false

/-- bytes over and over -/
def repB (p : List UInt8) (n : Nat) : List UInt8 := (List.replicate n p).flatten
theorem repB_succ (p : List UInt8) (n : Nat) : repB p (n + 1) = repB p n ++ p := by
  unfold repB
  rw [List.replicate_succ', List.flatten_append]
  simp
theorem repB_len (p : List UInt8) (n : Nat) : (repB p n).length = n * p.length := by
  simp [repB, List.length_flatten, List.map_replicate, List.sum_replicate_nat]
/-- behind i operations of k -/
def DA (p : List UInt8) (k i : Nat) : DS := ⟨[⟨[], repB p i, false⟩, ⟨[], [], false⟩], 10000, i, (k : Int) - i, decide (i = k)⟩
theorem DA_append {p : List UInt8} {k i : Nat} (h : i < k) (hk : k ≤ 20) (hp : p.length ≤ 100) : (DA p k i).append 0 p = (DA p k (i + 1), if i + 1 = k then 12 else 0) := by
  have hl := repB_len p i
  have hle : i * p.length ≤ 20 * 100 := Nat.mul_le_mul (by omega) hp
  have hlook : (DA p k i).look 0 = 0 := by
    unfold DS.look lookN DA
    rw [if_neg (by simp), if_neg (by simp; omega)]
  unfold DS.append
  rw [if_neg (by rw [hlook]; simp), if_neg (by simp only [DS.track, DA, Int.toNat_zero, List.getD_cons_zero]; omega)]
  have hw : IntKind.i64.wrap ((i : Int) + 1) = (i : Int) + 1 := wrap_i64_in (by omega) (by omega)
  have hd : decide ((k : Int) - i - 1 = 0) = decide (i + 1 = k) := decide_eq_decide.2 (by omega)
  have harm : armB ((k : Int) - i) (decide (i = k)) = ((k : Int) - i - 1, decide (i + 1 = k)) := by
    unfold armB
    rw [if_pos (by omega), hd]
  simp only [DS.begin, DS.setT, DS.track, DS.code, DA, hw, harm, Int.toNat_zero, List.getD_cons_zero, List.set_cons_zero, repB_succ, decide_eq_true_eq]
  rw [show (k : Int) - i - 1 = (k : Int) - ((i + 1 : Nat) : Int) by omega, show (i : Int) + 1 = ((i + 1 : Nat) : Int) by omega]

set_option maxHeartbeats 1000000 in
theorem drumArms.walk {w : World} {pv : Value} {p : List UInt8} {n : Int} (hn : 0 ≤ n ∧ n ≤ 255) (hp : Rd w (fun k => k < w.heap.size) pv p.length 1 (p.map U8)) :
    Ret Try.prog 6 #[.int .u8 n, pv] w fun v w' => v = .bool true ∧ Upd No w w' := by
  obtain ⟨Ap, cp, rfl, hcp⟩ := hp.slice_form
  have hpm := hp.le
  refine enterRet (vs := [_, _]) (N := 92) Try.func6 rfl rfl rfl ?_
  have hU := Upd.refl No w
  refine WC.keep [(0, _), (1, _)] ⟨rfl, rfl, trivial⟩ ?_
  refine WC.seq ?_
  -- region 0 law.go:107
  refine WC.region ?_
  refine WL.val rfl rfl rfl rfl (r_assign rfl ev_c) ?_
  refine WL.nil ?_
  refine WX.keep [(0, _), (1, _)] ⟨rfl, rfl, trivial⟩ ?_
  refine WX.next ?_
  refine WC.seq ?_
  refine WC.seq ?_
  -- region 1 law.go:108
  refine WC.region ?_
  refine WL.cons (SO.call (awake13_ok _) rfl body_14 trivial rfl rfl rfl rfl ?_)
  rintro v w1 ⟨rfl, hu1⟩
  have hs1 := hu1.size
  replace hU := hU.trans hu1 (by first | exact (fun _ _ h => h) | exact (fun _ _ h => h.elim) | (intro k hl hk; (try simp only [At, New, Grow, From, No] at hk ⊢); omega))
  refine WL.val rfl rfl rfl rfl (r_not rfl (ev_t rfl)) ?_
  refine WL.val rfl rfl rfl rfl (r_move rfl (ev_t rfl)) ?_
  refine WL.cases 14 rfl (fun hb1_2 => ?_) (fun hb1_2 => ?_)
  · try (exfalso; first | (simp at hb1_2; done) | (simp only [decide_eq_true_eq, decide_eq_false_iff_not, Bool.not_eq_true', Bool.not_eq_false', Bool.not_eq_true, Bool.not_eq_false] at hb1_2; omega) | omega)
    all_goals
      try simp only [decide_eq_true_eq, decide_eq_false_iff_not, Bool.not_eq_true', Bool.not_eq_false', Bool.not_eq_true, Bool.not_eq_false, Option.isNone_none, Option.isNone_some, Option.isSome_none, Option.isSome_some, ne_eq, Decidable.not_not] at hb1_2
      refine WL.skip rfl rfl rfl ?_
      refine WL.skip rfl rfl rfl ?_
      refine WL.skip rfl rfl rfl ?_
      refine WL.val rfl rfl rfl rfl (r_pickT rfl (ev_t rfl) ev_c) ?_
      refine WL.nil ?_
      refine WX.keep [(0, _), (1, _), (18, _)] ⟨rfl, rfl, rfl, trivial⟩ ?_
      refine WX.next ?_
      refine WC.cond_true rfl (ev_t rfl) ?_
      refine WC.seq ?_
      -- region 2 law.go:109
      refine WC.region ?_
      refine WL.cons (SO.call (awake13_ok _) rfl body_14 trivial rfl rfl rfl rfl ?_)
      rintro v w2 ⟨rfl, hu2⟩
      have hs2 := hu2.size
      replace hU := hU.trans hu2 (by first | exact (fun _ _ h => h) | exact (fun _ _ h => h.elim) | (intro k hl hk; (try simp only [At, New, Grow, From, No] at hk ⊢); omega))
      refine WL.val rfl rfl rfl rfl (r_assign rfl (ev_t rfl)) ?_
      refine WL.nil ?_
      refine WX.keep [(4, _)] ⟨rfl, trivial⟩ ?_
      refine WX.next ?_
      refine WC.ret ?_
      refine WX.thenRet ?_
      refine WX.retE1 rfl rfl ?_
      exact ⟨rfl, hU⟩
  · try (exfalso; first | (simp at hb1_2; done) | (simp only [decide_eq_true_eq, decide_eq_false_iff_not, Bool.not_eq_true', Bool.not_eq_false', Bool.not_eq_true, Bool.not_eq_false] at hb1_2; omega) | omega)
    all_goals
      try simp only [decide_eq_true_eq, decide_eq_false_iff_not, Bool.not_eq_true', Bool.not_eq_false', Bool.not_eq_true, Bool.not_eq_false, Option.isNone_none, Option.isNone_some, Option.isSome_none, Option.isSome_some, ne_eq, Decidable.not_not] at hb1_2
      refine WL.val rfl rfl rfl rfl (r_move rfl (ev_t rfl)) ?_
      refine WL.val rfl rfl rfl rfl (r_lenSlice (ts := #[]) rfl (ev_t rfl) elem_22) ?_
      refine WL.val rfl rfl rfl rfl (r_gtr rfl (ev_t rfl) ev_c) ?_
      refine WL.val rfl rfl rfl rfl (r_pickF rfl (ev_t rfl) (ev_t rfl)) ?_
      refine WL.nil ?_
      refine WX.keep [(0, _), (1, _), (18, _)] ⟨rfl, rfl, rfl, trivial⟩ ?_
      refine WX.next ?_
      refine WC.cond rfl (ev_t rfl) (fun hc1 => ?_) (fun hc1 => ?_)
      · try (exfalso; first | (simp at hc1; done) | (simp only [decide_eq_true_eq, decide_eq_false_iff_not, Bool.not_eq_true', Bool.not_eq_false', Bool.not_eq_true, Bool.not_eq_false] at hc1; omega) | omega)
        all_goals
          try simp only [decide_eq_true_eq, decide_eq_false_iff_not, Bool.not_eq_true', Bool.not_eq_false', Bool.not_eq_true, Bool.not_eq_false, Option.isNone_none, Option.isNone_some, Option.isSome_none, Option.isSome_some, ne_eq, Decidable.not_not] at hc1
          refine WC.seq ?_
          -- region 2 law.go:109
          refine WC.region ?_
          refine WL.cons (SO.call (awake13_ok _) rfl body_14 trivial rfl rfl rfl rfl ?_)
          rintro v w3 ⟨rfl, hu3⟩
          have hs3 := hu3.size
          replace hU := hU.trans hu3 (by first | exact (fun _ _ h => h) | exact (fun _ _ h => h.elim) | (intro k hl hk; (try simp only [At, New, Grow, From, No] at hk ⊢); omega))
          refine WL.val rfl rfl rfl rfl (r_assign rfl (ev_t rfl)) ?_
          refine WL.nil ?_
          refine WX.keep [(4, _)] ⟨rfl, trivial⟩ ?_
          refine WX.next ?_
          refine WC.ret ?_
          refine WX.thenRet ?_
          refine WX.retE1 rfl rfl ?_
          exact ⟨rfl, hU⟩
      · try (exfalso; first | (simp at hc1; done) | (simp only [decide_eq_true_eq, decide_eq_false_iff_not, Bool.not_eq_true', Bool.not_eq_false', Bool.not_eq_true, Bool.not_eq_false] at hc1; omega) | omega)
        all_goals
          try simp only [decide_eq_true_eq, decide_eq_false_iff_not, Bool.not_eq_true', Bool.not_eq_false', Bool.not_eq_true, Bool.not_eq_false, Option.isNone_none, Option.isNone_some, Option.isSome_none, Option.isSome_some, ne_eq, Decidable.not_not] at hc1
          refine WC.skip ?_
          refine WX.next ?_
          refine WC.seq ?_
          -- region 3 law.go:111
          refine WC.region ?_
          refine WL.val rfl rfl rfl rfl (r_move rfl (ev_t rfl)) ?_
          first | refine WL.val rfl rfl rfl rfl (r_convN rfl (ev_t rfl) some_5 int_3 (by simp only [inK]; omega)) ?_ | refine WL.val rfl rfl rfl rfl (r_conv rfl (ev_t rfl) some_5 int_3) ?_
          first | refine WL.val rfl rfl rfl rfl (r_remN rfl (ev_t rfl) ev_c (by omega) (by omega)) ?_ | refine WL.val rfl rfl rfl rfl (r_rem rfl (ev_t rfl) ev_c (by omega)) ?_
          first | refine WL.val rfl rfl rfl rfl (r_addN rfl ev_c (ev_t rfl) (by simp only [inK]; omega)) ?_ | refine WL.val rfl rfl rfl rfl (r_add rfl ev_c (ev_t rfl)) ?_
          refine WL.val rfl rfl rfl rfl (r_assign rfl (ev_t rfl)) ?_
          refine WL.nil ?_
          refine WX.keep [(1, _), (5, _)] ⟨rfl, rfl, trivial⟩ ?_
          obtain ⟨k, hk, hk1, hk2⟩ : ∃ k : Nat, 1 + n % 20 = (k : Int) ∧ 1 ≤ k ∧ k ≤ 20 := ⟨(1 + n % 20).toNat, by omega, by omega, by omega⟩
          rw [hk]
          refine WX.next ?_
          refine WC.seq ?_
          -- region 4 law.go:112
          refine WC.region ?_
          refine WL.cons (SO.call (Dnew_ok (n := 2) (most := 10000) (by omega) (by omega)) rfl body_15 ⟨ev_c, ev_c, trivial⟩ rfl rfl rfl rfl ?_)
          rintro v w4 ⟨pd, rfl, hd, hu4⟩
          have hs4 := hu4.size
          replace hU := hU.trans hu4 (by first | exact (fun _ _ h => h) | exact (fun _ _ h => h.elim) | (intro k hl hk; (try simp only [At, New, Grow, From, No] at hk ⊢); omega))
          replace hd := hd.mono (F' := New w w4) (fun k hk _ => by simp only [New] at hk ⊢; omega)
          refine WL.val rfl rfl rfl rfl (r_move rfl (ev_t rfl)) ?_
          refine WL.val rfl rfl rfl rfl (r_extract rfl (ev_t rfl) rfl) ?_
          refine WL.val rfl rfl rfl rfl (r_extract rfl (ev_t rfl) rfl) ?_
          refine WL.val rfl rfl rfl rfl (r_assign rfl (ev_t rfl)) ?_
          refine WL.val rfl rfl rfl rfl (r_assign rfl (ev_t rfl)) ?_
          refine WL.nil ?_
          refine WX.keep [(1, _), (5, _), (6, _)] ⟨rfl, rfl, rfl, trivial⟩ ?_
          refine WX.next ?_
          refine WC.seq ?_
          refine WC.seq ?_
          -- region 5 law.go:113
          refine WC.region ?_
          refine WL.val rfl rfl rfl rfl (r_move rfl (ev_t rfl)) ?_
          refine WL.val rfl rfl rfl rfl (r_move rfl (ev_t rfl)) ?_
          refine WL.cons (SO.call (Arm_ok (n := k) hd (by simp only [inK]; omega)) rfl body_21 ⟨(ev_t rfl), (ev_t rfl), trivial⟩ rfl rfl rfl rfl ?_)
          rintro v w5 ⟨rfl, hd, hu5⟩
          rw [if_neg (by omega)] at hd ⊢
          have hs5 := hu5.size
          replace hU := hU.trans hu5 (by first | exact (fun _ _ h => h) | exact (fun _ _ h => h.elim) | (intro k hl hk; (try simp only [At, New, Grow, From, No] at hk ⊢); omega))
          replace hd : IsD w5 (New w w5) pd (DA p k 0) := by
            rw [show DA p k 0 = { DS.new 2 10000 with armed := (k : Int) } by simp [DA, DS.new, repB, List.replicate]; omega]
            exact hd.mono (fun k hk _ => ⟨hk.1, by have := hk.2; omega⟩)
          refine WL.val rfl rfl rfl rfl (r_neq rfl (ev_t rfl) ev_c) ?_
          refine WL.nil ?_
          refine WX.keep [(1, _), (5, _), (6, _), (31, _)] ⟨rfl, rfl, rfl, rfl, trivial⟩ ?_
          refine WX.next ?_
          refine WC.cond rfl (ev_t rfl) (fun hc5 => ?_) (fun hc5 => ?_)
          · try (exfalso; first | (simp at hc5; done) | (simp only [decide_eq_true_eq, decide_eq_false_iff_not, Bool.not_eq_true', Bool.not_eq_false', Bool.not_eq_true, Bool.not_eq_false] at hc5; omega) | omega)
            all_goals
              try simp only [decide_eq_true_eq, decide_eq_false_iff_not, Bool.not_eq_true', Bool.not_eq_false', Bool.not_eq_true, Bool.not_eq_false, Option.isNone_none, Option.isNone_some, Option.isSome_none, Option.isSome_some, ne_eq, Decidable.not_not] at hc5
              refine WC.seq ?_
              -- region 6 law.go:114
              refine WC.region ?_
              refine WL.val rfl rfl rfl rfl (r_assign rfl ev_c) ?_
              refine WL.nil ?_
              refine WX.keep [(4, _)] ⟨rfl, trivial⟩ ?_
              refine WX.next ?_
              refine WC.ret ?_
              refine WX.thenRet ?_
              refine WX.retE1 rfl rfl ?_
              exact ⟨rfl, hU⟩
          · try (exfalso; first | (simp at hc5; done) | (simp only [decide_eq_true_eq, decide_eq_false_iff_not, Bool.not_eq_true', Bool.not_eq_false', Bool.not_eq_true, Bool.not_eq_false] at hc5; omega) | omega)
            all_goals
              try simp only [decide_eq_true_eq, decide_eq_false_iff_not, Bool.not_eq_true', Bool.not_eq_false', Bool.not_eq_true, Bool.not_eq_false, Option.isNone_none, Option.isNone_some, Option.isSome_none, Option.isSome_some, ne_eq, Decidable.not_not] at hc5
              refine WC.skip ?_
              refine WX.next ?_
              refine WC.seq ?_
              refine WC.seq ?_
              -- region 7 law.go:116
              refine WC.region ?_
              refine WL.val rfl rfl rfl rfl (r_assign rfl ev_c) ?_
              refine WL.nil ?_
              refine WX.keep [(1, _), (5, _), (6, _), (8, _)] ⟨rfl, rfl, rfl, rfl, trivial⟩ ?_
              refine WX.next ?_
              refine WC.block ?_
              -- loop 1: live [1, 5, 6, 8]
              refine WC.keep [(1, _), (5, _), (6, _), (8, _)] ⟨rfl, rfl, rfl, rfl, trivial⟩ ?_
              refine WC.loop (fun q E w' => ∃ i : Nat, i ≤ k ∧ q = k - i ∧ Upd No w w' ∧ IsD w' (New w w') pd (DA p k i) ∧ E = [(1, .slice Ap p.length cp), (5, .int .i64 (k : Int)), (6, .pointer (some ⟨pd, 0, none⟩)), (8, .int .i64 ((i : Int) + 1))]) (k) ?_ ?_
              · exact ⟨0, by omega, by omega, hU, hd, rfl⟩
              · clear hU hd
                rintro q E w' ⟨i, hi, rfl, hU, hd, rfl⟩
                have hs0 := hU.size
                refine WC.seq ?_
                refine WC.seq ?_
                -- region 8 law.go:116
                refine WC.region ?_
                refine WL.val rfl rfl rfl rfl (r_move rfl (ev_t rfl)) ?_
                refine WL.val rfl rfl rfl rfl (r_move rfl (ev_t rfl)) ?_
                refine WL.val rfl rfl rfl rfl (r_leq rfl (ev_t rfl) (ev_t rfl)) ?_
                refine WL.nil ?_
                refine WX.keep [(1, _), (5, _), (6, _), (8, _), (34, _)] ⟨rfl, rfl, rfl, rfl, rfl, trivial⟩ ?_
                refine WX.next ?_
                refine WC.cond rfl (ev_t rfl) (fun hc8 => ?_) (fun hc8 => ?_)
                · try (exfalso; first | (simp at hc8; done) | (simp only [decide_eq_true_eq, decide_eq_false_iff_not, Bool.not_eq_true', Bool.not_eq_false', Bool.not_eq_true, Bool.not_eq_false] at hc8; omega) | omega)
                  all_goals
                    try simp only [decide_eq_true_eq, decide_eq_false_iff_not, Bool.not_eq_true', Bool.not_eq_false', Bool.not_eq_true, Bool.not_eq_false, Option.isNone_none, Option.isNone_some, Option.isSome_none, Option.isSome_some, ne_eq, Decidable.not_not] at hc8
                    have hik : i < k := by omega
                    have hlook : (DA p k i).look 0 = 0 := by
                      unfold DS.look lookN DA
                      rw [if_neg (by simp), if_neg (by simp; omega)]
                    refine WC.skip ?_
                    refine WX.next ?_
                    refine WC.seq ?_
                    refine WC.block ?_
                    refine WC.seq ?_
                    -- region 10 law.go:117
                    refine WC.region ?_
                    refine WL.val rfl rfl rfl rfl (r_move rfl (ev_t rfl)) ?_
                    refine WL.val rfl rfl rfl rfl (r_move rfl (ev_t rfl)) ?_
                    refine WL.cons (SO.call (Append_good hd hlook (hp.upd hU (fun _ _ _ h => h)) (fun k hk _ => notN hk)) rfl body_16 ⟨(ev_t rfl), ev_c, (ev_t rfl), trivial⟩ rfl rfl rfl rfl ?_)
                    rintro v w6 ⟨rfl, hd, hu6⟩
                    rw [DA_append hik hk2 (by omega)] at hd ⊢
                    obtain ⟨ev, hev, hv1, hv2⟩ : ∃ ev : Nat, (if i + 1 = k then 12 else 0) = ev ∧ (i + 1 = k → ev = 12) ∧ (¬ i + 1 = k → ev = 0) := ⟨_, rfl, fun h => if_pos h, fun h => if_neg h⟩
                    dsimp only at hd ⊢
                    rw [hev]
                    have hs6 := hu6.size
                    replace hU := hU.trans hu6 (by first | exact (fun _ _ h => h) | exact (fun _ _ h => h.elim) | (intro k hl hk; (try simp only [At, New, Grow, From, No] at hk ⊢); omega))
                    replace hd := hd.mono (F' := New w w6) (fun k hk _ => New.grow (by omega) (by omega) hk)
                    refine WL.val rfl rfl rfl rfl (r_assign rfl (ev_t rfl)) ?_
                    refine WL.nil ?_
                    refine WX.keep [(1, _), (5, _), (6, _), (8, _), (9, _)] ⟨rfl, rfl, rfl, rfl, rfl, trivial⟩ ?_
                    refine WX.next ?_
                    refine WC.seq ?_
                    -- region 11 law.go:118
                    refine WC.region ?_
                    refine WL.val rfl rfl rfl rfl (r_move rfl (ev_t rfl)) ?_
                    refine WL.val rfl rfl rfl rfl (r_eql rfl (ev_t rfl) ev_c) ?_
                    refine WL.val rfl rfl rfl rfl (r_move rfl (ev_t rfl)) ?_
                    refine WL.val rfl rfl rfl rfl (r_move rfl (ev_t rfl)) ?_
                    refine WL.val rfl rfl rfl rfl (r_lss rfl (ev_t rfl) (ev_t rfl)) ?_
                    refine WL.val rfl rfl rfl rfl (r_neqBool rfl (ev_t rfl) (ev_t rfl) bool_4) ?_
                    refine WL.val rfl rfl rfl rfl (r_move rfl (ev_t rfl)) ?_
                    refine WL.cases 46 rfl (fun hb11_6 => ?_) (fun hb11_6 => ?_)
                    · try simp only [decide_eq_true_eq, decide_eq_false_iff_not, Bool.not_eq_true', Bool.not_eq_false', Bool.not_eq_true, Bool.not_eq_false, Option.isNone_none, Option.isNone_some, Option.isSome_none, Option.isSome_some, ne_eq, Decidable.not_not] at hb11_6
                      exfalso
                      rw [beq_eq_false_iff_ne, ne_eq, decide_eq_decide] at hb11_6; omega
                    · try (exfalso; first | (simp at hb11_6; done) | (simp only [decide_eq_true_eq, decide_eq_false_iff_not, Bool.not_eq_true', Bool.not_eq_false', Bool.not_eq_true, Bool.not_eq_false] at hb11_6; omega) | omega)
                      all_goals
                        try simp only [decide_eq_true_eq, decide_eq_false_iff_not, Bool.not_eq_true', Bool.not_eq_false', Bool.not_eq_true, Bool.not_eq_false, Option.isNone_none, Option.isNone_some, Option.isSome_none, Option.isSome_some, ne_eq, Decidable.not_not] at hb11_6
                        refine WL.val rfl rfl rfl rfl (r_move rfl (ev_t rfl)) ?_
                        refine WL.cons (SO.call (On_ok hd) rfl body_22 ⟨(ev_t rfl), trivial⟩ rfl rfl rfl rfl ?_)
                        rintro v _ ⟨rfl, rfl⟩
                        rw [show (DA p k (i + 1)).off = decide (i + 1 = k) from rfl]
                        refine WL.val rfl rfl rfl rfl (r_move rfl (ev_t rfl)) ?_
                        refine WL.val rfl rfl rfl rfl (r_move rfl (ev_t rfl)) ?_
                        refine WL.val rfl rfl rfl rfl (r_lss rfl (ev_t rfl) (ev_t rfl)) ?_
                        refine WL.val rfl rfl rfl rfl (r_neqBool rfl (ev_t rfl) (ev_t rfl) bool_4) ?_
                        refine WL.val rfl rfl rfl rfl (r_pickF rfl (ev_t rfl) (ev_t rfl)) ?_
                        refine WL.nil ?_
                        refine WX.keep [(1, _), (5, _), (6, _), (8, _), (53, _)] ⟨rfl, rfl, rfl, rfl, rfl, trivial⟩ ?_
                        refine WX.next ?_
                        refine WC.cond rfl (ev_t rfl) (fun hc11 => ?_) (fun hc11 => ?_)
                        · try simp only [decide_eq_true_eq, decide_eq_false_iff_not, Bool.not_eq_true', Bool.not_eq_false', Bool.not_eq_true, Bool.not_eq_false, Option.isNone_none, Option.isNone_some, Option.isSome_none, Option.isSome_some, ne_eq, Decidable.not_not] at hc11
                          exfalso
                          rw [← decide_not, beq_eq_false_iff_ne, ne_eq, decide_eq_decide] at hc11; omega
                        · try (exfalso; first | (simp at hc11; done) | (simp only [decide_eq_true_eq, decide_eq_false_iff_not, Bool.not_eq_true', Bool.not_eq_false', Bool.not_eq_true, Bool.not_eq_false] at hc11; omega) | omega)
                          all_goals
                            try simp only [decide_eq_true_eq, decide_eq_false_iff_not, Bool.not_eq_true', Bool.not_eq_false', Bool.not_eq_true, Bool.not_eq_false, Option.isNone_none, Option.isNone_some, Option.isSome_none, Option.isSome_some, ne_eq, Decidable.not_not] at hc11
                            refine WC.skip ?_
                            refine WX.blockNormal ?_
                            refine WX.next ?_
                            -- region 9 law.go:116
                            refine WC.region ?_
                            refine WL.val rfl rfl rfl rfl (r_move rfl (ev_t rfl)) ?_
                            first | refine WL.val rfl rfl rfl rfl (r_addN rfl (ev_t rfl) ev_c (by simp only [inK]; omega)) ?_ | refine WL.val rfl rfl rfl rfl (r_add rfl (ev_t rfl) ev_c) ?_
                            refine WL.val rfl rfl rfl rfl (r_assign rfl (ev_t rfl)) ?_
                            refine WL.nil ?_
                            refine WX.keep [(1, _), (5, _), (6, _), (8, _)] ⟨rfl, rfl, rfl, rfl, trivial⟩ ?_
                            refine WX.meet [(1, _), (5, _), (6, _), (8, _)] ⟨rfl, rfl, rfl, rfl, trivial⟩ ?_
                            exact ⟨k - (i + 1), by omega, i + 1, by omega, rfl, hU, hd, rfl⟩
                · try (exfalso; first | (simp at hc8; done) | (simp only [decide_eq_true_eq, decide_eq_false_iff_not, Bool.not_eq_true', Bool.not_eq_false', Bool.not_eq_true, Bool.not_eq_false] at hc8; omega) | omega)
                  all_goals
                    try simp only [decide_eq_true_eq, decide_eq_false_iff_not, Bool.not_eq_true', Bool.not_eq_false', Bool.not_eq_true, Bool.not_eq_false, Option.isNone_none, Option.isNone_some, Option.isSome_none, Option.isSome_some, ne_eq, Decidable.not_not] at hc8
                    obtain rfl : i = k := by omega
                    have hlk : ∀ j : Int, 0 ≤ j → j < 2 → (DA p i i).look j = 12 := fun j h0 h1 => by
                      unfold DS.look lookN DA
                      rw [if_neg (by simp; omega), if_pos (by simp)]
                    have hl0 := hlk 0 (by omega) (by omega)
                    have hl1 := hlk 1 (by omega) (by omega)
                    refine WC.exit ?_
                    refine WX.thenExit ?_
                    refine WX.thenExit ?_
                    refine WX.blockHere ?_
                    refine WX.next ?_
                    refine WC.seq ?_
                    -- region 13 law.go:122
                    refine WC.region ?_
                    refine WL.val rfl rfl rfl rfl (r_move rfl (ev_t rfl)) ?_
                    refine WL.cons (SO.call (Read_bad hd (by rw [hl0]; decide)) rfl body_20 ⟨(ev_t rfl), ev_c, trivial⟩ rfl rfl rfl rfl ?_)
                    rintro v _ ⟨rfl, rfl⟩
                    rw [hl0]
                    refine WL.val rfl rfl rfl rfl (r_move rfl (ev_t rfl)) ?_
                    refine WL.val rfl rfl rfl rfl (r_extract rfl (ev_t rfl) rfl) ?_
                    refine WL.val rfl rfl rfl rfl (r_extract rfl (ev_t rfl) rfl) ?_
                    refine WL.val rfl rfl rfl rfl (r_assign rfl (ev_t rfl)) ?_
                    refine WL.val rfl rfl rfl rfl (r_assign rfl (ev_t rfl)) ?_
                    refine WL.nil ?_
                    refine WX.keep [(1, _), (5, _), (6, _), (11, _)] ⟨rfl, rfl, rfl, rfl, trivial⟩ ?_
                    refine WX.next ?_
                    refine WC.seq ?_
                    -- region 14 law.go:123
                    refine WC.region ?_
                    refine WL.val rfl rfl rfl rfl (r_move rfl (ev_t rfl)) ?_
                    refine WL.val rfl rfl rfl rfl (r_eql rfl (ev_t rfl) ev_c) ?_
                    refine WL.val rfl rfl rfl rfl (r_move rfl (ev_t rfl)) ?_
                    refine WL.cases 61 rfl (fun hb14_2 => ?_) (fun hb14_2 => ?_)
                    · try (exfalso; first | (simp at hb14_2; done) | (simp only [decide_eq_true_eq, decide_eq_false_iff_not, Bool.not_eq_true', Bool.not_eq_false', Bool.not_eq_true, Bool.not_eq_false] at hb14_2; omega) | omega)
                      all_goals
                        try simp only [decide_eq_true_eq, decide_eq_false_iff_not, Bool.not_eq_true', Bool.not_eq_false', Bool.not_eq_true, Bool.not_eq_false, Option.isNone_none, Option.isNone_some, Option.isSome_none, Option.isSome_some, ne_eq, Decidable.not_not] at hb14_2
                        refine WL.val rfl rfl rfl rfl (r_move rfl (ev_t rfl)) ?_
                        refine WL.val rfl rfl rfl rfl (r_move rfl (ev_t rfl)) ?_
                        refine WL.cons (SO.call (Append_bad hd (by rw [hl0]; decide)) rfl body_16 ⟨(ev_t rfl), ev_c, (ev_t rfl), trivial⟩ rfl rfl rfl rfl ?_)
                        rintro v _ ⟨rfl, rfl⟩
                        rw [hl0]
                        refine WL.val rfl rfl rfl rfl (r_eql rfl (ev_t rfl) ev_c) ?_
                        refine WL.val rfl rfl rfl rfl (r_pickT rfl (ev_t rfl) (ev_t rfl)) ?_
                        refine WL.val rfl rfl rfl rfl (r_move rfl (ev_t rfl)) ?_
                        refine WL.cases 67 rfl (fun hb14_8 => ?_) (fun hb14_8 => ?_)
                        · try (exfalso; first | (simp at hb14_8; done) | (simp only [decide_eq_true_eq, decide_eq_false_iff_not, Bool.not_eq_true', Bool.not_eq_false', Bool.not_eq_true, Bool.not_eq_false] at hb14_8; omega) | omega)
                          all_goals
                            try simp only [decide_eq_true_eq, decide_eq_false_iff_not, Bool.not_eq_true', Bool.not_eq_false', Bool.not_eq_true, Bool.not_eq_false, Option.isNone_none, Option.isNone_some, Option.isSome_none, Option.isSome_some, ne_eq, Decidable.not_not] at hb14_8
                            refine WL.val rfl rfl rfl rfl (r_move rfl (ev_t rfl)) ?_
                            refine WL.cons (SO.call (Sync_bad hd (by rw [hl0]; decide)) rfl body_17 ⟨(ev_t rfl), ev_c, trivial⟩ rfl rfl rfl rfl ?_)
                            rintro v _ ⟨rfl, rfl⟩
                            rw [hl0]
                            refine WL.val rfl rfl rfl rfl (r_eql rfl (ev_t rfl) ev_c) ?_
                            refine WL.val rfl rfl rfl rfl (r_pickT rfl (ev_t rfl) (ev_t rfl)) ?_
                            refine WL.val rfl rfl rfl rfl (r_move rfl (ev_t rfl)) ?_
                            refine WL.cases 72 rfl (fun hb14_13 => ?_) (fun hb14_13 => ?_)
                            · try (exfalso; first | (simp at hb14_13; done) | (simp only [decide_eq_true_eq, decide_eq_false_iff_not, Bool.not_eq_true', Bool.not_eq_false', Bool.not_eq_true, Bool.not_eq_false] at hb14_13; omega) | omega)
                              all_goals
                                try simp only [decide_eq_true_eq, decide_eq_false_iff_not, Bool.not_eq_true', Bool.not_eq_false', Bool.not_eq_true, Bool.not_eq_false, Option.isNone_none, Option.isNone_some, Option.isSome_none, Option.isSome_some, ne_eq, Decidable.not_not] at hb14_13
                                refine WL.val rfl rfl rfl rfl (r_move rfl (ev_t rfl)) ?_
                                refine WL.cons (SO.call (Write_bad hd (by rw [hl1]; decide)) rfl body_18 ⟨(ev_t rfl), ev_c, ev_c, trivial⟩ rfl rfl rfl rfl ?_)
                                rintro v _ ⟨rfl, rfl⟩
                                rw [hl1]
                                refine WL.val rfl rfl rfl rfl (r_eql rfl (ev_t rfl) ev_c) ?_
                                refine WL.val rfl rfl rfl rfl (r_pickT rfl (ev_t rfl) (ev_t rfl)) ?_
                                refine WL.val rfl rfl rfl rfl (r_move rfl (ev_t rfl)) ?_
                                refine WL.cases 77 rfl (fun hb14_18 => ?_) (fun hb14_18 => ?_)
                                · try (exfalso; first | (simp at hb14_18; done) | (simp only [decide_eq_true_eq, decide_eq_false_iff_not, Bool.not_eq_true', Bool.not_eq_false', Bool.not_eq_true, Bool.not_eq_false] at hb14_18; omega) | omega)
                                  all_goals
                                    try simp only [decide_eq_true_eq, decide_eq_false_iff_not, Bool.not_eq_true', Bool.not_eq_false', Bool.not_eq_true, Bool.not_eq_false, Option.isNone_none, Option.isNone_some, Option.isSome_none, Option.isSome_some, ne_eq, Decidable.not_not] at hb14_18
                                    refine WL.val rfl rfl rfl rfl (r_move rfl (ev_t rfl)) ?_
                                    refine WL.cons (SO.call (Ops_ok hd) rfl body_23 ⟨(ev_t rfl), trivial⟩ rfl rfl rfl rfl ?_)
                                    rintro v _ ⟨rfl, rfl⟩
                                    rw [show (DA p i i).ops = (i : Int) from rfl]
                                    refine WL.val rfl rfl rfl rfl (r_move rfl (ev_t rfl)) ?_
                                    refine WL.val rfl rfl rfl rfl (r_eql rfl (ev_t rfl) (ev_t rfl)) ?_
                                    refine WL.val rfl rfl rfl rfl (r_pickT rfl (ev_t rfl) (ev_t rfl)) ?_
                                    refine WL.val rfl rfl rfl rfl (r_move rfl (ev_t rfl)) ?_
                                    refine WL.cases 83 rfl (fun hb14_24 => ?_) (fun hb14_24 => ?_)
                                    · try (exfalso; first | (simp at hb14_24; done) | (simp only [decide_eq_true_eq, decide_eq_false_iff_not, Bool.not_eq_true', Bool.not_eq_false', Bool.not_eq_true, Bool.not_eq_false] at hb14_24; omega) | omega)
                                      all_goals
                                        try simp only [decide_eq_true_eq, decide_eq_false_iff_not, Bool.not_eq_true', Bool.not_eq_false', Bool.not_eq_true, Bool.not_eq_false, Option.isNone_none, Option.isNone_some, Option.isSome_none, Option.isSome_some, ne_eq, Decidable.not_not] at hb14_24
                                        refine WL.val rfl rfl rfl rfl (r_move rfl (ev_t rfl)) ?_
                                        refine WL.cons (SO.call (Restart_ok (G := No) (cuts := []) hd (Rd.nil _ _ _) (fun k hk => hk.elim)) rfl body_19 ⟨(ev_t rfl), ev_c, trivial⟩ rfl rfl rfl rfl ?_)
                                        rintro v w13 ⟨rfl, hd, hu13⟩
                                        have hs13 := hu13.size
                                        replace hU := hU.trans hu13 (by first | exact (fun _ _ h => h) | exact (fun _ _ h => h.elim) | (intro k hl hk; (try simp only [At, New, Grow, From, No] at hk ⊢); omega))
                                        refine WL.val rfl rfl rfl rfl (r_eql rfl (ev_t rfl) ev_c) ?_
                                        refine WL.val rfl rfl rfl rfl (r_pickT rfl (ev_t rfl) (ev_t rfl)) ?_
                                        refine WL.val rfl rfl rfl rfl (r_move rfl (ev_t rfl)) ?_
                                        refine WL.cases 88 rfl (fun hb14_29 => ?_) (fun hb14_29 => ?_)
                                        · try (exfalso; first | (simp at hb14_29; done) | (simp only [decide_eq_true_eq, decide_eq_false_iff_not, Bool.not_eq_true', Bool.not_eq_false', Bool.not_eq_true, Bool.not_eq_false] at hb14_29; omega) | omega)
                                          all_goals
                                            try simp only [decide_eq_true_eq, decide_eq_false_iff_not, Bool.not_eq_true', Bool.not_eq_false', Bool.not_eq_true, Bool.not_eq_false, Option.isNone_none, Option.isNone_some, Option.isSome_none, Option.isSome_some, ne_eq, Decidable.not_not] at hb14_29
                                            refine WL.val rfl rfl rfl rfl (r_move rfl (ev_t rfl)) ?_
                                            refine WL.cons (SO.call (On_ok hd) rfl body_22 ⟨(ev_t rfl), trivial⟩ rfl rfl rfl rfl ?_)
                                            rintro v _ ⟨rfl, rfl⟩
                                            rw [show ((DA p i i).restart []).off = false from rfl]
                                            refine WL.val rfl rfl rfl rfl (r_pickT rfl (ev_t rfl) (ev_t rfl)) ?_
                                            refine WL.val rfl rfl rfl rfl (r_assign rfl (ev_t rfl)) ?_
                                            refine WL.nil ?_
                                            refine WX.keep [(4, _)] ⟨rfl, trivial⟩ ?_
                                            refine WX.next ?_
                                            refine WC.ret ?_
                                            refine WX.retE1 rfl rfl ?_
                                            exact ⟨rfl, hU⟩
                                        · try (exfalso; first | (simp at hb14_29; done) | (simp only [decide_eq_true_eq, decide_eq_false_iff_not, Bool.not_eq_true', Bool.not_eq_false', Bool.not_eq_true, Bool.not_eq_false] at hb14_29; omega) | omega)
                                          all_goals
                                            try simp only [decide_eq_true_eq, decide_eq_false_iff_not, Bool.not_eq_true', Bool.not_eq_false', Bool.not_eq_true, Bool.not_eq_false, Option.isNone_none, Option.isNone_some, Option.isSome_none, Option.isSome_some, ne_eq, Decidable.not_not] at hb14_29
                                            refine WL.skip rfl rfl rfl ?_
                                            refine WL.skip rfl rfl rfl ?_
                                            refine WL.val rfl rfl rfl rfl (r_pickF rfl (ev_t rfl) ev_c) ?_
                                            refine WL.val rfl rfl rfl rfl (r_assign rfl (ev_t rfl)) ?_
                                            refine WL.nil ?_
                                            refine WX.keep [(4, _)] ⟨rfl, trivial⟩ ?_
                                            refine WX.next ?_
                                            refine WC.ret ?_
                                            refine WX.retE1 rfl rfl ?_
                                            exact ⟨rfl, hU⟩
                                    · try (exfalso; first | (simp at hb14_24; done) | (simp only [decide_eq_true_eq, decide_eq_false_iff_not, Bool.not_eq_true', Bool.not_eq_false', Bool.not_eq_true, Bool.not_eq_false] at hb14_24; omega) | omega)
                                      all_goals
                                        try simp only [decide_eq_true_eq, decide_eq_false_iff_not, Bool.not_eq_true', Bool.not_eq_false', Bool.not_eq_true, Bool.not_eq_false, Option.isNone_none, Option.isNone_some, Option.isSome_none, Option.isSome_some, ne_eq, Decidable.not_not] at hb14_24
                                        refine WL.skip rfl rfl rfl ?_
                                        refine WL.skip rfl rfl rfl ?_
                                        refine WL.skip rfl rfl rfl ?_
                                        refine WL.val rfl rfl rfl rfl (r_pickF rfl (ev_t rfl) ev_c) ?_
                                        refine WL.val rfl rfl rfl rfl (r_move rfl (ev_t rfl)) ?_
                                        refine WL.skip rfl rfl rfl ?_
                                        refine WL.skip rfl rfl rfl ?_
                                        refine WL.val rfl rfl rfl rfl (r_pickF rfl (ev_t rfl) ev_c) ?_
                                        refine WL.val rfl rfl rfl rfl (r_assign rfl (ev_t rfl)) ?_
                                        refine WL.nil ?_
                                        refine WX.keep [(4, _)] ⟨rfl, trivial⟩ ?_
                                        refine WX.next ?_
                                        refine WC.ret ?_
                                        refine WX.retE1 rfl rfl ?_
                                        exact ⟨rfl, hU⟩
                                · try (exfalso; first | (simp at hb14_18; done) | (simp only [decide_eq_true_eq, decide_eq_false_iff_not, Bool.not_eq_true', Bool.not_eq_false', Bool.not_eq_true, Bool.not_eq_false] at hb14_18; omega) | omega)
                                  all_goals
                                    try simp only [decide_eq_true_eq, decide_eq_false_iff_not, Bool.not_eq_true', Bool.not_eq_false', Bool.not_eq_true, Bool.not_eq_false, Option.isNone_none, Option.isNone_some, Option.isSome_none, Option.isSome_some, ne_eq, Decidable.not_not] at hb14_18
                                    refine WL.skip rfl rfl rfl ?_
                                    refine WL.skip rfl rfl rfl ?_
                                    refine WL.skip rfl rfl rfl ?_
                                    refine WL.skip rfl rfl rfl ?_
                                    refine WL.val rfl rfl rfl rfl (r_pickF rfl (ev_t rfl) ev_c) ?_
                                    refine WL.val rfl rfl rfl rfl (r_move rfl (ev_t rfl)) ?_
                                    refine WL.skip rfl rfl rfl ?_
                                    refine WL.skip rfl rfl rfl ?_
                                    refine WL.skip rfl rfl rfl ?_
                                    refine WL.val rfl rfl rfl rfl (r_pickF rfl (ev_t rfl) ev_c) ?_
                                    refine WL.val rfl rfl rfl rfl (r_move rfl (ev_t rfl)) ?_
                                    refine WL.skip rfl rfl rfl ?_
                                    refine WL.skip rfl rfl rfl ?_
                                    refine WL.val rfl rfl rfl rfl (r_pickF rfl (ev_t rfl) ev_c) ?_
                                    refine WL.val rfl rfl rfl rfl (r_assign rfl (ev_t rfl)) ?_
                                    refine WL.nil ?_
                                    refine WX.keep [(4, _)] ⟨rfl, trivial⟩ ?_
                                    refine WX.next ?_
                                    refine WC.ret ?_
                                    refine WX.retE1 rfl rfl ?_
                                    exact ⟨rfl, hU⟩
                            · try (exfalso; first | (simp at hb14_13; done) | (simp only [decide_eq_true_eq, decide_eq_false_iff_not, Bool.not_eq_true', Bool.not_eq_false', Bool.not_eq_true, Bool.not_eq_false] at hb14_13; omega) | omega)
                              all_goals
                                try simp only [decide_eq_true_eq, decide_eq_false_iff_not, Bool.not_eq_true', Bool.not_eq_false', Bool.not_eq_true, Bool.not_eq_false, Option.isNone_none, Option.isNone_some, Option.isSome_none, Option.isSome_some, ne_eq, Decidable.not_not] at hb14_13
                                refine WL.skip rfl rfl rfl ?_
                                refine WL.skip rfl rfl rfl ?_
                                refine WL.skip rfl rfl rfl ?_
                                refine WL.val rfl rfl rfl rfl (r_pickF rfl (ev_t rfl) ev_c) ?_
                                refine WL.val rfl rfl rfl rfl (r_move rfl (ev_t rfl)) ?_
                                refine WL.skip rfl rfl rfl ?_
                                refine WL.skip rfl rfl rfl ?_
                                refine WL.skip rfl rfl rfl ?_
                                refine WL.skip rfl rfl rfl ?_
                                refine WL.val rfl rfl rfl rfl (r_pickF rfl (ev_t rfl) ev_c) ?_
                                refine WL.val rfl rfl rfl rfl (r_move rfl (ev_t rfl)) ?_
                                refine WL.skip rfl rfl rfl ?_
                                refine WL.skip rfl rfl rfl ?_
                                refine WL.skip rfl rfl rfl ?_
                                refine WL.val rfl rfl rfl rfl (r_pickF rfl (ev_t rfl) ev_c) ?_
                                refine WL.val rfl rfl rfl rfl (r_move rfl (ev_t rfl)) ?_
                                refine WL.skip rfl rfl rfl ?_
                                refine WL.skip rfl rfl rfl ?_
                                refine WL.val rfl rfl rfl rfl (r_pickF rfl (ev_t rfl) ev_c) ?_
                                refine WL.val rfl rfl rfl rfl (r_assign rfl (ev_t rfl)) ?_
                                refine WL.nil ?_
                                refine WX.keep [(4, _)] ⟨rfl, trivial⟩ ?_
                                refine WX.next ?_
                                refine WC.ret ?_
                                refine WX.retE1 rfl rfl ?_
                                exact ⟨rfl, hU⟩
                        · try (exfalso; first | (simp at hb14_8; done) | (simp only [decide_eq_true_eq, decide_eq_false_iff_not, Bool.not_eq_true', Bool.not_eq_false', Bool.not_eq_true, Bool.not_eq_false] at hb14_8; omega) | omega)
                          all_goals
                            try simp only [decide_eq_true_eq, decide_eq_false_iff_not, Bool.not_eq_true', Bool.not_eq_false', Bool.not_eq_true, Bool.not_eq_false, Option.isNone_none, Option.isNone_some, Option.isSome_none, Option.isSome_some, ne_eq, Decidable.not_not] at hb14_8
                            refine WL.skip rfl rfl rfl ?_
                            refine WL.skip rfl rfl rfl ?_
                            refine WL.skip rfl rfl rfl ?_
                            refine WL.val rfl rfl rfl rfl (r_pickF rfl (ev_t rfl) ev_c) ?_
                            refine WL.val rfl rfl rfl rfl (r_move rfl (ev_t rfl)) ?_
                            refine WL.skip rfl rfl rfl ?_
                            refine WL.skip rfl rfl rfl ?_
                            refine WL.skip rfl rfl rfl ?_
                            refine WL.val rfl rfl rfl rfl (r_pickF rfl (ev_t rfl) ev_c) ?_
                            refine WL.val rfl rfl rfl rfl (r_move rfl (ev_t rfl)) ?_
                            refine WL.skip rfl rfl rfl ?_
                            refine WL.skip rfl rfl rfl ?_
                            refine WL.skip rfl rfl rfl ?_
                            refine WL.skip rfl rfl rfl ?_
                            refine WL.val rfl rfl rfl rfl (r_pickF rfl (ev_t rfl) ev_c) ?_
                            refine WL.val rfl rfl rfl rfl (r_move rfl (ev_t rfl)) ?_
                            refine WL.skip rfl rfl rfl ?_
                            refine WL.skip rfl rfl rfl ?_
                            refine WL.skip rfl rfl rfl ?_
                            refine WL.val rfl rfl rfl rfl (r_pickF rfl (ev_t rfl) ev_c) ?_
                            refine WL.val rfl rfl rfl rfl (r_move rfl (ev_t rfl)) ?_
                            refine WL.skip rfl rfl rfl ?_
                            refine WL.skip rfl rfl rfl ?_
                            refine WL.val rfl rfl rfl rfl (r_pickF rfl (ev_t rfl) ev_c) ?_
                            refine WL.val rfl rfl rfl rfl (r_assign rfl (ev_t rfl)) ?_
                            refine WL.nil ?_
                            refine WX.keep [(4, _)] ⟨rfl, trivial⟩ ?_
                            refine WX.next ?_
                            refine WC.ret ?_
                            refine WX.retE1 rfl rfl ?_
                            exact ⟨rfl, hU⟩
                    · try (exfalso; first | (simp at hb14_2; done) | (simp only [decide_eq_true_eq, decide_eq_false_iff_not, Bool.not_eq_true', Bool.not_eq_false', Bool.not_eq_true, Bool.not_eq_false] at hb14_2; omega) | omega)
                      all_goals
                        try simp only [decide_eq_true_eq, decide_eq_false_iff_not, Bool.not_eq_true', Bool.not_eq_false', Bool.not_eq_true, Bool.not_eq_false, Option.isNone_none, Option.isNone_some, Option.isSome_none, Option.isSome_some, ne_eq, Decidable.not_not] at hb14_2
                        refine WL.skip rfl rfl rfl ?_
                        refine WL.skip rfl rfl rfl ?_
                        refine WL.skip rfl rfl rfl ?_
                        refine WL.skip rfl rfl rfl ?_
                        refine WL.val rfl rfl rfl rfl (r_pickF rfl (ev_t rfl) ev_c) ?_
                        refine WL.val rfl rfl rfl rfl (r_move rfl (ev_t rfl)) ?_
                        refine WL.skip rfl rfl rfl ?_
                        refine WL.skip rfl rfl rfl ?_
                        refine WL.skip rfl rfl rfl ?_
                        refine WL.val rfl rfl rfl rfl (r_pickF rfl (ev_t rfl) ev_c) ?_
                        refine WL.val rfl rfl rfl rfl (r_move rfl (ev_t rfl)) ?_
                        refine WL.skip rfl rfl rfl ?_
                        refine WL.skip rfl rfl rfl ?_
                        refine WL.skip rfl rfl rfl ?_
                        refine WL.val rfl rfl rfl rfl (r_pickF rfl (ev_t rfl) ev_c) ?_
                        refine WL.val rfl rfl rfl rfl (r_move rfl (ev_t rfl)) ?_
                        refine WL.skip rfl rfl rfl ?_
                        refine WL.skip rfl rfl rfl ?_
                        refine WL.skip rfl rfl rfl ?_
                        refine WL.skip rfl rfl rfl ?_
                        refine WL.val rfl rfl rfl rfl (r_pickF rfl (ev_t rfl) ev_c) ?_
                        refine WL.val rfl rfl rfl rfl (r_move rfl (ev_t rfl)) ?_
                        refine WL.skip rfl rfl rfl ?_
                        refine WL.skip rfl rfl rfl ?_
                        refine WL.skip rfl rfl rfl ?_
                        refine WL.val rfl rfl rfl rfl (r_pickF rfl (ev_t rfl) ev_c) ?_
                        refine WL.val rfl rfl rfl rfl (r_move rfl (ev_t rfl)) ?_
                        refine WL.skip rfl rfl rfl ?_
                        refine WL.skip rfl rfl rfl ?_
                        refine WL.val rfl rfl rfl rfl (r_pickF rfl (ev_t rfl) ev_c) ?_
                        refine WL.val rfl rfl rfl rfl (r_assign rfl (ev_t rfl)) ?_
                        refine WL.nil ?_
                        refine WX.keep [(4, _)] ⟨rfl, trivial⟩ ?_
                        refine WX.next ?_
                        refine WC.ret ?_
                        refine WX.retE1 rfl rfl ?_
                        exact ⟨rfl, hU⟩
end Go.Proofs.Ytejlmcdmoghmaaa
