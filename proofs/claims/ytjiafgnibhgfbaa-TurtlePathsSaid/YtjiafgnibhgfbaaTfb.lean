/-
  Moves four times; moves and back: the walks.
-/
import Derived.Test.YtjiafgnibhgfbaaTjf
namespace Go.Proofs.Ytjiafgnibhgfbaa
open Go
set_option linter.unusedSimpArgs false
set_option linter.unusedVariables false

theorem turnsOf_take {l : List Mv} {i : Nat} {m : Mv} (h : l[i]? = some m) : turnsOf (l.take (i + 1)) = turnsOf (l.take i) + (if m.1 = true then m.2 else 0) := by
  rw [List.take_add_one, h, turnsOf_append]
  simp [turnsOf]
/-- some moves, over and over -/
def timesM (b : List Mv) (n : Nat) : List Mv := (List.replicate n b).flatten
theorem timesM_succ (b : List Mv) (n : Nat) : timesM b (n + 1) = timesM b n ++ b := by
  unfold timesM
  rw [List.replicate_succ', List.flatten_append]
  simp
theorem timesM_len (b : List Mv) (n : Nat) : (timesM b n).length = n * b.length := by
  simp [timesM, List.length_flatten, List.map_replicate, List.sum_replicate_nat]
theorem closed_of {l A out : List Mv × List (Int × Int)} {q : List Mv} {o A' : List (Int × Int)} {lk : Int × Int} (h : pathR q = (o, lk, 0)) (ho : o = A' ++ [(0, 0)]) : closedR q = true := by
  unfold closedR
  rw [h]
  refine decide_eq_true ⟨rfl, ?_⟩
  rw [ho]
  simp

set_option maxHeartbeats 1000000 in
theorem turtleFours.walk {w : World} {lv : Value} {len : Nat} {l : List Mv} (hr : Rd w (fun k => k < w.heap.size) lv len 2 (movC l)) (hN : ∀ m ∈ l, inK .i64 m.2) :
    Ret Try.prog 8 #[lv] w fun v w' => v = .bool true ∧ Upd No w w' := by
  obtain ⟨f0, f1, hpair⟩ := pairPlace
  have hsl := smallM_len l
  have hsm := smallM_mem (l := l)
  have htb := turnsOf_bound hsm
  obtain ⟨out, A, hp, hA⟩ := fours_eq (m := smallM l) hsm (by omega) rfl
  have hcl := closed_of (l := ([], [])) (A := ([], [])) (out := ([], [])) hp hA
  rw [show smallM l ++ [(true, 1 - turnsOf (smallM l))] ++ (smallM l ++ [(true, 1 - turnsOf (smallM l))]) ++ (smallM l ++ [(true, 1 - turnsOf (smallM l))]) ++ (smallM l ++ [(true, 1 - turnsOf (smallM l))]) = timesM (smallM l ++ [(true, 1 - turnsOf (smallM l))]) 4 by simp [timesM]] at hp hcl
  refine enterRet (vs := [_]) (N := 61) Try.func8 rfl rfl rfl ?_
  have hU := Upd.refl No w
  refine WC.keep [(0, _)] ⟨rfl, trivial⟩ ?_
  refine WC.seq ?_
  -- region 0 law.go:79
  refine WC.region ?_
  refine WL.val rfl rfl rfl rfl (r_assign rfl ev_c) ?_
  refine WL.nil ?_
  refine WX.keep [(0, _)] ⟨rfl, trivial⟩ ?_
  refine WX.next ?_
  refine WC.seq ?_
  refine WC.seq ?_
  -- region 1 law.go:80
  refine WC.region ?_
  refine WL.cons (SO.call (awake2_ok _) rfl body_16 trivial rfl rfl rfl rfl ?_)
  rintro v w1 ⟨rfl, hu1⟩
  have hs1 := hu1.size
  replace hU := hU.trans hu1 (by first | exact (fun _ _ h => h) | exact (fun _ _ h => h.elim) | (intro k hl hk; (try simp only [At, New, Grow, From, No] at hk ⊢); omega))
  replace hr := hr.upd hu1 (by first | exact (fun _ _ _ h => h) | (intro k hk hl hS; have : k < w.heap.size := hk; simp only [At, New, Grow, From, No] at hS; omega))
  refine WL.val rfl rfl rfl rfl (r_not rfl (ev_t rfl)) ?_
  refine WL.nil ?_
  refine WX.keep [(0, _), (11, _)] ⟨rfl, rfl, trivial⟩ ?_
  refine WX.next ?_
  refine WC.cond rfl (ev_t rfl) (fun hc1 => ?_) (fun hc1 => ?_)
  · try (exfalso; first | (simp at hc1; done) | (simp only [decide_eq_true_eq, decide_eq_false_iff_not, Bool.not_eq_true', Bool.not_eq_false', Bool.not_eq_true, Bool.not_eq_false] at hc1; omega) | omega)
    all_goals
      try simp only [decide_eq_true_eq, decide_eq_false_iff_not, Bool.not_eq_true', Bool.not_eq_false', Bool.not_eq_true, Bool.not_eq_false, Option.isNone_none, Option.isNone_some, Option.isSome_none, Option.isSome_some, ne_eq, Decidable.not_not] at hc1
      refine WC.seq ?_
      -- region 2 law.go:81
      refine WC.region ?_
      refine WL.val rfl rfl rfl rfl (r_assign rfl ev_c) ?_
      refine WL.nil ?_
      refine WX.keep [(2, _)] ⟨rfl, trivial⟩ ?_
      refine WX.next ?_
      refine WC.ret ?_
      refine WX.thenRet ?_
      refine WX.retE1 rfl rfl ?_
      first
        | exact ⟨rfl, hU⟩
        | exact ⟨by simp, hU⟩
  · try (exfalso; first | (simp at hc1; done) | (simp only [decide_eq_true_eq, decide_eq_false_iff_not, Bool.not_eq_true', Bool.not_eq_false', Bool.not_eq_true, Bool.not_eq_false] at hc1; omega) | omega)
    all_goals
      try simp only [decide_eq_true_eq, decide_eq_false_iff_not, Bool.not_eq_true', Bool.not_eq_false', Bool.not_eq_true, Bool.not_eq_false, Option.isNone_none, Option.isNone_some, Option.isSome_none, Option.isSome_some, ne_eq, Decidable.not_not] at hc1
      refine WC.skip ?_
      refine WX.next ?_
      refine WC.seq ?_
      -- region 3 law.go:83
      refine WC.region ?_
      refine WL.val rfl rfl rfl rfl (r_move rfl (ev_t rfl)) ?_
      refine WL.cons (SO.call (small_ok hr hN) rfl body_17 ⟨(ev_t rfl), trivial⟩ rfl rfl rfl rfl ?_)
      rintro v1 w2 ⟨hm, hu2⟩
      have hs2 := hu2.size
      replace hU := hU.trans hu2 (by first | exact (fun _ _ h => h) | exact (fun _ _ h => h.elim) | (intro k hl hk; (try simp only [At, New, Grow, From, No] at hk ⊢); omega))
      replace hr := hr.upd hu2 (by first | exact (fun _ _ _ h => h) | (intro k hk hl hS; have : k < w.heap.size := hk; simp only [At, New, Grow, From, No] at hS; omega))
      obtain ⟨A2, c2, rfl, hc2⟩ := Own.form hm
      generalize hme : smallM l = m at *
      generalize hte : turnsOf m = tt at *
      refine WL.val rfl rfl rfl rfl (r_assign rfl (ev_t rfl)) ?_
      refine WL.nil ?_
      refine WX.keep [(3, _)] ⟨rfl, trivial⟩ ?_
      refine WX.next ?_
      refine WC.seq ?_
      -- region 4 law.go:84
      refine WC.region ?_
      refine WL.val rfl rfl rfl rfl (r_assign rfl ev_c) ?_
      refine WL.nil ?_
      refine WX.keep [(3, _), (4, _)] ⟨rfl, rfl, trivial⟩ ?_
      refine WX.next ?_
      refine WC.seq ?_
      refine WC.seq ?_
      -- region 5 law.go:85
      refine WC.region ?_
      refine WL.val rfl rfl rfl rfl (r_assign rfl ev_c) ?_
      refine WL.nil ?_
      refine WX.keep [(3, _), (4, _), (5, _)] ⟨rfl, rfl, rfl, trivial⟩ ?_
      refine WX.next ?_
      refine WC.block ?_
      -- loop 1: live [3, 4, 5]
      refine WC.keep [(3, _), (4, _), (5, _)] ⟨rfl, rfl, rfl, trivial⟩ ?_
      refine WC.loop (fun q E w' => ∃ (i : Nat) (z : Int), i ≤ m.length ∧ q = m.length - i ∧ z = turnsOf (m.take i) ∧ z.natAbs ≤ 1000 * i ∧ w2 = w' ∧ E = [(3, .slice A2 m.length c2), (4, .int .i64 z), (5, .int .i64 (i : Int))]) (m.length) ?_ ?_
      · exact ⟨0, 0, by omega, by omega, rfl, by decide, rfl, rfl⟩
      · rintro q E w' ⟨i, z, hi, rfl, hz, hzb, rfl, rfl⟩
        refine WC.seq ?_
        refine WC.seq ?_
        -- region 6 law.go:85
        refine WC.region ?_
        refine WL.val rfl rfl rfl rfl (r_move rfl (ev_t rfl)) ?_
        refine WL.val rfl rfl rfl rfl (r_move rfl (ev_t rfl)) ?_
        refine WL.val rfl rfl rfl rfl (r_lenSlice (ts := #[]) rfl (ev_t rfl) elem_22) ?_
        refine WL.val rfl rfl rfl rfl (r_lss rfl (ev_t rfl) (ev_t rfl)) ?_
        refine WL.nil ?_
        refine WX.keep [(3, _), (4, _), (5, _), (17, _)] ⟨rfl, rfl, rfl, rfl, trivial⟩ ?_
        refine WX.next ?_
        refine WC.cond rfl (ev_t rfl) (fun hc6 => ?_) (fun hc6 => ?_)
        · try (exfalso; first | (simp at hc6; done) | (simp only [decide_eq_true_eq, decide_eq_false_iff_not, Bool.not_eq_true', Bool.not_eq_false', Bool.not_eq_true, Bool.not_eq_false] at hc6; omega) | omega)
          all_goals
            try simp only [decide_eq_true_eq, decide_eq_false_iff_not, Bool.not_eq_true', Bool.not_eq_false', Bool.not_eq_true, Bool.not_eq_false, Option.isNone_none, Option.isNone_some, Option.isSome_none, Option.isSome_some, ne_eq, Decidable.not_not] at hc6
            have hi' : i < m.length := by omega
            obtain ⟨b, off, rfl, _⟩ := (hm.rd (by omega)).open (by omega)
            have hg := List.getElem?_eq_getElem hi'
            have hcm := movC_get hg
            have hms := hsm _ (List.getElem_mem hi')
            have htk := turnsOf_take hg
            generalize m[i] = x at *
            refine WC.skip ?_
            refine WX.next ?_
            refine WC.seq ?_
            refine WC.block ?_
            refine WC.seq ?_
            -- region 8 law.go:86
            refine WC.region ?_
            refine WL.val rfl rfl rfl rfl (r_move rfl (ev_t rfl)) ?_
            refine WL.val rfl rfl rfl rfl (r_move rfl (ev_t rfl)) ?_
            refine WL.val rfl rfl rfl rfl (r_indexAddr rfl (ev_t rfl) (ev_t rfl) elem_22 size_26 (by omega) (by omega)) ?_
            first | refine WL.val rfl rfl rfl rfl (r_field0 rfl (ev_t rfl) fld_26_0) ?_ | refine WL.val rfl rfl rfl rfl (r_fieldAt rfl (ev_t rfl) fld_26_0) ?_
            refine WL.val rfl rfl rfl rfl (r_load rfl (ev_t rfl) flat_4 ((hm.rd (by omega)).cell (j := i * 2) (by omega) hcm.1)) ?_
            refine WL.nil ?_
            refine WX.keep [(3, _), (4, _), (5, _), (24, _)] ⟨rfl, rfl, rfl, rfl, trivial⟩ ?_
            refine WX.next ?_
            refine WC.cond rfl (ev_t rfl) (fun hc8 => ?_) (fun hc8 => ?_)
            · try (exfalso; first | (simp at hc8; done) | (simp only [decide_eq_true_eq, decide_eq_false_iff_not, Bool.not_eq_true', Bool.not_eq_false', Bool.not_eq_true, Bool.not_eq_false] at hc8; omega) | omega)
              all_goals
                try simp only [decide_eq_true_eq, decide_eq_false_iff_not, Bool.not_eq_true', Bool.not_eq_false', Bool.not_eq_true, Bool.not_eq_false, Option.isNone_none, Option.isNone_some, Option.isSome_none, Option.isSome_some, ne_eq, Decidable.not_not] at hc8
                rw [if_pos hc8] at htk
                -- region 9 law.go:87
                refine WC.region ?_
                refine WL.val rfl rfl rfl rfl (r_move rfl (ev_t rfl)) ?_
                refine WL.val rfl rfl rfl rfl (r_move rfl (ev_t rfl)) ?_
                refine WL.val rfl rfl rfl rfl (r_move rfl (ev_t rfl)) ?_
                refine WL.val rfl rfl rfl rfl (r_indexAddr rfl (ev_t rfl) (ev_t rfl) elem_22 size_26 (by omega) (by omega)) ?_
                first | refine WL.val rfl rfl rfl rfl (r_field0 rfl (ev_t rfl) fld_26_1) ?_ | refine WL.val rfl rfl rfl rfl (r_fieldAt rfl (ev_t rfl) fld_26_1) ?_
                refine WL.val rfl rfl rfl rfl (r_load rfl (ev_t rfl) flat_2 ((hm.rd (by omega)).cell (j := i * 2 + 1) (by omega) hcm.2)) ?_
                first | refine WL.val rfl rfl rfl rfl (r_addN rfl (ev_t rfl) (ev_t rfl) (by simp only [inK]; omega)) ?_ | refine WL.val rfl rfl rfl rfl (r_add rfl (ev_t rfl) (ev_t rfl)) ?_
                refine WL.val rfl rfl rfl rfl (r_assign rfl (ev_t rfl)) ?_
                refine WL.nil ?_
                refine WX.keep [(3, _), (4, _), (5, _)] ⟨rfl, rfl, rfl, trivial⟩ ?_
                refine WX.blockNormal ?_
                refine WX.next ?_
                -- region 7 law.go:85
                refine WC.region ?_
                refine WL.val rfl rfl rfl rfl (r_move rfl (ev_t rfl)) ?_
                first | refine WL.val rfl rfl rfl rfl (r_addN rfl (ev_t rfl) ev_c (by simp only [inK]; omega)) ?_ | refine WL.val rfl rfl rfl rfl (r_add rfl (ev_t rfl) ev_c) ?_
                refine WL.val rfl rfl rfl rfl (r_assign rfl (ev_t rfl)) ?_
                refine WL.nil ?_
                refine WX.keep [(3, _), (4, _), (5, _)] ⟨rfl, rfl, rfl, trivial⟩ ?_
                refine WX.meet [(3, _), (4, _), (5, _)] ⟨rfl, rfl, rfl, trivial⟩ ?_
                exact ⟨m.length - (i + 1), by omega, i + 1, _, by omega, rfl, by omega, by omega, rfl, rfl⟩
            · try (exfalso; first | (simp at hc8; done) | (simp only [decide_eq_true_eq, decide_eq_false_iff_not, Bool.not_eq_true', Bool.not_eq_false', Bool.not_eq_true, Bool.not_eq_false] at hc8; omega) | omega)
              all_goals
                try simp only [decide_eq_true_eq, decide_eq_false_iff_not, Bool.not_eq_true', Bool.not_eq_false', Bool.not_eq_true, Bool.not_eq_false, Option.isNone_none, Option.isNone_some, Option.isSome_none, Option.isSome_some, ne_eq, Decidable.not_not] at hc8
                rw [if_neg (by rw [hc8]; simp)] at htk
                refine WC.skip ?_
                refine WX.blockNormal ?_
                refine WX.next ?_
                -- region 7 law.go:85
                refine WC.region ?_
                refine WL.val rfl rfl rfl rfl (r_move rfl (ev_t rfl)) ?_
                first | refine WL.val rfl rfl rfl rfl (r_addN rfl (ev_t rfl) ev_c (by simp only [inK]; omega)) ?_ | refine WL.val rfl rfl rfl rfl (r_add rfl (ev_t rfl) ev_c) ?_
                refine WL.val rfl rfl rfl rfl (r_assign rfl (ev_t rfl)) ?_
                refine WL.nil ?_
                refine WX.keep [(3, _), (4, _), (5, _)] ⟨rfl, rfl, rfl, trivial⟩ ?_
                refine WX.meet [(3, _), (4, _), (5, _)] ⟨rfl, rfl, rfl, trivial⟩ ?_
                exact ⟨m.length - (i + 1), by omega, i + 1, _, by omega, rfl, by omega, by omega, rfl, rfl⟩
        · try (exfalso; first | (simp at hc6; done) | (simp only [decide_eq_true_eq, decide_eq_false_iff_not, Bool.not_eq_true', Bool.not_eq_false', Bool.not_eq_true, Bool.not_eq_false] at hc6; omega) | omega)
          all_goals
            try simp only [decide_eq_true_eq, decide_eq_false_iff_not, Bool.not_eq_true', Bool.not_eq_false', Bool.not_eq_true, Bool.not_eq_false, Option.isNone_none, Option.isNone_some, Option.isSome_none, Option.isSome_some, ne_eq, Decidable.not_not] at hc6
            obtain rfl : i = m.length := by omega
            rw [List.take_length, hte] at hz
            subst hz
            refine WC.exit ?_
            refine WX.thenExit ?_
            refine WX.thenExit ?_
            refine WX.blockHere ?_
            refine WX.next ?_
            refine WC.seq ?_
            -- region 10 law.go:90
            refine WC.region ?_
            refine WL.val rfl rfl rfl rfl (r_assign rfl ev_c) ?_
            refine WL.nil ?_
            refine WX.keep [(3, _), (4, _), (6, _)] ⟨rfl, rfl, rfl, trivial⟩ ?_
            refine WX.next ?_
            refine WC.seq ?_
            refine WC.seq ?_
            -- region 11 law.go:91
            refine WC.region ?_
            refine WL.val rfl rfl rfl rfl (r_assign rfl ev_c) ?_
            refine WL.nil ?_
            refine WX.keep [(3, _), (4, _), (6, _), (7, _)] ⟨rfl, rfl, rfl, rfl, trivial⟩ ?_
            refine WX.next ?_
            refine WC.block ?_
            -- loop 2: live [3, 4, 6, 7]
            refine WC.keep [(3, _), (4, _), (6, _), (7, _)] ⟨rfl, rfl, rfl, rfl, trivial⟩ ?_
            refine WC.loop (fun q E w' => ∃ (i : Nat) (A7 : Option Addr) (L c7 : Nat), i ≤ 4 ∧ q = 4 - i ∧ L = (timesM (m ++ [(true, 1 - z)]) i).length ∧ Upd No w w' ∧ w2.heap.size ≤ w'.heap.size ∧ Own w' (New w1 w2) 26 2 (.slice A2 m.length c2) m.length (movC m) ∧ Own w' (New w2 w') 26 2 (.slice A7 L c7) L (movC (timesM (m ++ [(true, 1 - z)]) i)) ∧   E = [(3, .slice A2 m.length c2), (4, .int .i64 z), (6, .slice A7 L c7), (7, .int .i64 (i : Int))]) (4) ?_ ?_
            · exact ⟨0, none, 0, 0, by omega, by omega, rfl, hU, by omega, hm, Own.nil _ _ _ _, rfl⟩
            · rintro q E w' ⟨i, A7, L, c7, hi, rfl, hL, hU, hw2, hm, hq, rfl⟩
              have hs0 := hU.size
              have hLn := timesM_len (m ++ [(true, 1 - z)]) i
              rw [← hL, List.length_append, List.length_singleton] at hLn
              have hLb : L ≤ 4 * (m.length + 1) := by rw [hLn]; exact Nat.mul_le_mul_right _ (by omega)
              refine WC.seq ?_
              refine WC.seq ?_
              -- region 12 law.go:91
              refine WC.region ?_
              refine WL.val rfl rfl rfl rfl (r_move rfl (ev_t rfl)) ?_
              refine WL.val rfl rfl rfl rfl (r_lss rfl (ev_t rfl) ev_c) ?_
              refine WL.nil ?_
              refine WX.keep [(3, _), (4, _), (6, _), (7, _), (33, _)] ⟨rfl, rfl, rfl, rfl, rfl, trivial⟩ ?_
              refine WX.next ?_
              refine WC.cond rfl (ev_t rfl) (fun hc12 => ?_) (fun hc12 => ?_)
              · try (exfalso; first | (simp at hc12; done) | (simp only [decide_eq_true_eq, decide_eq_false_iff_not, Bool.not_eq_true', Bool.not_eq_false', Bool.not_eq_true, Bool.not_eq_false] at hc12; omega) | omega)
                all_goals
                  try simp only [decide_eq_true_eq, decide_eq_false_iff_not, Bool.not_eq_true', Bool.not_eq_false', Bool.not_eq_true, Bool.not_eq_false, Option.isNone_none, Option.isNone_some, Option.isSome_none, Option.isSome_some, ne_eq, Decidable.not_not] at hc12
                  refine WC.skip ?_
                  refine WX.next ?_
                  refine WC.seq ?_
                  refine WC.block ?_
                  refine WC.seq ?_
                  -- region 14 law.go:92
                  refine WC.region ?_
                  refine WL.val rfl rfl rfl rfl (r_move rfl (ev_t rfl)) ?_
                  refine WL.val rfl rfl rfl rfl (r_move rfl (ev_t rfl)) ?_
                  refine WL.cons (SO.append hq (hm.rd (by omega)) row_22 (oneCell_mov _) (le_maxLen (by omega)) (by omega) rfl (ev_t rfl) (ev_t rfl) rfl rfl rfl rfl ?_)
                  intro v3 w3 hq hu3
                  have hs3 := hu3.size
                  replace hU := hU.trans hu3 (by first | exact (fun _ _ h => h) | exact (fun _ _ h => h.elim) | (intro k hl hk; (try simp only [At, New, Grow, From, No] at hk ⊢); omega))
                  replace hm := hm.upd hu3 (by first | (with_reducible assumption) | exact (fun h => h) | exact (fun _ _ _ h => h) | (simp only [At]; omega) | (simp only [At, New, Grow, From, No]; omega) | (intro k hk hl hS; simp only [At] at hS; subst hS; contradiction) | (intro k hk hl hS; simp only [At] at hS; subst hS; exact Grow.old (by omega) (by assumption) hk) | (intro k hk hl hS; (try simp only [At, From, No, Grow, New] at hk hS); omega))
                  obtain ⟨A3, c3, rfl, hc3⟩ := Own.form hq
                  refine WL.val rfl rfl rfl rfl (r_assign rfl (ev_t rfl)) ?_
                  refine WL.nil ?_
                  refine WX.keep [(3, _), (4, _), (6, _), (7, _)] ⟨rfl, rfl, rfl, rfl, trivial⟩ ?_
                  refine WX.next ?_
                  -- region 15 law.go:93
                  refine WC.region ?_
                  refine WL.val rfl rfl rfl rfl (r_move rfl (ev_t rfl)) ?_
                  refine WL.val rfl rfl rfl rfl (r_move rfl (ev_t rfl)) ?_
                  first | refine WL.val rfl rfl rfl rfl (r_subN rfl ev_c (ev_t rfl) (by simp only [inK]; omega)) ?_ | refine WL.val rfl rfl rfl rfl (r_sub rfl ev_c (ev_t rfl)) ?_
                  refine WL.val rfl rfl rfl rfl (r_build (cs := #[_, _]) (vs := [(0, _), (1, _)]) rfl ⟨⟨rfl, ev_c⟩, ⟨rfl, (ev_t rfl)⟩, trivial⟩ plc_26 zero_26 rfl) ?_
                  refine WL.keep [(3, _), (4, _), (7, _), (39, _), (42, .agg #[.bool true, .int .i64 (1 - z)])] ⟨rfl, rfl, rfl, rfl, rfl, trivial⟩ ?_
                  refine WL.cons (SO.alloc rfl rfl rfl rfl (r_buildSlice (cs := #[_, _]) (vs := [(0, _)]) rfl ⟨⟨rfl, (ev_t rfl)⟩, trivial⟩ row_22 rfl rfl) ?_)
                  intro w4 hu4 hB4 hz4
                  have hs4 := hu4.size
                  replace hU := hU.trans hu4 (by first | exact (fun _ _ h => h) | exact (fun _ _ h => h.elim) | (intro k hl hk; (try simp only [At, New, Grow, From, No] at hk ⊢); omega))
                  replace hm := hm.upd hu4 (by first | (with_reducible assumption) | exact (fun h => h) | exact (fun _ _ _ h => h) | (simp only [At]; omega) | (simp only [At, New, Grow, From, No]; omega) | (intro k hk hl hS; simp only [At] at hS; subst hS; contradiction) | (intro k hk hl hS; simp only [At] at hS; subst hS; exact Grow.old (by omega) (by assumption) hk) | (intro k hk hl hS; (try simp only [At, From, No, Grow, New] at hk hS); omega))
                  replace hq := hq.upd hu4 (by first | (with_reducible assumption) | exact (fun h => h) | exact (fun _ _ _ h => h) | (simp only [At]; omega) | (simp only [At, New, Grow, From, No]; omega) | (intro k hk hl hS; simp only [At] at hS; subst hS; contradiction) | (intro k hk hl hS; simp only [At] at hS; subst hS; exact Grow.old (by omega) (by assumption) hk) | (intro k hk hl hS; (try simp only [At, From, No, Grow, New] at hk hS); omega))
                  replace hB4 : Blk w4 _ #[.bool true, .int .i64 (1 - z)] 26 := hB4
                  refine WL.cons (SO.append hq (Rd.of_blk (F := At _) (n := 1) (sz := 2) hB4 rfl rfl (by omega)) row_22 (by intro u hu; simp at hu; rcases hu with rfl | rfl <;> rfl) (le_maxLen (by omega)) (by omega) rfl (ev_t rfl) (ev_t rfl) rfl rfl rfl rfl ?_)
                  intro v5 w5 hq hu5
                  have hs5 := hu5.size
                  replace hU := hU.trans hu5 (by first | exact (fun _ _ h => h) | exact (fun _ _ h => h.elim) | (intro k hl hk; (try simp only [At, New, Grow, From, No] at hk ⊢); omega))
                  replace hm := hm.upd hu5 (by first | (with_reducible assumption) | exact (fun h => h) | exact (fun _ _ _ h => h) | (simp only [At]; omega) | (simp only [At, New, Grow, From, No]; omega) | (intro k hk hl hS; simp only [At] at hS; subst hS; contradiction) | (intro k hk hl hS; simp only [At] at hS; subst hS; exact Grow.old (by omega) (by assumption) hk) | (intro k hk hl hS; (try simp only [At, From, No, Grow, New] at hk hS); omega))
                  obtain ⟨A5, c5, rfl, hc5⟩ := Own.form hq
                  refine WL.val rfl rfl rfl rfl (r_assign rfl (ev_t rfl)) ?_
                  refine WL.nil ?_
                  refine WX.keep [(3, _), (4, _), (6, _), (7, _)] ⟨rfl, rfl, rfl, rfl, trivial⟩ ?_
                  refine WX.blockNormal ?_
                  refine WX.next ?_
                  -- region 13 law.go:91
                  refine WC.region ?_
                  refine WL.val rfl rfl rfl rfl (r_move rfl (ev_t rfl)) ?_
                  first | refine WL.val rfl rfl rfl rfl (r_addN rfl (ev_t rfl) ev_c (by simp only [inK]; omega)) ?_ | refine WL.val rfl rfl rfl rfl (r_add rfl (ev_t rfl) ev_c) ?_
                  refine WL.val rfl rfl rfl rfl (r_assign rfl (ev_t rfl)) ?_
                  refine WL.nil ?_
                  refine WX.keep [(3, _), (4, _), (6, _), (7, _)] ⟨rfl, rfl, rfl, rfl, trivial⟩ ?_
                  refine WX.meet [(3, _), (4, _), (6, _), (7, _)] ⟨rfl, rfl, rfl, rfl, trivial⟩ ?_
                  have e1 : movC (timesM (m ++ [(true, 1 - z)]) (i + 1)) = movC (timesM (m ++ [(true, 1 - z)]) i) ++ movC m ++ (#[.bool true, .int .i64 (1 - z)] : Array Value).toList := by rw [timesM_succ, movC_append, movC_append, List.append_assoc]; rfl
                  refine ⟨4 - (i + 1), by omega, i + 1, _, L + m.length + 1, _, by omega, rfl, ?_, hU, by omega, hm, ?_, rfl⟩
                  · rw [timesM_succ, List.length_append, ← hL, List.length_append, List.length_singleton, Nat.add_assoc]
                  · rw [e1]; exact hq.mono (fun k hk => hk.elim (fun h => h.elim (fun h => ⟨h.1, by have := h.2; omega⟩) (fun h => ⟨by omega, by omega⟩)) (fun h => ⟨by omega, by omega⟩))
              · try (exfalso; first | (simp at hc12; done) | (simp only [decide_eq_true_eq, decide_eq_false_iff_not, Bool.not_eq_true', Bool.not_eq_false', Bool.not_eq_true, Bool.not_eq_false] at hc12; omega) | omega)
                all_goals
                  try simp only [decide_eq_true_eq, decide_eq_false_iff_not, Bool.not_eq_true', Bool.not_eq_false', Bool.not_eq_true, Bool.not_eq_false, Option.isNone_none, Option.isNone_some, Option.isSome_none, Option.isSome_some, ne_eq, Decidable.not_not] at hc12
                  obtain rfl : i = 4 := by omega
                  have hNq : ∀ x ∈ timesM (m ++ [(true, 1 - z)]) 4, inK .i64 x.2 := fun x hx => by
                    simp only [timesM, List.mem_flatten, List.mem_replicate] at hx
                    obtain ⟨y, ⟨_, rfl⟩, hx⟩ := hx
                    rcases List.mem_append.1 hx with h | h
                    · have := hsm x h; simp only [inK]; omega
                    · simp at h; subst h; simp only [inK]; omega
                  refine WC.exit ?_
                  refine WX.thenExit ?_
                  refine WX.thenExit ?_
                  refine WX.blockHere ?_
                  refine WX.next ?_
                  refine WC.seq ?_
                  -- region 16 law.go:95
                  refine WC.region ?_
                  refine WL.val rfl rfl rfl rfl (r_move rfl (ev_t rfl)) ?_
                  refine WL.cons (SO.call (Look_ok (hq.rd (by omega)) hNq) rfl body_22 ⟨(ev_t rfl), trivial⟩ rfl rfl rfl rfl ?_)
                  rintro v w6 ⟨rfl, hu6⟩
                  rw [hp]
                  dsimp only
                  have hs6 := hu6.size
                  replace hU := hU.trans hu6 (by first | exact (fun _ _ h => h) | exact (fun _ _ h => h.elim) | (intro k hl hk; (try simp only [At, New, Grow, From, No] at hk ⊢); omega))
                  replace hm := hm.upd hu6 (by first | (with_reducible assumption) | exact (fun h => h) | exact (fun _ _ _ h => h) | (simp only [At]; omega) | (simp only [At, New, Grow, From, No]; omega) | (intro k hk hl hS; simp only [At] at hS; subst hS; contradiction) | (intro k hk hl hS; simp only [At] at hS; subst hS; exact Grow.old (by omega) (by assumption) hk) | (intro k hk hl hS; (try simp only [At, From, No, Grow, New] at hk hS); omega))
                  replace hq := hq.upd hu6 (by first | (with_reducible assumption) | exact (fun h => h) | exact (fun _ _ _ h => h) | (simp only [At]; omega) | (simp only [At, New, Grow, From, No]; omega) | (intro k hk hl hS; simp only [At] at hS; subst hS; contradiction) | (intro k hk hl hS; simp only [At] at hS; subst hS; exact Grow.old (by omega) (by assumption) hk) | (intro k hk hl hS; (try simp only [At, From, No, Grow, New] at hk hS); omega))
                  refine WL.val rfl rfl rfl rfl (r_move rfl (ev_t rfl)) ?_
                  refine WL.val rfl rfl rfl rfl (r_extract rfl (ev_t rfl) rfl) ?_
                  refine WL.val rfl rfl rfl rfl (r_extract rfl (ev_t rfl) rfl) ?_
                  refine WL.cons (SO.alloc rfl rfl rfl rfl (r_alloc rfl zero_32) ?_)
                  intro w7 hu7 hB7 hz7
                  have hs7 := hu7.size
                  replace hU := hU.trans hu7 (by first | exact (fun _ _ h => h) | exact (fun _ _ h => h.elim) | (intro k hl hk; (try simp only [At, New, Grow, From, No] at hk ⊢); omega))
                  replace hm := hm.upd hu7 (by first | (with_reducible assumption) | exact (fun h => h) | exact (fun _ _ _ h => h) | (simp only [At]; omega) | (simp only [At, New, Grow, From, No]; omega) | (intro k hk hl hS; simp only [At] at hS; subst hS; contradiction) | (intro k hk hl hS; simp only [At] at hS; subst hS; exact Grow.old (by omega) (by assumption) hk) | (intro k hk hl hS; (try simp only [At, From, No, Grow, New] at hk hS); omega))
                  replace hq := hq.upd hu7 (by first | (with_reducible assumption) | exact (fun h => h) | exact (fun _ _ _ h => h) | (simp only [At]; omega) | (simp only [At, New, Grow, From, No]; omega) | (intro k hk hl hS; simp only [At] at hS; subst hS; contradiction) | (intro k hk hl hS; simp only [At] at hS; subst hS; exact Grow.old (by omega) (by assumption) hk) | (intro k hk hl hS; (try simp only [At, From, No, Grow, New] at hk hS); omega))
                  refine WL.cons (SO.store2 rfl (ev_t rfl) (ev_t rfl) size_32 hB7 rfl rfl rfl rfl rfl rfl ?_)
                  intro w8 hu8 hB7 hz8
                  have hs8 := hu8.size
                  replace hU := hU.trans hu8 (by first | exact (fun _ _ h => h) | exact (fun _ _ h => h.elim) | (intro k hl hk; (try simp only [At, New, Grow, From, No] at hk ⊢); omega))
                  replace hm := hm.upd hu8 (by first | (with_reducible assumption) | exact (fun h => h) | exact (fun _ _ _ h => h) | (simp only [At]; omega) | (simp only [At, New, Grow, From, No]; omega) | (intro k hk hl hS; simp only [At] at hS; subst hS; contradiction) | (intro k hk hl hS; simp only [At] at hS; subst hS; exact Grow.old (by omega) (by assumption) hk) | (intro k hk hl hS; (try simp only [At, From, No, Grow, New] at hk hS); omega))
                  replace hq := hq.upd hu8 (by first | (with_reducible assumption) | exact (fun h => h) | exact (fun _ _ _ h => h) | (simp only [At]; omega) | (simp only [At, New, Grow, From, No]; omega) | (intro k hk hl hS; simp only [At] at hS; subst hS; contradiction) | (intro k hk hl hS; simp only [At] at hS; subst hS; exact Grow.old (by omega) (by assumption) hk) | (intro k hk hl hS; (try simp only [At, From, No, Grow, New] at hk hS); omega))
                  refine WL.val rfl rfl rfl rfl (r_assign rfl (ev_t rfl)) ?_
                  refine WL.nil ?_
                  refine WX.keep [(6, _), (8, _), (9, _)] ⟨rfl, rfl, rfl, trivial⟩ ?_
                  refine WX.next ?_
                  refine WC.seq ?_
                  -- region 17 law.go:96
                  refine WC.region ?_
                  refine WL.val rfl rfl rfl rfl (r_move rfl (ev_t rfl)) ?_
                  refine WL.val rfl rfl rfl rfl (r_eql rfl (ev_t rfl) ev_c) ?_
                  refine WL.val rfl rfl rfl rfl (r_move rfl (ev_t rfl)) ?_
                  refine WL.cases 52 rfl (fun hb17_2 => ?_) (fun hb17_2 => ?_)
                  · try (exfalso; first | (simp at hb17_2; done) | (simp only [decide_eq_true_eq, decide_eq_false_iff_not, Bool.not_eq_true', Bool.not_eq_false', Bool.not_eq_true, Bool.not_eq_false] at hb17_2; omega) | omega)
                    all_goals
                      try simp only [decide_eq_true_eq, decide_eq_false_iff_not, Bool.not_eq_true', Bool.not_eq_false', Bool.not_eq_true, Bool.not_eq_false, Option.isNone_none, Option.isNone_some, Option.isSome_none, Option.isSome_some, ne_eq, Decidable.not_not] at hb17_2
                      refine WL.val rfl rfl rfl rfl (r_move rfl (ev_t rfl)) ?_
                      refine WL.cons (SO.call (Closed_ok (hq.rd (by omega)) hNq) rfl body_24 ⟨(ev_t rfl), trivial⟩ rfl rfl rfl rfl ?_)
                      rintro v w9 ⟨rfl, hu9⟩
                      rw [hcl]
                      have hs9 := hu9.size
                      replace hU := hU.trans hu9 (by first | exact (fun _ _ h => h) | exact (fun _ _ h => h.elim) | (intro k hl hk; (try simp only [At, New, Grow, From, No] at hk ⊢); omega))
                      replace hm := hm.upd hu9 (by first | (with_reducible assumption) | exact (fun h => h) | exact (fun _ _ _ h => h) | (simp only [At]; omega) | (simp only [At, New, Grow, From, No]; omega) | (intro k hk hl hS; simp only [At] at hS; subst hS; contradiction) | (intro k hk hl hS; simp only [At] at hS; subst hS; exact Grow.old (by omega) (by assumption) hk) | (intro k hk hl hS; (try simp only [At, From, No, Grow, New] at hk hS); omega))
                      replace hq := hq.upd hu9 (by first | (with_reducible assumption) | exact (fun h => h) | exact (fun _ _ _ h => h) | (simp only [At]; omega) | (simp only [At, New, Grow, From, No]; omega) | (intro k hk hl hS; simp only [At] at hS; subst hS; contradiction) | (intro k hk hl hS; simp only [At] at hS; subst hS; exact Grow.old (by omega) (by assumption) hk) | (intro k hk hl hS; (try simp only [At, From, No, Grow, New] at hk hS); omega))
                      replace hB7 := hB7.upd hu9 (by first | (with_reducible assumption) | exact (fun h => h) | exact (fun _ _ _ h => h) | (simp only [At]; omega) | (simp only [At, New, Grow, From, No]; omega) | (intro k hk hl hS; simp only [At] at hS; subst hS; contradiction) | (intro k hk hl hS; simp only [At] at hS; subst hS; exact Grow.old (by omega) (by assumption) hk) | (intro k hk hl hS; (try simp only [At, From, No, Grow, New] at hk hS); omega))
                      refine WL.val rfl rfl rfl rfl (r_pickT rfl (ev_t rfl) (ev_t rfl)) ?_
                      refine WL.val rfl rfl rfl rfl (r_move rfl (ev_t rfl)) ?_
                      refine WL.cases 56 rfl (fun hb17_6 => ?_) (fun hb17_6 => ?_)
                      · try (exfalso; first | (simp at hb17_6; done) | (simp only [decide_eq_true_eq, decide_eq_false_iff_not, Bool.not_eq_true', Bool.not_eq_false', Bool.not_eq_true, Bool.not_eq_false] at hb17_6; omega) | omega)
                        all_goals
                          try simp only [decide_eq_true_eq, decide_eq_false_iff_not, Bool.not_eq_true', Bool.not_eq_false', Bool.not_eq_true, Bool.not_eq_false, Option.isNone_none, Option.isNone_some, Option.isSome_none, Option.isSome_some, ne_eq, Decidable.not_not] at hb17_6
                          refine WL.val rfl rfl rfl rfl (r_loadAgg (vs := [_, _]) rfl (ev_t rfl) agg_32 size_32 (Blk.cells2 hB7)) ?_
                          refine WL.val rfl rfl rfl rfl (r_build (cs := #[_, _]) (vs := [(1, _)]) rfl ⟨⟨rfl, ev_c⟩, trivial⟩ plc_32 zero_32 rfl) ?_
                          refine WL.val rfl rfl rfl rfl (r_eqlPair rfl (ev_t rfl) (ev_t rfl) hpair) ?_
                          refine WL.val rfl rfl rfl rfl (r_pickT rfl (ev_t rfl) (ev_t rfl)) ?_
                          refine WL.val rfl rfl rfl rfl (r_assign rfl (ev_t rfl)) ?_
                          refine WL.nil ?_
                          refine WX.keep [(2, _)] ⟨rfl, trivial⟩ ?_
                          refine WX.next ?_
                          refine WC.ret ?_
                          refine WX.retE1 rfl rfl ?_
                          first
                            | exact ⟨rfl, hU⟩
                            | exact ⟨by simp, hU⟩
                      · try (exfalso; first | (simp at hb17_6; done) | (simp only [decide_eq_true_eq, decide_eq_false_iff_not, Bool.not_eq_true', Bool.not_eq_false', Bool.not_eq_true, Bool.not_eq_false] at hb17_6; omega) | omega)
                        all_goals
                          try simp only [decide_eq_true_eq, decide_eq_false_iff_not, Bool.not_eq_true', Bool.not_eq_false', Bool.not_eq_true, Bool.not_eq_false, Option.isNone_none, Option.isNone_some, Option.isSome_none, Option.isSome_some, ne_eq, Decidable.not_not] at hb17_6
                          refine WL.skip rfl rfl rfl ?_
                          refine WL.skip rfl rfl rfl ?_
                          refine WL.skip rfl rfl rfl ?_
                          refine WL.val rfl rfl rfl rfl (r_pickF rfl (ev_t rfl) ev_c) ?_
                          refine WL.val rfl rfl rfl rfl (r_assign rfl (ev_t rfl)) ?_
                          refine WL.nil ?_
                          refine WX.keep [(2, _)] ⟨rfl, trivial⟩ ?_
                          refine WX.next ?_
                          refine WC.ret ?_
                          refine WX.retE1 rfl rfl ?_
                          first
                            | exact ⟨rfl, hU⟩
                            | exact ⟨by simp, hU⟩
                  · try (exfalso; first | (simp at hb17_2; done) | (simp only [decide_eq_true_eq, decide_eq_false_iff_not, Bool.not_eq_true', Bool.not_eq_false', Bool.not_eq_true, Bool.not_eq_false] at hb17_2; omega) | omega)
                    all_goals
                      try simp only [decide_eq_true_eq, decide_eq_false_iff_not, Bool.not_eq_true', Bool.not_eq_false', Bool.not_eq_true, Bool.not_eq_false, Option.isNone_none, Option.isNone_some, Option.isSome_none, Option.isSome_some, ne_eq, Decidable.not_not] at hb17_2
                      refine WL.skip rfl rfl rfl ?_
                      refine WL.skip rfl rfl rfl ?_
                      refine WL.val rfl rfl rfl rfl (r_pickF rfl (ev_t rfl) ev_c) ?_
                      refine WL.val rfl rfl rfl rfl (r_move rfl (ev_t rfl)) ?_
                      refine WL.skip rfl rfl rfl ?_
                      refine WL.skip rfl rfl rfl ?_
                      refine WL.skip rfl rfl rfl ?_
                      refine WL.val rfl rfl rfl rfl (r_pickF rfl (ev_t rfl) ev_c) ?_
                      refine WL.val rfl rfl rfl rfl (r_assign rfl (ev_t rfl)) ?_
                      refine WL.nil ?_
                      refine WX.keep [(2, _)] ⟨rfl, trivial⟩ ?_
                      refine WX.next ?_
                      refine WC.ret ?_
                      refine WX.retE1 rfl rfl ?_
                      first
                        | exact ⟨rfl, hU⟩
                        | exact ⟨by simp, hU⟩

theorem backM_drop {m : List Mv} {i : Nat} {x : Mv} (h : m[i]? = some x) : backM (m.drop i) = backM (m.drop (i + 1)) ++ [negM x] := by
  have hi : i < m.length := (List.getElem?_eq_some_iff.1 h).1
  rw [List.drop_eq_getElem_cons hi, backM_cons]
  rw [List.getElem?_eq_getElem hi] at h
  injection h with h
  rw [h]

set_option maxHeartbeats 1000000 in
theorem turtleBack.walk {w : World} {lv : Value} {len : Nat} {l : List Mv} (hr : Rd w (fun k => k < w.heap.size) lv len 2 (movC l)) (hN : ∀ m ∈ l, inK .i64 m.2) :
    Ret Try.prog 9 #[lv] w fun v w' => v = .bool true ∧ Upd No w w' := by
  obtain ⟨f0, f1, hpair⟩ := pairPlace
  have hsl := smallM_len l
  have hsm := smallM_mem (l := l)
  obtain ⟨out, A, hp, hA, har⟩ := back_eq (m := smallM l) hsm (by omega)
  have hcl := closed_of (l := ([], [])) (A := ([], [])) (out := ([], [])) hp hA
  refine enterRet (vs := [_]) (N := 66) Try.func9 rfl rfl rfl ?_
  have hU := Upd.refl No w
  refine WC.keep [(0, _)] ⟨rfl, trivial⟩ ?_
  refine WC.seq ?_
  -- region 0 law.go:64
  refine WC.region ?_
  refine WL.val rfl rfl rfl rfl (r_assign rfl ev_c) ?_
  refine WL.nil ?_
  refine WX.keep [(0, _)] ⟨rfl, trivial⟩ ?_
  refine WX.next ?_
  refine WC.seq ?_
  refine WC.seq ?_
  -- region 1 law.go:65
  refine WC.region ?_
  refine WL.cons (SO.call (awake2_ok _) rfl body_16 trivial rfl rfl rfl rfl ?_)
  rintro v w1 ⟨rfl, hu1⟩
  have hs1 := hu1.size
  replace hU := hU.trans hu1 (by first | exact (fun _ _ h => h) | exact (fun _ _ h => h.elim) | (intro k hl hk; (try simp only [At, New, Grow, From, No] at hk ⊢); omega))
  replace hr := hr.upd hu1 (by first | exact (fun _ _ _ h => h) | (intro k hk hl hS; have : k < w.heap.size := hk; simp only [At, New, Grow, From, No] at hS; omega))
  refine WL.val rfl rfl rfl rfl (r_not rfl (ev_t rfl)) ?_
  refine WL.nil ?_
  refine WX.keep [(0, _), (11, _)] ⟨rfl, rfl, trivial⟩ ?_
  refine WX.next ?_
  refine WC.cond rfl (ev_t rfl) (fun hc1 => ?_) (fun hc1 => ?_)
  · try (exfalso; first | (simp at hc1; done) | (simp only [decide_eq_true_eq, decide_eq_false_iff_not, Bool.not_eq_true', Bool.not_eq_false', Bool.not_eq_true, Bool.not_eq_false] at hc1; omega) | omega)
    all_goals
      try simp only [decide_eq_true_eq, decide_eq_false_iff_not, Bool.not_eq_true', Bool.not_eq_false', Bool.not_eq_true, Bool.not_eq_false, Option.isNone_none, Option.isNone_some, Option.isSome_none, Option.isSome_some, ne_eq, Decidable.not_not] at hc1
      refine WC.seq ?_
      -- region 2 law.go:66
      refine WC.region ?_
      refine WL.val rfl rfl rfl rfl (r_assign rfl ev_c) ?_
      refine WL.nil ?_
      refine WX.keep [(2, _)] ⟨rfl, trivial⟩ ?_
      refine WX.next ?_
      refine WC.ret ?_
      refine WX.thenRet ?_
      refine WX.retE1 rfl rfl ?_
      first
        | exact ⟨rfl, hU⟩
        | exact ⟨by simp, hU⟩
  · try (exfalso; first | (simp at hc1; done) | (simp only [decide_eq_true_eq, decide_eq_false_iff_not, Bool.not_eq_true', Bool.not_eq_false', Bool.not_eq_true, Bool.not_eq_false] at hc1; omega) | omega)
    all_goals
      try simp only [decide_eq_true_eq, decide_eq_false_iff_not, Bool.not_eq_true', Bool.not_eq_false', Bool.not_eq_true, Bool.not_eq_false, Option.isNone_none, Option.isNone_some, Option.isSome_none, Option.isSome_some, ne_eq, Decidable.not_not] at hc1
      refine WC.skip ?_
      refine WX.next ?_
      refine WC.seq ?_
      -- region 3 law.go:68
      refine WC.region ?_
      refine WL.val rfl rfl rfl rfl (r_move rfl (ev_t rfl)) ?_
      refine WL.cons (SO.call (small_ok hr hN) rfl body_17 ⟨(ev_t rfl), trivial⟩ rfl rfl rfl rfl ?_)
      rintro v1 w2 ⟨hm, hu2⟩
      have hs2 := hu2.size
      replace hU := hU.trans hu2 (by first | exact (fun _ _ h => h) | exact (fun _ _ h => h.elim) | (intro k hl hk; (try simp only [At, New, Grow, From, No] at hk ⊢); omega))
      replace hr := hr.upd hu2 (by first | exact (fun _ _ _ h => h) | (intro k hk hl hS; have : k < w.heap.size := hk; simp only [At, New, Grow, From, No] at hS; omega))
      obtain ⟨A2, c2, rfl, hc2⟩ := Own.form hm
      generalize hme : smallM l = m at *
      refine WL.val rfl rfl rfl rfl (r_assign rfl (ev_t rfl)) ?_
      refine WL.nil ?_
      refine WX.keep [(3, _)] ⟨rfl, trivial⟩ ?_
      refine WX.next ?_
      refine WC.seq ?_
      -- region 4 law.go:69
      refine WC.region ?_
      refine WL.val rfl rfl rfl rfl (r_move rfl (ev_t rfl)) ?_
      refine WL.val rfl rfl rfl rfl (r_lenSlice (ts := #[]) rfl (ev_t rfl) elem_22) ?_
      refine WL.val rfl rfl rfl rfl (r_assign rfl (ev_t rfl)) ?_
      refine WL.nil ?_
      refine WX.keep [(3, _), (4, _)] ⟨rfl, rfl, trivial⟩ ?_
      refine WX.next ?_
      refine WC.seq ?_
      refine WC.seq ?_
      -- region 5 law.go:70
      refine WC.region ?_
      refine WL.val rfl rfl rfl rfl (r_move rfl (ev_t rfl)) ?_
      first | refine WL.val rfl rfl rfl rfl (r_subN rfl (ev_t rfl) ev_c (by simp only [inK]; omega)) ?_ | refine WL.val rfl rfl rfl rfl (r_sub rfl (ev_t rfl) ev_c) ?_
      refine WL.val rfl rfl rfl rfl (r_assign rfl (ev_t rfl)) ?_
      refine WL.nil ?_
      refine WX.keep [(3, _), (5, _)] ⟨rfl, rfl, trivial⟩ ?_
      refine WX.next ?_
      refine WC.block ?_
      -- loop 1: live [3, 5]
      refine WC.keep [(3, _), (5, _)] ⟨rfl, rfl, trivial⟩ ?_
      refine WC.loop (fun q E w' => ∃ (i L : Nat) (A3 : Option Addr) (c3 : Nat), i ≤ m.length ∧ q = i ∧ L = m.length + (m.length - i) ∧ Upd No w w' ∧ w2.heap.size ≤ w'.heap.size ∧ Own w' (New w1 w') 26 2 (.slice A3 L c3) L (movC (m ++ backM (m.drop i))) ∧   E = [(3, .slice A3 L c3), (5, .int .i64 ((i : Int) - 1))]) (m.length) ?_ ?_
      · refine ⟨m.length, m.length, A2, c2, by omega, rfl, by omega, hU, by omega, ?_, rfl⟩
        rw [List.drop_length]
        simpa [backM] using hm
      · rintro q E w' ⟨i, L, A3, c3, hi, rfl, hL, hU, hw2, hm, rfl⟩
        have hs0 := hU.size
        refine WC.seq ?_
        refine WC.seq ?_
        -- region 6 law.go:70
        refine WC.region ?_
        refine WL.val rfl rfl rfl rfl (r_move rfl (ev_t rfl)) ?_
        refine WL.val rfl rfl rfl rfl (r_geq rfl (ev_t rfl) ev_c) ?_
        refine WL.nil ?_
        refine WX.keep [(3, _), (5, _), (19, _)] ⟨rfl, rfl, rfl, trivial⟩ ?_
        refine WX.next ?_
        refine WC.cond rfl (ev_t rfl) (fun hc6 => ?_) (fun hc6 => ?_)
        · try (exfalso; first | (simp at hc6; done) | (simp only [decide_eq_true_eq, decide_eq_false_iff_not, Bool.not_eq_true', Bool.not_eq_false', Bool.not_eq_true, Bool.not_eq_false] at hc6; omega) | omega)
          all_goals
            try simp only [decide_eq_true_eq, decide_eq_false_iff_not, Bool.not_eq_true', Bool.not_eq_false', Bool.not_eq_true, Bool.not_eq_false, Option.isNone_none, Option.isNone_some, Option.isSome_none, Option.isSome_some, ne_eq, Decidable.not_not] at hc6
            have hi' : q - 1 < m.length := by omega
            obtain ⟨b, off, rfl, _⟩ := (hm.rd (by omega)).open (by omega)
            have hg := List.getElem?_eq_getElem hi'
            have hg2 : (m ++ backM (m.drop q))[q - 1]? = some m[q - 1] := by rw [List.getElem?_append_left hi']; exact hg
            have hcm := movC_get hg2
            have hms := hsm _ (List.getElem_mem hi')
            have hbk := backM_drop hg
            rw [show q - 1 + 1 = q by omega] at hbk
            generalize m[q - 1] = x at *
            refine WC.skip ?_
            refine WX.next ?_
            refine WC.seq ?_
            refine WC.block ?_
            -- region 8 law.go:71 DRAWS
            refine WC.draws' (fun u0_ u1_ => Upd No u0_ u1_) (fun j => [0, 0, 0, 0, 0, 0, 0, 0, 0, 0, 1, 0, 0, 2, 2, 0].getD j 0) (.calm 0 (.calm 1 (.calm 2 (.calm 3 (.calm 4 (.calm 6 (.calm 7 (.calm 8 (.calm 9 (.held 5 (.one 10 (.calm 11 (.calm 12 (.one 13 (.one 14 (.calm 15 (.done))))))))))))))))) mixed (by kernel_rfl) (by repeat (first | with_reducible exact Deaf.body | with_reducible apply Deaf.then | with_reducible apply Deaf.block)) ?_
            intro w3 hu3
            have hz3 := congrArg Array.size hu3.2.2.2
            replace hu3 := Upd.of_draw hu3
            have hs3 := hu3.size
            replace hU := hU.trans hu3 (by first | exact (fun _ _ h => h) | exact (fun _ _ h => h.elim) | (intro k hl hk; (try simp only [At, New, Grow, From, No] at hk ⊢); omega))
            replace hm := hm.upd hu3 (by first | (with_reducible assumption) | exact (fun h => h) | exact (fun _ _ _ h => h) | (simp only [At]; omega) | (simp only [At, New, Grow, From, No]; omega) | (intro k hk hl hS; simp only [At] at hS; subst hS; contradiction) | (intro k hk hl hS; simp only [At] at hS; subst hS; exact Grow.old (by omega) (by assumption) hk) | (intro k hk hl hS; (try simp only [At, From, No, Grow, New] at hk hS); omega))
            have hS8 := Upd.refl No w3
            refine WN.calm _ rfl rfl rfl rfl rfl (fun _ => r_move rfl (ev_t rfl)) ?_
            refine WN.calm _ rfl rfl rfl rfl rfl (fun _ => r_move rfl (ev_t rfl)) ?_
            refine WN.calm _ rfl rfl rfl rfl rfl (fun _ => r_move rfl (ev_t rfl)) ?_
            refine WN.calm _ rfl rfl rfl rfl rfl (fun _ => r_indexAddr rfl (ev_t rfl) (ev_t rfl) elem_22 size_26 (by omega) (by omega)) ?_
            first | refine WN.calm _ rfl rfl rfl rfl rfl (fun _ => r_field0 rfl (ev_t rfl) fld_26_0) ?_ | refine WN.calm _ rfl rfl rfl rfl rfl (fun _ => r_fieldAt rfl (ev_t rfl) fld_26_0) ?_
            refine WN.calm _ rfl rfl rfl rfl rfl (fun _ => r_move rfl (ev_t rfl)) ?_
            refine WN.calm _ rfl rfl rfl rfl rfl (fun _ => r_move rfl (ev_t rfl)) ?_
            refine WN.calm _ rfl rfl rfl rfl rfl (fun _ => r_indexAddr rfl (ev_t rfl) (ev_t rfl) elem_22 size_26 (by omega) (by omega)) ?_
            first | refine WN.calm _ rfl rfl rfl rfl rfl (fun _ => r_field0 rfl (ev_t rfl) fld_26_1) ?_ | refine WN.calm _ rfl rfl rfl rfl rfl (fun _ => r_fieldAt rfl (ev_t rfl) fld_26_1) ?_
            refine WN.held _ rfl rfl rfl rfl rfl hS8 (fun w' hS => r_load rfl (ev_t rfl) flat_4 (((hm.upd hS (fun _ _ _ h => h)).rd (by omega)).cell (j := (q - 1) * 2) (by omega) hcm.1)) ?_
            first | refine WN.step _ rfl (SO.val rfl rfl rfl rfl (r_load rfl (ev_t rfl) flat_2 (((hm.upd hS (fun _ _ _ h => h)).rd (by omega)).cell (j := (q - 1) * 2 + 1) (by omega) hcm.2)) ?_) | refine WN.step _ rfl (SO.val rfl rfl rfl rfl (r_load rfl (ev_t rfl) flat_2 ((hm.rd (by omega)).cell (j := (q - 1) * 2 + 1) (by omega) hcm.2)) ?_)
            refine ⟨hS8, ?_⟩
            first | refine WN.calm _ rfl rfl rfl rfl rfl (fun _ => r_negN rfl (ev_t rfl) (by simp only [inK]; omega)) ?_ | refine WN.calm _ rfl rfl rfl rfl rfl (fun _ => r_neg rfl (ev_t rfl)) ?_
            refine WN.calm _ rfl rfl rfl rfl rfl (fun _ => r_build (cs := #[_, _]) (vs := [(0, _), (1, _)]) rfl ⟨⟨rfl, (ev_t rfl)⟩, ⟨rfl, (ev_t rfl)⟩, trivial⟩ plc_26 zero_26 rfl) ?_
            refine WN.step _ rfl (SO.alloc rfl rfl rfl rfl (r_buildSlice (cs := #[_, _]) (vs := [(0, _)]) rfl ⟨⟨rfl, (ev_t rfl)⟩, trivial⟩ row_22 rfl rfl) ?_)
            intro w4 hu4 hB4 hz4
            have hs4 := hu4.size
            try replace hS8 := Upd.trans_same hS8 (Upd.mono hu4 (by first | exact (fun _ _ h => h) | exact (fun _ _ h => h.elim) | (intro k _ hk; (try simp only [At, New, Grow, From, No] at hk ⊢); omega)))
            replace hU := hU.trans hu4 (by first | exact (fun _ _ h => h) | exact (fun _ _ h => h.elim) | (intro k hl hk; (try simp only [At, New, Grow, From, No] at hk ⊢); omega))
            replace hm := hm.upd hu4 (by first | (with_reducible assumption) | exact (fun h => h) | exact (fun _ _ _ h => h) | (simp only [At]; omega) | (simp only [At, New, Grow, From, No]; omega) | (intro k hk hl hS; simp only [At] at hS; subst hS; contradiction) | (intro k hk hl hS; simp only [At] at hS; subst hS; exact Grow.old (by omega) (by assumption) hk) | (intro k hk hl hS; (try simp only [At, From, No, Grow, New] at hk hS); omega))
            refine ⟨trivial, ?_⟩
            replace hB4 : Blk w4 _ #[.bool x.1, .int .i64 (-x.2)] 26 := hB4
            refine WN.step _ rfl (SO.append hm (Rd.of_blk (F := At _) (n := 1) (sz := 2) hB4 rfl rfl (by omega)) row_22 (by intro u hu; simp at hu; rcases hu with rfl | rfl <;> rfl) (le_maxLen (by omega)) (by omega) rfl (ev_t rfl) (ev_t rfl) rfl rfl rfl rfl ?_)
            intro v5 w5 hm hu5
            have hs5 := hu5.size
            try replace hS8 := Upd.trans_same hS8 (Upd.mono hu5 (by first | exact (fun _ _ h => h) | exact (fun _ _ h => h.elim) | (intro k _ hk; (try simp only [At, New, Grow, From, No] at hk ⊢); omega)))
            replace hU := hU.trans hu5 (by first | exact (fun _ _ h => h) | exact (fun _ _ h => h.elim) | (intro k hl hk; (try simp only [At, New, Grow, From, No] at hk ⊢); omega))
            refine ⟨trivial, ?_⟩
            obtain ⟨A5, c5, rfl, hc5⟩ := Own.form hm
            refine WN.calm _ rfl rfl rfl rfl rfl (fun _ => r_assign rfl (ev_t rfl)) ?_
            refine WN.done ?_
            refine WX.keep [(3, _), (5, _)] ⟨rfl, rfl, trivial⟩ ?_
            refine WX.blockNormal ?_
            refine WX.next ?_
            -- region 7 law.go:70
            refine WC.region ?_
            refine WL.val rfl rfl rfl rfl (r_move rfl (ev_t rfl)) ?_
            first | refine WL.val rfl rfl rfl rfl (r_subN rfl (ev_t rfl) ev_c (by simp only [inK]; omega)) ?_ | refine WL.val rfl rfl rfl rfl (r_sub rfl (ev_t rfl) ev_c) ?_
            refine WL.val rfl rfl rfl rfl (r_assign rfl (ev_t rfl)) ?_
            refine WL.nil ?_
            refine WX.keep [(3, _), (5, _)] ⟨rfl, rfl, trivial⟩ ?_
            refine WX.meet [(3, _), (5, _)] ⟨rfl, rfl, trivial⟩ ?_
            have e1 : movC (m ++ backM (m.drop (q - 1))) = movC (m ++ backM (m.drop q)) ++ (#[.bool x.1, .int .i64 (-x.2)] : Array Value).toList := by rw [hbk, ← List.append_assoc, movC_append]; rfl
            refine ⟨q - 1, by omega, q - 1, L + 1, A5, c5, by omega, rfl, by omega, hU, by omega, ?_, ?_⟩
            · rw [e1]; exact hm.mono (fun k hk => hk.elim (fun h => ⟨h.1, by have := h.2; omega⟩) (fun h => ⟨by omega, by omega⟩))
            · rw [show (((q - 1 : Nat) : Int) - 1) = (q : Int) - 1 - 1 by omega]
        · try (exfalso; first | (simp at hc6; done) | (simp only [decide_eq_true_eq, decide_eq_false_iff_not, Bool.not_eq_true', Bool.not_eq_false', Bool.not_eq_true, Bool.not_eq_false] at hc6; omega) | omega)
          all_goals
            try simp only [decide_eq_true_eq, decide_eq_false_iff_not, Bool.not_eq_true', Bool.not_eq_false', Bool.not_eq_true, Bool.not_eq_false, Option.isNone_none, Option.isNone_some, Option.isSome_none, Option.isSome_some, ne_eq, Decidable.not_not] at hc6
            obtain rfl : q = 0 := by omega
            rw [List.drop_zero] at hm
            have hNq : ∀ x ∈ m ++ backM m, inK .i64 x.2 := fun x hx => by
              simp only [backM, List.mem_append, List.mem_reverse, List.mem_map, negM] at hx
              rcases hx with h | ⟨y, h, rfl⟩
              · have := hsm x h; simp only [inK]; omega
              · have := hsm y h; simp only [inK]; omega
            refine WC.exit ?_
            refine WX.thenExit ?_
            refine WX.thenExit ?_
            refine WX.blockHere ?_
            refine WX.next ?_
            refine WC.seq ?_
            -- region 9 law.go:73
            refine WC.region ?_
            refine WL.val rfl rfl rfl rfl (r_move rfl (ev_t rfl)) ?_
            refine WL.cons (SO.call (Look_ok (hm.rd (by omega)) hNq) rfl body_22 ⟨(ev_t rfl), trivial⟩ rfl rfl rfl rfl ?_)
            rintro v w6 ⟨rfl, hu6⟩
            rw [hp]
            dsimp only
            have hs6 := hu6.size
            replace hU := hU.trans hu6 (by first | exact (fun _ _ h => h) | exact (fun _ _ h => h.elim) | (intro k hl hk; (try simp only [At, New, Grow, From, No] at hk ⊢); omega))
            replace hm := hm.upd hu6 (by first | (with_reducible assumption) | exact (fun h => h) | exact (fun _ _ _ h => h) | (simp only [At]; omega) | (simp only [At, New, Grow, From, No]; omega) | (intro k hk hl hS; simp only [At] at hS; subst hS; contradiction) | (intro k hk hl hS; simp only [At] at hS; subst hS; exact Grow.old (by omega) (by assumption) hk) | (intro k hk hl hS; (try simp only [At, From, No, Grow, New] at hk hS); omega))
            refine WL.val rfl rfl rfl rfl (r_move rfl (ev_t rfl)) ?_
            refine WL.val rfl rfl rfl rfl (r_extract rfl (ev_t rfl) rfl) ?_
            refine WL.val rfl rfl rfl rfl (r_extract rfl (ev_t rfl) rfl) ?_
            refine WL.cons (SO.alloc rfl rfl rfl rfl (r_alloc rfl zero_32) ?_)
            intro w7 hu7 hB7 hz7
            have hs7 := hu7.size
            replace hU := hU.trans hu7 (by first | exact (fun _ _ h => h) | exact (fun _ _ h => h.elim) | (intro k hl hk; (try simp only [At, New, Grow, From, No] at hk ⊢); omega))
            replace hm := hm.upd hu7 (by first | (with_reducible assumption) | exact (fun h => h) | exact (fun _ _ _ h => h) | (simp only [At]; omega) | (simp only [At, New, Grow, From, No]; omega) | (intro k hk hl hS; simp only [At] at hS; subst hS; contradiction) | (intro k hk hl hS; simp only [At] at hS; subst hS; exact Grow.old (by omega) (by assumption) hk) | (intro k hk hl hS; (try simp only [At, From, No, Grow, New] at hk hS); omega))
            refine WL.cons (SO.store2 rfl (ev_t rfl) (ev_t rfl) size_32 hB7 rfl rfl rfl rfl rfl rfl ?_)
            intro w8 hu8 hB7 hz8
            have hs8 := hu8.size
            replace hU := hU.trans hu8 (by first | exact (fun _ _ h => h) | exact (fun _ _ h => h.elim) | (intro k hl hk; (try simp only [At, New, Grow, From, No] at hk ⊢); omega))
            replace hm := hm.upd hu8 (by first | (with_reducible assumption) | exact (fun h => h) | exact (fun _ _ _ h => h) | (simp only [At]; omega) | (simp only [At, New, Grow, From, No]; omega) | (intro k hk hl hS; simp only [At] at hS; subst hS; contradiction) | (intro k hk hl hS; simp only [At] at hS; subst hS; exact Grow.old (by omega) (by assumption) hk) | (intro k hk hl hS; (try simp only [At, From, No, Grow, New] at hk hS); omega))
            refine WL.val rfl rfl rfl rfl (r_assign rfl (ev_t rfl)) ?_
            refine WL.nil ?_
            refine WX.keep [(3, _), (6, _), (7, _)] ⟨rfl, rfl, rfl, trivial⟩ ?_
            refine WX.next ?_
            refine WC.seq ?_
            -- region 10 law.go:74
            refine WC.region ?_
            refine WL.val rfl rfl rfl rfl (r_move rfl (ev_t rfl)) ?_
            refine WL.cons (SO.call (Area_ok (hm.rd (by omega)) hNq) rfl body_25 ⟨(ev_t rfl), trivial⟩ rfl rfl rfl rfl ?_)
            rintro v w9 ⟨rfl, hu9⟩
            rw [hp]
            dsimp only
            rw [har, show IntKind.i64.wrap 0 = 0 from rfl]
            have hs9 := hu9.size
            replace hU := hU.trans hu9 (by first | exact (fun _ _ h => h) | exact (fun _ _ h => h.elim) | (intro k hl hk; (try simp only [At, New, Grow, From, No] at hk ⊢); omega))
            replace hm := hm.upd hu9 (by first | (with_reducible assumption) | exact (fun h => h) | exact (fun _ _ _ h => h) | (simp only [At]; omega) | (simp only [At, New, Grow, From, No]; omega) | (intro k hk hl hS; simp only [At] at hS; subst hS; contradiction) | (intro k hk hl hS; simp only [At] at hS; subst hS; exact Grow.old (by omega) (by assumption) hk) | (intro k hk hl hS; (try simp only [At, From, No, Grow, New] at hk hS); omega))
            replace hB7 := hB7.upd hu9 (by first | (with_reducible assumption) | exact (fun h => h) | exact (fun _ _ _ h => h) | (simp only [At]; omega) | (simp only [At, New, Grow, From, No]; omega) | (intro k hk hl hS; simp only [At] at hS; subst hS; contradiction) | (intro k hk hl hS; simp only [At] at hS; subst hS; exact Grow.old (by omega) (by assumption) hk) | (intro k hk hl hS; (try simp only [At, From, No, Grow, New] at hk hS); omega))
            refine WL.val rfl rfl rfl rfl (r_move rfl (ev_t rfl)) ?_
            refine WL.val rfl rfl rfl rfl (r_extract rfl (ev_t rfl) rfl) ?_
            refine WL.val rfl rfl rfl rfl (r_extract rfl (ev_t rfl) rfl) ?_
            refine WL.val rfl rfl rfl rfl (r_assign rfl (ev_t rfl)) ?_
            refine WL.val rfl rfl rfl rfl (r_assign rfl (ev_t rfl)) ?_
            refine WL.nil ?_
            refine WX.keep [(3, _), (6, _), (7, _), (8, _), (9, _)] ⟨rfl, rfl, rfl, rfl, rfl, trivial⟩ ?_
            refine WX.next ?_
            refine WC.seq ?_
            -- region 11 law.go:75
            refine WC.region ?_
            refine WL.val rfl rfl rfl rfl (r_move rfl (ev_t rfl)) ?_
            refine WL.val rfl rfl rfl rfl (r_eql rfl (ev_t rfl) ev_c) ?_
            refine WL.val rfl rfl rfl rfl (r_move rfl (ev_t rfl)) ?_
            refine WL.cases 49 rfl (fun hb11_2 => ?_) (fun hb11_2 => ?_)
            · try (exfalso; first | (simp at hb11_2; done) | (simp only [decide_eq_true_eq, decide_eq_false_iff_not, Bool.not_eq_true', Bool.not_eq_false', Bool.not_eq_true, Bool.not_eq_false] at hb11_2; omega) | omega)
              all_goals
                try simp only [decide_eq_true_eq, decide_eq_false_iff_not, Bool.not_eq_true', Bool.not_eq_false', Bool.not_eq_true, Bool.not_eq_false, Option.isNone_none, Option.isNone_some, Option.isSome_none, Option.isSome_some, ne_eq, Decidable.not_not] at hb11_2
                refine WL.val rfl rfl rfl rfl (r_move rfl (ev_t rfl)) ?_
                refine WL.val rfl rfl rfl rfl (r_eql rfl (ev_t rfl) ev_c) ?_
                refine WL.val rfl rfl rfl rfl (r_pickT rfl (ev_t rfl) (ev_t rfl)) ?_
                refine WL.val rfl rfl rfl rfl (r_move rfl (ev_t rfl)) ?_
                refine WL.cases 53 rfl (fun hb11_6 => ?_) (fun hb11_6 => ?_)
                · try (exfalso; first | (simp at hb11_6; done) | (simp only [decide_eq_true_eq, decide_eq_false_iff_not, Bool.not_eq_true', Bool.not_eq_false', Bool.not_eq_true, Bool.not_eq_false] at hb11_6; omega) | omega)
                  all_goals
                    try simp only [decide_eq_true_eq, decide_eq_false_iff_not, Bool.not_eq_true', Bool.not_eq_false', Bool.not_eq_true, Bool.not_eq_false, Option.isNone_none, Option.isNone_some, Option.isSome_none, Option.isSome_some, ne_eq, Decidable.not_not] at hb11_6
                    refine WL.val rfl rfl rfl rfl (r_move rfl (ev_t rfl)) ?_
                    refine WL.cons (SO.call (Closed_ok (hm.rd (by omega)) hNq) rfl body_24 ⟨(ev_t rfl), trivial⟩ rfl rfl rfl rfl ?_)
                    rintro v w10 ⟨rfl, hu10⟩
                    rw [hcl]
                    have hs10 := hu10.size
                    replace hU := hU.trans hu10 (by first | exact (fun _ _ h => h) | exact (fun _ _ h => h.elim) | (intro k hl hk; (try simp only [At, New, Grow, From, No] at hk ⊢); omega))
                    replace hm := hm.upd hu10 (by first | (with_reducible assumption) | exact (fun h => h) | exact (fun _ _ _ h => h) | (simp only [At]; omega) | (simp only [At, New, Grow, From, No]; omega) | (intro k hk hl hS; simp only [At] at hS; subst hS; contradiction) | (intro k hk hl hS; simp only [At] at hS; subst hS; exact Grow.old (by omega) (by assumption) hk) | (intro k hk hl hS; (try simp only [At, From, No, Grow, New] at hk hS); omega))
                    replace hB7 := hB7.upd hu10 (by first | (with_reducible assumption) | exact (fun h => h) | exact (fun _ _ _ h => h) | (simp only [At]; omega) | (simp only [At, New, Grow, From, No]; omega) | (intro k hk hl hS; simp only [At] at hS; subst hS; contradiction) | (intro k hk hl hS; simp only [At] at hS; subst hS; exact Grow.old (by omega) (by assumption) hk) | (intro k hk hl hS; (try simp only [At, From, No, Grow, New] at hk hS); omega))
                    refine WL.val rfl rfl rfl rfl (r_pickT rfl (ev_t rfl) (ev_t rfl)) ?_
                    refine WL.val rfl rfl rfl rfl (r_move rfl (ev_t rfl)) ?_
                    refine WL.cases 57 rfl (fun hb11_10 => ?_) (fun hb11_10 => ?_)
                    · try (exfalso; first | (simp at hb11_10; done) | (simp only [decide_eq_true_eq, decide_eq_false_iff_not, Bool.not_eq_true', Bool.not_eq_false', Bool.not_eq_true, Bool.not_eq_false] at hb11_10; omega) | omega)
                      all_goals
                        try simp only [decide_eq_true_eq, decide_eq_false_iff_not, Bool.not_eq_true', Bool.not_eq_false', Bool.not_eq_true, Bool.not_eq_false, Option.isNone_none, Option.isNone_some, Option.isSome_none, Option.isSome_some, ne_eq, Decidable.not_not] at hb11_10
                        refine WL.val rfl rfl rfl rfl (r_loadAgg (vs := [_, _]) rfl (ev_t rfl) agg_32 size_32 (Blk.cells2 hB7)) ?_
                        refine WL.val rfl rfl rfl rfl (r_build (cs := #[_, _]) (vs := [(1, _)]) rfl ⟨⟨rfl, ev_c⟩, trivial⟩ plc_32 zero_32 rfl) ?_
                        refine WL.val rfl rfl rfl rfl (r_eqlPair rfl (ev_t rfl) (ev_t rfl) hpair) ?_
                        refine WL.val rfl rfl rfl rfl (r_pickT rfl (ev_t rfl) (ev_t rfl)) ?_
                        refine WL.val rfl rfl rfl rfl (r_move rfl (ev_t rfl)) ?_
                        refine WL.cases 62 rfl (fun hb11_15 => ?_) (fun hb11_15 => ?_)
                        · try (exfalso; first | (simp at hb11_15; done) | (simp only [decide_eq_true_eq, decide_eq_false_iff_not, Bool.not_eq_true', Bool.not_eq_false', Bool.not_eq_true, Bool.not_eq_false] at hb11_15; omega) | omega)
                          all_goals
                            try simp only [decide_eq_true_eq, decide_eq_false_iff_not, Bool.not_eq_true', Bool.not_eq_false', Bool.not_eq_true, Bool.not_eq_false, Option.isNone_none, Option.isNone_some, Option.isSome_none, Option.isSome_some, ne_eq, Decidable.not_not] at hb11_15
                            refine WL.val rfl rfl rfl rfl (r_move rfl (ev_t rfl)) ?_
                            refine WL.val rfl rfl rfl rfl (r_eql rfl (ev_t rfl) ev_c) ?_
                            refine WL.val rfl rfl rfl rfl (r_pickT rfl (ev_t rfl) (ev_t rfl)) ?_
                            refine WL.val rfl rfl rfl rfl (r_assign rfl (ev_t rfl)) ?_
                            refine WL.nil ?_
                            refine WX.keep [(2, _)] ⟨rfl, trivial⟩ ?_
                            refine WX.next ?_
                            refine WC.ret ?_
                            refine WX.retE1 rfl rfl ?_
                            first
                              | exact ⟨rfl, hU⟩
                              | exact ⟨by simp, hU⟩
                        · try (exfalso; first | (simp at hb11_15; done) | (simp only [decide_eq_true_eq, decide_eq_false_iff_not, Bool.not_eq_true', Bool.not_eq_false', Bool.not_eq_true, Bool.not_eq_false] at hb11_15; omega) | omega)
                          all_goals
                            try simp only [decide_eq_true_eq, decide_eq_false_iff_not, Bool.not_eq_true', Bool.not_eq_false', Bool.not_eq_true, Bool.not_eq_false, Option.isNone_none, Option.isNone_some, Option.isSome_none, Option.isSome_some, ne_eq, Decidable.not_not] at hb11_15
                            refine WL.skip rfl rfl rfl ?_
                            refine WL.skip rfl rfl rfl ?_
                            refine WL.val rfl rfl rfl rfl (r_pickF rfl (ev_t rfl) ev_c) ?_
                            refine WL.val rfl rfl rfl rfl (r_assign rfl (ev_t rfl)) ?_
                            refine WL.nil ?_
                            refine WX.keep [(2, _)] ⟨rfl, trivial⟩ ?_
                            refine WX.next ?_
                            refine WC.ret ?_
                            refine WX.retE1 rfl rfl ?_
                            first
                              | exact ⟨rfl, hU⟩
                              | exact ⟨by simp, hU⟩
                    · try (exfalso; first | (simp at hb11_10; done) | (simp only [decide_eq_true_eq, decide_eq_false_iff_not, Bool.not_eq_true', Bool.not_eq_false', Bool.not_eq_true, Bool.not_eq_false] at hb11_10; omega) | omega)
                      all_goals
                        try simp only [decide_eq_true_eq, decide_eq_false_iff_not, Bool.not_eq_true', Bool.not_eq_false', Bool.not_eq_true, Bool.not_eq_false, Option.isNone_none, Option.isNone_some, Option.isSome_none, Option.isSome_some, ne_eq, Decidable.not_not] at hb11_10
                        refine WL.skip rfl rfl rfl ?_
                        refine WL.skip rfl rfl rfl ?_
                        refine WL.skip rfl rfl rfl ?_
                        refine WL.val rfl rfl rfl rfl (r_pickF rfl (ev_t rfl) ev_c) ?_
                        refine WL.val rfl rfl rfl rfl (r_move rfl (ev_t rfl)) ?_
                        refine WL.skip rfl rfl rfl ?_
                        refine WL.skip rfl rfl rfl ?_
                        refine WL.val rfl rfl rfl rfl (r_pickF rfl (ev_t rfl) ev_c) ?_
                        refine WL.val rfl rfl rfl rfl (r_assign rfl (ev_t rfl)) ?_
                        refine WL.nil ?_
                        refine WX.keep [(2, _)] ⟨rfl, trivial⟩ ?_
                        refine WX.next ?_
                        refine WC.ret ?_
                        refine WX.retE1 rfl rfl ?_
                        first
                          | exact ⟨rfl, hU⟩
                          | exact ⟨by simp, hU⟩
                · try (exfalso; first | (simp at hb11_6; done) | (simp only [decide_eq_true_eq, decide_eq_false_iff_not, Bool.not_eq_true', Bool.not_eq_false', Bool.not_eq_true, Bool.not_eq_false] at hb11_6; omega) | omega)
                  all_goals
                    try simp only [decide_eq_true_eq, decide_eq_false_iff_not, Bool.not_eq_true', Bool.not_eq_false', Bool.not_eq_true, Bool.not_eq_false, Option.isNone_none, Option.isNone_some, Option.isSome_none, Option.isSome_some, ne_eq, Decidable.not_not] at hb11_6
                    refine WL.skip rfl rfl rfl ?_
                    refine WL.skip rfl rfl rfl ?_
                    refine WL.val rfl rfl rfl rfl (r_pickF rfl (ev_t rfl) ev_c) ?_
                    refine WL.val rfl rfl rfl rfl (r_move rfl (ev_t rfl)) ?_
                    refine WL.skip rfl rfl rfl ?_
                    refine WL.skip rfl rfl rfl ?_
                    refine WL.skip rfl rfl rfl ?_
                    refine WL.val rfl rfl rfl rfl (r_pickF rfl (ev_t rfl) ev_c) ?_
                    refine WL.val rfl rfl rfl rfl (r_move rfl (ev_t rfl)) ?_
                    refine WL.skip rfl rfl rfl ?_
                    refine WL.skip rfl rfl rfl ?_
                    refine WL.val rfl rfl rfl rfl (r_pickF rfl (ev_t rfl) ev_c) ?_
                    refine WL.val rfl rfl rfl rfl (r_assign rfl (ev_t rfl)) ?_
                    refine WL.nil ?_
                    refine WX.keep [(2, _)] ⟨rfl, trivial⟩ ?_
                    refine WX.next ?_
                    refine WC.ret ?_
                    refine WX.retE1 rfl rfl ?_
                    first
                      | exact ⟨rfl, hU⟩
                      | exact ⟨by simp, hU⟩
            · try (exfalso; first | (simp at hb11_2; done) | (simp only [decide_eq_true_eq, decide_eq_false_iff_not, Bool.not_eq_true', Bool.not_eq_false', Bool.not_eq_true, Bool.not_eq_false] at hb11_2; omega) | omega)
              all_goals
                try simp only [decide_eq_true_eq, decide_eq_false_iff_not, Bool.not_eq_true', Bool.not_eq_false', Bool.not_eq_true, Bool.not_eq_false, Option.isNone_none, Option.isNone_some, Option.isSome_none, Option.isSome_some, ne_eq, Decidable.not_not] at hb11_2
                refine WL.skip rfl rfl rfl ?_
                refine WL.skip rfl rfl rfl ?_
                refine WL.val rfl rfl rfl rfl (r_pickF rfl (ev_t rfl) ev_c) ?_
                refine WL.val rfl rfl rfl rfl (r_move rfl (ev_t rfl)) ?_
                refine WL.skip rfl rfl rfl ?_
                refine WL.skip rfl rfl rfl ?_
                refine WL.val rfl rfl rfl rfl (r_pickF rfl (ev_t rfl) ev_c) ?_
                refine WL.val rfl rfl rfl rfl (r_move rfl (ev_t rfl)) ?_
                refine WL.skip rfl rfl rfl ?_
                refine WL.skip rfl rfl rfl ?_
                refine WL.skip rfl rfl rfl ?_
                refine WL.val rfl rfl rfl rfl (r_pickF rfl (ev_t rfl) ev_c) ?_
                refine WL.val rfl rfl rfl rfl (r_move rfl (ev_t rfl)) ?_
                refine WL.skip rfl rfl rfl ?_
                refine WL.skip rfl rfl rfl ?_
                refine WL.val rfl rfl rfl rfl (r_pickF rfl (ev_t rfl) ev_c) ?_
                refine WL.val rfl rfl rfl rfl (r_assign rfl (ev_t rfl)) ?_
                refine WL.nil ?_
                refine WX.keep [(2, _)] ⟨rfl, trivial⟩ ?_
                refine WX.next ?_
                refine WC.ret ?_
                refine WX.retE1 rfl rfl ?_
                first
                  | exact ⟨rfl, hU⟩
                  | exact ⟨by simp, hU⟩
end Go.Proofs.Ytjiafgnibhgfbaa
