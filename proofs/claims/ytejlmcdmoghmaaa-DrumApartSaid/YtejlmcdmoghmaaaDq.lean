/-
  law 13: what is handed in and told; one track and another.
-/
import Derived.Test.YtejlmcdmoghmaaaDa
namespace Go.Proofs.Ytejlmcdmoghmaaa
open Go
set_option linter.unusedSimpArgs false
set_option linter.unusedVariables false

def D2 (a b : Trk) (ops : Int) : DS := ⟨[a, b], 5000, ops, 0, false⟩
theorem D2_look {a b : Trk} {ops : Int} : (D2 a b ops).look 0 = 0 ∧ (D2 a b ops).look 1 = 0 := ⟨rfl, rfl⟩
theorem set_get0 {cs : Array Value} {v : Value} (h : 0 < cs.size) : (cs.setIfInBounds 0 v)[0]? = some v := by simp [h]

set_option maxHeartbeats 2000000 in
theorem drumKeeps.walk {w : World} {pv : Value} {p : List UInt8} (hp : Rd w (fun k => k < w.heap.size) pv p.length 1 (p.map U8)) :
    Ret Try.prog 4 #[pv] w fun v w' => v = .bool true ∧ Upd No w w' := by
  obtain ⟨Ap, cp, rfl, hcp⟩ := hp.slice_form
  have hpm := hp.le
  refine enterRet (vs := [_]) (N := 109) Try.func4 rfl rfl rfl ?_
  have hU := Upd.refl No w
  refine WC.keep [(0, _)] ⟨rfl, trivial⟩ ?_
  refine WC.seq ?_
  -- region 0 law.go:127
  refine WC.region ?_
  refine WL.val rfl rfl rfl rfl (r_assign rfl ev_c) ?_
  refine WL.nil ?_
  refine WX.keep [(0, _)] ⟨rfl, trivial⟩ ?_
  refine WX.next ?_
  refine WC.seq ?_
  refine WC.seq ?_
  -- region 1 law.go:128
  refine WC.region ?_
  refine WL.cons (SO.call (awake13_ok _) rfl body_14 trivial rfl rfl rfl rfl ?_)
  rintro v w1 ⟨rfl, hu1⟩
  have hs1 := hu1.size
  replace hU := hU.trans hu1 (by first | exact (fun _ _ h => h) | exact (fun _ _ h => h.elim) | (intro k hl hk; (try simp only [At, New, Grow, From, No] at hk ⊢); omega) | (intro k hl hk; simp only [At, New, Grow, From, No] at *; omega))
  refine WL.val rfl rfl rfl rfl (r_not rfl (ev_t rfl)) ?_
  refine WL.val rfl rfl rfl rfl (r_move rfl (ev_t rfl)) ?_
  refine WL.cases 12 rfl (fun hb1_2 => ?_) (fun hb1_2 => ?_)
  · try (exfalso; first | (simp at hb1_2; done) | (simp only [decide_eq_true_eq, decide_eq_false_iff_not, Bool.not_eq_true', Bool.not_eq_false', Bool.not_eq_true, Bool.not_eq_false] at hb1_2; omega) | omega)
    all_goals
      try simp only [decide_eq_true_eq, decide_eq_false_iff_not, Bool.not_eq_true', Bool.not_eq_false', Bool.not_eq_true, Bool.not_eq_false, Option.isNone_none, Option.isNone_some, Option.isSome_none, Option.isSome_some, ne_eq, Decidable.not_not] at hb1_2
      refine WL.skip rfl rfl rfl ?_
      refine WL.skip rfl rfl rfl ?_
      refine WL.skip rfl rfl rfl ?_
      refine WL.val rfl rfl rfl rfl (r_pickT rfl (ev_t rfl) ev_c) ?_
      refine WL.val rfl rfl rfl rfl (r_move rfl (ev_t rfl)) ?_
      refine WL.skip rfl rfl rfl ?_
      refine WL.skip rfl rfl rfl ?_
      refine WL.skip rfl rfl rfl ?_
      refine WL.val rfl rfl rfl rfl (r_pickT rfl (ev_t rfl) ev_c) ?_
      refine WL.nil ?_
      refine WX.keep [(0, _), (21, _)] ⟨rfl, rfl, trivial⟩ ?_
      refine WX.next ?_
      refine WC.cond_true rfl (ev_t rfl) ?_
      refine WC.seq ?_
      -- region 2 law.go:129
      refine WC.region ?_
      refine WL.cons (SO.call (awake13_ok _) rfl body_14 trivial rfl rfl rfl rfl ?_)
      rintro v w2 ⟨rfl, hu2⟩
      have hs2 := hu2.size
      replace hU := hU.trans hu2 (by first | exact (fun _ _ h => h) | exact (fun _ _ h => h.elim) | (intro k hl hk; (try simp only [At, New, Grow, From, No] at hk ⊢); omega) | (intro k hl hk; simp only [At, New, Grow, From, No] at *; omega))
      refine WL.val rfl rfl rfl rfl (r_assign rfl (ev_t rfl)) ?_
      refine WL.nil ?_
      refine WX.keep [(2, _)] ⟨rfl, trivial⟩ ?_
      refine WX.next ?_
      refine WC.ret ?_
      refine WX.thenRet ?_
      refine WX.retE1 rfl rfl ?_
      first
        | exact ⟨rfl, hU⟩
        | exact ⟨by simp, hU⟩
  · try (exfalso; first | (simp at hb1_2; done) | (simp only [decide_eq_true_eq, decide_eq_false_iff_not, Bool.not_eq_true', Bool.not_eq_false', Bool.not_eq_true, Bool.not_eq_false] at hb1_2; omega) | omega)
    all_goals
      try simp only [decide_eq_true_eq, decide_eq_false_iff_not, Bool.not_eq_true', Bool.not_eq_false', Bool.not_eq_true, Bool.not_eq_false, Option.isNone_none, Option.isNone_some, Option.isSome_none, Option.isSome_some, ne_eq, Decidable.not_not] at hb1_2
      refine WL.val rfl rfl rfl rfl (r_move rfl (ev_t rfl)) ?_
      refine WL.val rfl rfl rfl rfl (r_lenSlice (ts := #[]) rfl (ev_t rfl) elem_22) ?_
      refine WL.val rfl rfl rfl rfl (r_eql rfl (ev_t rfl) ev_c) ?_
      refine WL.val rfl rfl rfl rfl (r_pickF rfl (ev_t rfl) (ev_t rfl)) ?_
      refine WL.val rfl rfl rfl rfl (r_move rfl (ev_t rfl)) ?_
      refine WL.cases 17 rfl (fun hb1_7 => ?_) (fun hb1_7 => ?_)
      · try (exfalso; first | (simp at hb1_7; done) | (simp only [decide_eq_true_eq, decide_eq_false_iff_not, Bool.not_eq_true', Bool.not_eq_false', Bool.not_eq_true, Bool.not_eq_false] at hb1_7; omega) | omega)
        all_goals
          try simp only [decide_eq_true_eq, decide_eq_false_iff_not, Bool.not_eq_true', Bool.not_eq_false', Bool.not_eq_true, Bool.not_eq_false, Option.isNone_none, Option.isNone_some, Option.isSome_none, Option.isSome_some, ne_eq, Decidable.not_not] at hb1_7
          refine WL.skip rfl rfl rfl ?_
          refine WL.skip rfl rfl rfl ?_
          refine WL.skip rfl rfl rfl ?_
          refine WL.val rfl rfl rfl rfl (r_pickT rfl (ev_t rfl) ev_c) ?_
          refine WL.nil ?_
          refine WX.keep [(0, _), (21, _)] ⟨rfl, rfl, trivial⟩ ?_
          refine WX.next ?_
          refine WC.cond_true rfl (ev_t rfl) ?_
          refine WC.seq ?_
          -- region 2 law.go:129
          refine WC.region ?_
          refine WL.cons (SO.call (awake13_ok _) rfl body_14 trivial rfl rfl rfl rfl ?_)
          rintro v w3 ⟨rfl, hu3⟩
          have hs3 := hu3.size
          replace hU := hU.trans hu3 (by first | exact (fun _ _ h => h) | exact (fun _ _ h => h.elim) | (intro k hl hk; (try simp only [At, New, Grow, From, No] at hk ⊢); omega) | (intro k hl hk; simp only [At, New, Grow, From, No] at *; omega))
          refine WL.val rfl rfl rfl rfl (r_assign rfl (ev_t rfl)) ?_
          refine WL.nil ?_
          refine WX.keep [(2, _)] ⟨rfl, trivial⟩ ?_
          refine WX.next ?_
          refine WC.ret ?_
          refine WX.thenRet ?_
          refine WX.retE1 rfl rfl ?_
          first
            | exact ⟨rfl, hU⟩
            | exact ⟨by simp, hU⟩
      · try (exfalso; first | (simp at hb1_7; done) | (simp only [decide_eq_true_eq, decide_eq_false_iff_not, Bool.not_eq_true', Bool.not_eq_false', Bool.not_eq_true, Bool.not_eq_false] at hb1_7; omega) | omega)
        all_goals
          try simp only [decide_eq_true_eq, decide_eq_false_iff_not, Bool.not_eq_true', Bool.not_eq_false', Bool.not_eq_true, Bool.not_eq_false, Option.isNone_none, Option.isNone_some, Option.isSome_none, Option.isSome_some, ne_eq, Decidable.not_not] at hb1_7
          obtain ⟨p0, pr, rfl⟩ : ∃ p0 pr, p = p0 :: pr := by
            match p with
            | [] => simp at hb1_7
            | a :: r => exact ⟨a, r, rfl⟩
          refine WL.val rfl rfl rfl rfl (r_move rfl (ev_t rfl)) ?_
          refine WL.val rfl rfl rfl rfl (r_lenSlice (ts := #[]) rfl (ev_t rfl) elem_22) ?_
          refine WL.val rfl rfl rfl rfl (r_gtr rfl (ev_t rfl) ev_c) ?_
          refine WL.val rfl rfl rfl rfl (r_pickF rfl (ev_t rfl) (ev_t rfl)) ?_
          refine WL.nil ?_
          refine WX.keep [(0, _), (21, _)] ⟨rfl, rfl, trivial⟩ ?_
          refine WX.next ?_
          refine WC.cond rfl (ev_t rfl) (fun hc1 => ?_) (fun hc1 => ?_)
          · try (exfalso; first | (simp at hc1; done) | (simp only [decide_eq_true_eq, decide_eq_false_iff_not, Bool.not_eq_true', Bool.not_eq_false', Bool.not_eq_true, Bool.not_eq_false] at hc1; omega) | omega)
            all_goals
              try simp only [decide_eq_true_eq, decide_eq_false_iff_not, Bool.not_eq_true', Bool.not_eq_false', Bool.not_eq_true, Bool.not_eq_false, Option.isNone_none, Option.isNone_some, Option.isSome_none, Option.isSome_some, ne_eq, Decidable.not_not] at hc1
              refine WC.seq ?_
              -- region 2 law.go:129
              refine WC.region ?_
              refine WL.cons (SO.call (awake13_ok _) rfl body_14 trivial rfl rfl rfl rfl ?_)
              rintro v w4 ⟨rfl, hu4⟩
              have hs4 := hu4.size
              replace hU := hU.trans hu4 (by first | exact (fun _ _ h => h) | exact (fun _ _ h => h.elim) | (intro k hl hk; (try simp only [At, New, Grow, From, No] at hk ⊢); omega) | (intro k hl hk; simp only [At, New, Grow, From, No] at *; omega))
              refine WL.val rfl rfl rfl rfl (r_assign rfl (ev_t rfl)) ?_
              refine WL.nil ?_
              refine WX.keep [(2, _)] ⟨rfl, trivial⟩ ?_
              refine WX.next ?_
              refine WC.ret ?_
              refine WX.thenRet ?_
              refine WX.retE1 rfl rfl ?_
              first
                | exact ⟨rfl, hU⟩
                | exact ⟨by simp, hU⟩
          · try (exfalso; first | (simp at hc1; done) | (simp only [decide_eq_true_eq, decide_eq_false_iff_not, Bool.not_eq_true', Bool.not_eq_false', Bool.not_eq_true, Bool.not_eq_false] at hc1; omega) | omega)
            all_goals
              try simp only [decide_eq_true_eq, decide_eq_false_iff_not, Bool.not_eq_true', Bool.not_eq_false', Bool.not_eq_true, Bool.not_eq_false, Option.isNone_none, Option.isNone_some, Option.isSome_none, Option.isSome_some, ne_eq, Decidable.not_not] at hc1
              refine WC.skip ?_
              refine WX.next ?_
              refine WC.seq ?_
              -- region 3 law.go:131
              refine WC.region ?_
              refine WL.cons (SO.call (Dnew_ok (n := 2) (most := 5000) (by omega) (by omega)) rfl body_15 ⟨ev_c, ev_c, trivial⟩ rfl rfl rfl rfl ?_)
              rintro v w5 ⟨pd, rfl, hd, hu5⟩
              have hs5 := hu5.size
              replace hU := hU.trans hu5 (by first | exact (fun _ _ h => h) | exact (fun _ _ h => h.elim) | (intro k hl hk; (try simp only [At, New, Grow, From, No] at hk ⊢); omega) | (intro k hl hk; simp only [At, New, Grow, From, No] at *; omega))
              replace hd : IsD w5 _ pd (D2 ⟨[], [], false⟩ ⟨[], [], false⟩ 0) := hd
              refine WL.val rfl rfl rfl rfl (r_move rfl (ev_t rfl)) ?_
              refine WL.val rfl rfl rfl rfl (r_extract rfl (ev_t rfl) rfl) ?_
              refine WL.val rfl rfl rfl rfl (r_extract rfl (ev_t rfl) rfl) ?_
              refine WL.val rfl rfl rfl rfl (r_assign rfl (ev_t rfl)) ?_
              refine WL.val rfl rfl rfl rfl (r_assign rfl (ev_t rfl)) ?_
              refine WL.nil ?_
              refine WX.keep [(0, _), (3, _)] ⟨rfl, rfl, trivial⟩ ?_
              refine WX.next ?_
              refine WC.seq ?_
              -- region 4 law.go:132
              refine WC.region ?_
              refine WL.val rfl rfl rfl rfl (r_move rfl (ev_t rfl)) ?_
              refine WL.cons (SO.append (Own.nil _ (fun _ => False) _ _) (hp.upd hU (fun _ _ _ h => h)) row_22 (U8_one _) (le_maxLen (by omega)) (by omega) rfl ev_c (ev_t rfl) rfl rfl rfl rfl ?_)
              intro v6 w6 hq hu6
              have hs6 := hu6.size
              replace hU := hU.trans hu6 (by first | exact (fun _ _ h => h) | exact (fun _ _ h => h.elim) | (intro k hl hk; (try simp only [At, New, Grow, From, No] at hk ⊢); omega) | (intro k hl hk; simp only [At, New, Grow, From, No] at *; omega))
              replace hd := hd.upd hu6 (by first | exact (fun _ _ _ h => h) | (intro k hk hl hS; simp only [At, New, Grow, From, No] at *; omega))
              obtain ⟨A6, c6, rfl, hc6⟩ := Own.form hq
              simp only [Nat.zero_add, List.nil_append] at hq ⊢
              replace hq := Own.nilGrow hq
              refine WL.val rfl rfl rfl rfl (r_assign rfl (ev_t rfl)) ?_
              refine WL.nil ?_
              refine WX.keep [(0, _), (3, _), (5, _)] ⟨rfl, rfl, rfl, trivial⟩ ?_
              refine WX.next ?_
              refine WC.seq ?_
              refine WC.seq ?_
              -- region 5 law.go:133
              refine WC.region ?_
              refine WL.val rfl rfl rfl rfl (r_move rfl (ev_t rfl)) ?_
              refine WL.val rfl rfl rfl rfl (r_move rfl (ev_t rfl)) ?_
              refine WL.cons (SO.call (Write_good hd D2_look.1 (hq.rd (by omega)) (fun k hk hl hF => by simp only [New, Grow] at *; omega)) rfl body_18 ⟨(ev_t rfl), ev_c, (ev_t rfl), trivial⟩ rfl rfl rfl rfl ?_)
              rintro v w7 ⟨rfl, hd, hu7⟩
              rw [show (D2 ⟨[], [], false⟩ ⟨[], [], false⟩ 0).write 0 (p0 :: pr) = (D2 ⟨[], p0 :: pr, true⟩ ⟨[], [], false⟩ 1, 0) by unfold DS.write; rw [if_neg (by simp [D2_look]), if_neg (by simp only [D2]; omega)]; rfl] at hd ⊢
              have hs7 := hu7.size
              replace hU := hU.trans hu7 (by first | exact (fun _ _ h => h) | exact (fun _ _ h => h.elim) | (intro k hl hk; (try simp only [At, New, Grow, From, No] at hk ⊢); omega) | (intro k hl hk; simp only [At, New, Grow, From, No] at *; omega))
              replace hq := hq.upd hu7 (by first | exact (fun _ _ _ h => h) | (intro k hk hl hS; simp only [At, New, Grow, From, No] at *; omega))
              refine WL.val rfl rfl rfl rfl (r_neq rfl (ev_t rfl) ev_c) ?_
              refine WL.val rfl rfl rfl rfl (r_move rfl (ev_t rfl)) ?_
              refine WL.cases 33 rfl (fun hb5_4 => ?_) (fun hb5_4 => ?_)
              · try (exfalso; first | (simp at hb5_4; done) | (simp only [decide_eq_true_eq, decide_eq_false_iff_not, Bool.not_eq_true', Bool.not_eq_false', Bool.not_eq_true, Bool.not_eq_false] at hb5_4; omega) | omega)
                all_goals
                  try simp only [decide_eq_true_eq, decide_eq_false_iff_not, Bool.not_eq_true', Bool.not_eq_false', Bool.not_eq_true, Bool.not_eq_false, Option.isNone_none, Option.isNone_some, Option.isSome_none, Option.isSome_some, ne_eq, Decidable.not_not] at hb5_4
                  refine WL.skip rfl rfl rfl ?_
                  refine WL.skip rfl rfl rfl ?_
                  refine WL.skip rfl rfl rfl ?_
                  refine WL.skip rfl rfl rfl ?_
                  refine WL.val rfl rfl rfl rfl (r_pickT rfl (ev_t rfl) ev_c) ?_
                  refine WL.nil ?_
                  refine WX.keep [(0, _), (3, _), (5, _), (38, _)] ⟨rfl, rfl, rfl, rfl, trivial⟩ ?_
                  refine WX.next ?_
                  refine WC.cond_true rfl (ev_t rfl) ?_
                  refine WC.seq ?_
                  -- region 6 law.go:134
                  refine WC.region ?_
                  refine WL.val rfl rfl rfl rfl (r_assign rfl ev_c) ?_
                  refine WL.nil ?_
                  refine WX.keep [(2, _)] ⟨rfl, trivial⟩ ?_
                  refine WX.next ?_
                  refine WC.ret ?_
                  refine WX.thenRet ?_
                  refine WX.retE1 rfl rfl ?_
                  first
                    | exact ⟨rfl, hU⟩
                    | exact ⟨by simp, hU⟩
              · try (exfalso; first | (simp at hb5_4; done) | (simp only [decide_eq_true_eq, decide_eq_false_iff_not, Bool.not_eq_true', Bool.not_eq_false', Bool.not_eq_true, Bool.not_eq_false] at hb5_4; omega) | omega)
                all_goals
                  try simp only [decide_eq_true_eq, decide_eq_false_iff_not, Bool.not_eq_true', Bool.not_eq_false', Bool.not_eq_true, Bool.not_eq_false, Option.isNone_none, Option.isNone_some, Option.isSome_none, Option.isSome_some, ne_eq, Decidable.not_not] at hb5_4
                  refine WL.val rfl rfl rfl rfl (r_move rfl (ev_t rfl)) ?_
                  refine WL.val rfl rfl rfl rfl (r_move rfl (ev_t rfl)) ?_
                  refine WL.cons (SO.call (Append_good hd D2_look.2 (hq.rd (by omega)) (fun k hk hl hF => by simp only [New, Grow] at *; omega)) rfl body_16 ⟨(ev_t rfl), ev_c, (ev_t rfl), trivial⟩ rfl rfl rfl rfl ?_)
                  rintro v w8 ⟨rfl, hd, hu8⟩
                  rw [show (D2 ⟨[], p0 :: pr, true⟩ ⟨[], [], false⟩ 1).append 1 (p0 :: pr) = (D2 ⟨[], p0 :: pr, true⟩ ⟨[], p0 :: pr, false⟩ 2, 0) by unfold DS.append; rw [if_neg (by simp [D2_look]), if_neg (by simp [D2, DS.track]; simp at *; omega)]; rfl] at hd ⊢
                  have hs8 := hu8.size
                  replace hU := hU.trans hu8 (by first | exact (fun _ _ h => h) | exact (fun _ _ h => h.elim) | (intro k hl hk; (try simp only [At, New, Grow, From, No] at hk ⊢); omega) | (intro k hl hk; simp only [At, New, Grow, From, No] at *; omega))
                  replace hq := hq.upd hu8 (by first | exact (fun _ _ _ h => h) | (intro k hk hl hS; simp only [At, New, Grow, From, No] at *; omega))
                  refine WL.val rfl rfl rfl rfl (r_neq rfl (ev_t rfl) ev_c) ?_
                  refine WL.val rfl rfl rfl rfl (r_pickF rfl (ev_t rfl) (ev_t rfl)) ?_
                  refine WL.nil ?_
                  refine WX.keep [(0, _), (3, _), (5, _), (38, _)] ⟨rfl, rfl, rfl, rfl, trivial⟩ ?_
                  refine WX.next ?_
                  refine WC.cond rfl (ev_t rfl) (fun hc5 => ?_) (fun hc5 => ?_)
                  · try (exfalso; first | (simp at hc5; done) | (simp only [decide_eq_true_eq, decide_eq_false_iff_not, Bool.not_eq_true', Bool.not_eq_false', Bool.not_eq_true, Bool.not_eq_false] at hc5; omega) | omega)
                    all_goals
                      try simp only [decide_eq_true_eq, decide_eq_false_iff_not, Bool.not_eq_true', Bool.not_eq_false', Bool.not_eq_true, Bool.not_eq_false, Option.isNone_none, Option.isNone_some, Option.isSome_none, Option.isSome_some, ne_eq, Decidable.not_not] at hc5
                      refine WC.seq ?_
                      -- region 6 law.go:134
                      refine WC.region ?_
                      refine WL.val rfl rfl rfl rfl (r_assign rfl ev_c) ?_
                      refine WL.nil ?_
                      refine WX.keep [(2, _)] ⟨rfl, trivial⟩ ?_
                      refine WX.next ?_
                      refine WC.ret ?_
                      refine WX.thenRet ?_
                      refine WX.retE1 rfl rfl ?_
                      first
                        | exact ⟨rfl, hU⟩
                        | exact ⟨by simp, hU⟩
                  · try (exfalso; first | (simp at hc5; done) | (simp only [decide_eq_true_eq, decide_eq_false_iff_not, Bool.not_eq_true', Bool.not_eq_false', Bool.not_eq_true, Bool.not_eq_false] at hc5; omega) | omega)
                    all_goals
                      try simp only [decide_eq_true_eq, decide_eq_false_iff_not, Bool.not_eq_true', Bool.not_eq_false', Bool.not_eq_true, Bool.not_eq_false, Option.isNone_none, Option.isNone_some, Option.isSome_none, Option.isSome_some, ne_eq, Decidable.not_not] at hc5
                      refine WC.skip ?_
                      refine WX.next ?_
                      refine WC.seq ?_
                      obtain ⟨gq, capq, curq, heq, hbq, hgq, hkq, _, hszq, _⟩ := Own.open hq (by simp)
                      injection heq with e1 _ e2
                      subst e1 e2
                      have hq0 := (hq.rd (by omega)).cell (j := 0) (q := 0) (u := U8 p0) (by omega) rfl
                      -- region 7 law.go:136
                      refine WC.region ?_
                      refine WL.val rfl rfl rfl rfl (r_move rfl (ev_t rfl)) ?_
                      refine WL.val rfl rfl rfl rfl (r_move rfl (ev_t rfl)) ?_
                      refine WL.val rfl rfl rfl rfl (r_indexAddr rfl (ev_t rfl) ev_c elem_22 size_5 (by omega) (by omega)) ?_
                      refine WL.val rfl rfl rfl rfl (r_load rfl (ev_t rfl) flat_5 hq0) ?_
                      refine WL.val rfl rfl rfl rfl (r_xor rfl (ev_t rfl) ev_c) ?_
                      refine WL.val rfl rfl rfl rfl (r_indexAddr rfl (ev_t rfl) ev_c elem_22 size_5 (by omega) (by omega)) ?_
                      refine WL.cons (SO.store rfl (ev_t rfl) (ev_t rfl) size_5 hbq (blt_of (by rw [hszq]; simp; simp at hkq; omega)) rfl rfl rfl rfl ?_)
                      intro w9 hu9 hbq hzq
                      replace hd := hd.upd hu9 (by intro k hk hl hS; simp only [At, New, Grow] at *; omega)
                      have hs9 := hu9.size
                      replace hU := hU.trans hu9 (by first | exact (fun _ _ h => h) | exact (fun _ _ h => h.elim) | (intro k hl hk; (try simp only [At, New, Grow, From, No] at hk ⊢); omega) | (intro k hl hk; simp only [At, New, Grow, From, No] at *; omega))
                      refine WL.nil ?_
                      refine WX.keep [(0, _), (3, _)] ⟨rfl, rfl, trivial⟩ ?_
                      refine WX.next ?_
                      refine WC.seq ?_
                      -- region 8 law.go:137
                      refine WC.region ?_
                      refine WL.val rfl rfl rfl rfl (r_move rfl (ev_t rfl)) ?_
                      refine WL.cons (SO.call (Read_good hd D2_look.1) rfl body_20 ⟨(ev_t rfl), ev_c, trivial⟩ rfl rfl rfl rfl ?_)
                      rintro v w10 ⟨va, rfl, ha, hu10⟩
                      rw [show ((D2 ⟨[], p0 :: pr, true⟩ ⟨[], p0 :: pr, false⟩ 2).track (0 : Int).toNat).now = p0 :: pr from rfl] at ha
                      have hs10 := hu10.size
                      replace hU := hU.trans hu10 (by first | exact (fun _ _ h => h) | exact (fun _ _ h => h.elim) | (intro k hl hk; (try simp only [At, New, Grow, From, No] at hk ⊢); omega) | (intro k hl hk; simp only [At, New, Grow, From, No] at *; omega))
                      replace hd := hd.upd hu10 (by first | exact (fun _ _ _ h => h) | (intro k hk hl hS; simp only [At, New, Grow, From, No] at *; omega))
                      refine WL.val rfl rfl rfl rfl (r_move rfl (ev_t rfl)) ?_
                      refine WL.val rfl rfl rfl rfl (r_extract rfl (ev_t rfl) rfl) ?_
                      refine WL.val rfl rfl rfl rfl (r_extract rfl (ev_t rfl) rfl) ?_
                      refine WL.val rfl rfl rfl rfl (r_assign rfl (ev_t rfl)) ?_
                      refine WL.val rfl rfl rfl rfl (r_assign rfl (ev_t rfl)) ?_
                      refine WL.nil ?_
                      refine WX.keep [(0, _), (3, _), (6, _)] ⟨rfl, rfl, rfl, trivial⟩ ?_
                      refine WX.next ?_
                      refine WC.seq ?_
                      -- region 9 law.go:138
                      refine WC.region ?_
                      refine WL.val rfl rfl rfl rfl (r_move rfl (ev_t rfl)) ?_
                      refine WL.cons (SO.call (Read_good hd D2_look.2) rfl body_20 ⟨(ev_t rfl), ev_c, trivial⟩ rfl rfl rfl rfl ?_)
                      rintro v w11 ⟨vb, rfl, hb, hu11⟩
                      rw [show ((D2 ⟨[], p0 :: pr, true⟩ ⟨[], p0 :: pr, false⟩ 2).track (1 : Int).toNat).now = p0 :: pr from rfl] at hb
                      have hs11 := hu11.size
                      replace hU := hU.trans hu11 (by first | exact (fun _ _ h => h) | exact (fun _ _ h => h.elim) | (intro k hl hk; (try simp only [At, New, Grow, From, No] at hk ⊢); omega) | (intro k hl hk; simp only [At, New, Grow, From, No] at *; omega))
                      replace hd := hd.upd hu11 (by first | exact (fun _ _ _ h => h) | (intro k hk hl hS; simp only [At, New, Grow, From, No] at *; omega))
                      replace ha := ha.upd hu11 (by first | exact (fun _ _ _ h => h) | (intro k hk hl hS; simp only [At, New, Grow, From, No] at *; omega))
                      obtain ⟨Aa, ca, rfl, hca⟩ := Own.form ha
                      obtain ⟨Ab, cb, rfl, hcb⟩ := Own.form hb
                      refine WL.val rfl rfl rfl rfl (r_move rfl (ev_t rfl)) ?_
                      refine WL.val rfl rfl rfl rfl (r_extract rfl (ev_t rfl) rfl) ?_
                      refine WL.val rfl rfl rfl rfl (r_extract rfl (ev_t rfl) rfl) ?_
                      refine WL.val rfl rfl rfl rfl (r_assign rfl (ev_t rfl)) ?_
                      refine WL.val rfl rfl rfl rfl (r_assign rfl (ev_t rfl)) ?_
                      refine WL.nil ?_
                      refine WX.keep [(0, _), (3, _), (6, _), (8, _)] ⟨rfl, rfl, rfl, rfl, trivial⟩ ?_
                      refine WX.next ?_
                      refine WC.seq ?_
                      refine WC.seq ?_
                      -- region 10 law.go:139
                      refine WC.region ?_
                      refine WL.val rfl rfl rfl rfl (r_move rfl (ev_t rfl)) ?_
                      refine WL.val rfl rfl rfl rfl (r_toStr rfl (ev_t rfl) (ha.rd (by omega)) elem_22 int_5 str_9) ?_
                      refine WL.val rfl rfl rfl rfl (r_move rfl (ev_t rfl)) ?_
                      refine WL.val rfl rfl rfl rfl (r_toStr rfl (ev_t rfl) (hp.upd hU (fun _ _ _ h => h)) elem_22 int_5 str_9) ?_
                      refine WL.val rfl rfl rfl rfl (r_neqStrL rfl (ev_t rfl) (ev_t rfl)) ?_
                      refine WL.val rfl rfl rfl rfl (r_move rfl (ev_t rfl)) ?_
                      refine WL.cases 60 rfl (fun hb10_5 => ?_) (fun hb10_5 => ?_)
                      · try (exfalso; first | (simp at hb10_5; done) | (simp only [decide_eq_true_eq, decide_eq_false_iff_not, Bool.not_eq_true', Bool.not_eq_false', Bool.not_eq_true, Bool.not_eq_false] at hb10_5; omega) | omega)
                        all_goals
                          try simp only [decide_eq_true_eq, decide_eq_false_iff_not, Bool.not_eq_true', Bool.not_eq_false', Bool.not_eq_true, Bool.not_eq_false, Option.isNone_none, Option.isNone_some, Option.isSome_none, Option.isSome_some, ne_eq, Decidable.not_not] at hb10_5
                          refine WL.skip rfl rfl rfl ?_
                          refine WL.skip rfl rfl rfl ?_
                          refine WL.skip rfl rfl rfl ?_
                          refine WL.skip rfl rfl rfl ?_
                          refine WL.skip rfl rfl rfl ?_
                          refine WL.val rfl rfl rfl rfl (r_pickT rfl (ev_t rfl) ev_c) ?_
                          refine WL.nil ?_
                          refine WX.keep [(0, _), (3, _), (6, _), (8, _), (66, _)] ⟨rfl, rfl, rfl, rfl, rfl, trivial⟩ ?_
                          refine WX.next ?_
                          refine WC.cond_true rfl (ev_t rfl) ?_
                          refine WC.seq ?_
                          -- region 11 law.go:140
                          refine WC.region ?_
                          refine WL.val rfl rfl rfl rfl (r_assign rfl ev_c) ?_
                          refine WL.nil ?_
                          refine WX.keep [(2, _)] ⟨rfl, trivial⟩ ?_
                          refine WX.next ?_
                          refine WC.ret ?_
                          refine WX.thenRet ?_
                          refine WX.retE1 rfl rfl ?_
                          first
                            | exact ⟨rfl, hU⟩
                            | exact ⟨by simp, hU⟩
                      · try (exfalso; first | (simp at hb10_5; done) | (simp only [decide_eq_true_eq, decide_eq_false_iff_not, Bool.not_eq_true', Bool.not_eq_false', Bool.not_eq_true, Bool.not_eq_false] at hb10_5; omega) | omega)
                        all_goals
                          try simp only [decide_eq_true_eq, decide_eq_false_iff_not, Bool.not_eq_true', Bool.not_eq_false', Bool.not_eq_true, Bool.not_eq_false, Option.isNone_none, Option.isNone_some, Option.isSome_none, Option.isSome_some, ne_eq, Decidable.not_not] at hb10_5
                          refine WL.val rfl rfl rfl rfl (r_move rfl (ev_t rfl)) ?_
                          refine WL.val rfl rfl rfl rfl (r_toStr rfl (ev_t rfl) (hb.rd (by omega)) elem_22 int_5 str_9) ?_
                          refine WL.val rfl rfl rfl rfl (r_move rfl (ev_t rfl)) ?_
                          refine WL.val rfl rfl rfl rfl (r_toStr rfl (ev_t rfl) (hp.upd hU (fun _ _ _ h => h)) elem_22 int_5 str_9) ?_
                          refine WL.val rfl rfl rfl rfl (r_neqStrL rfl (ev_t rfl) (ev_t rfl)) ?_
                          refine WL.val rfl rfl rfl rfl (r_pickF rfl (ev_t rfl) (ev_t rfl)) ?_
                          refine WL.nil ?_
                          refine WX.keep [(0, _), (3, _), (6, _), (8, _), (66, _)] ⟨rfl, rfl, rfl, rfl, rfl, trivial⟩ ?_
                          refine WX.next ?_
                          refine WC.cond rfl (ev_t rfl) (fun hc10 => ?_) (fun hc10 => ?_)
                          · try (exfalso; first | (simp at hc10; done) | (simp only [decide_eq_true_eq, decide_eq_false_iff_not, Bool.not_eq_true', Bool.not_eq_false', Bool.not_eq_true, Bool.not_eq_false] at hc10; omega) | omega)
                            all_goals
                              try simp only [decide_eq_true_eq, decide_eq_false_iff_not, Bool.not_eq_true', Bool.not_eq_false', Bool.not_eq_true, Bool.not_eq_false, Option.isNone_none, Option.isNone_some, Option.isSome_none, Option.isSome_some, ne_eq, Decidable.not_not] at hc10
                              refine WC.seq ?_
                              -- region 11 law.go:140
                              refine WC.region ?_
                              refine WL.val rfl rfl rfl rfl (r_assign rfl ev_c) ?_
                              refine WL.nil ?_
                              refine WX.keep [(2, _)] ⟨rfl, trivial⟩ ?_
                              refine WX.next ?_
                              refine WC.ret ?_
                              refine WX.thenRet ?_
                              refine WX.retE1 rfl rfl ?_
                              first
                                | exact ⟨rfl, hU⟩
                                | exact ⟨by simp, hU⟩
                          · try (exfalso; first | (simp at hc10; done) | (simp only [decide_eq_true_eq, decide_eq_false_iff_not, Bool.not_eq_true', Bool.not_eq_false', Bool.not_eq_true, Bool.not_eq_false] at hc10; omega) | omega)
                            all_goals
                              try simp only [decide_eq_true_eq, decide_eq_false_iff_not, Bool.not_eq_true', Bool.not_eq_false', Bool.not_eq_true, Bool.not_eq_false, Option.isNone_none, Option.isNone_some, Option.isSome_none, Option.isSome_some, ne_eq, Decidable.not_not] at hc10
                              refine WC.skip ?_
                              refine WX.next ?_
                              refine WC.seq ?_
                              obtain ⟨ga, capa, cura, heq, hba, hga, hka, _, hsza, _⟩ := Own.open ha (by simp)
                              injection heq with e1 _ e2
                              subst e1 e2
                              have hq1 := (ha.rd (by omega)).cell (j := 0) (q := 0) (u := U8 p0) (by omega) rfl
                              -- region 12 law.go:142
                              refine WC.region ?_
                              refine WL.val rfl rfl rfl rfl (r_move rfl (ev_t rfl)) ?_
                              refine WL.val rfl rfl rfl rfl (r_move rfl (ev_t rfl)) ?_
                              refine WL.val rfl rfl rfl rfl (r_indexAddr rfl (ev_t rfl) ev_c elem_22 size_5 (by omega) (by omega)) ?_
                              refine WL.val rfl rfl rfl rfl (r_load rfl (ev_t rfl) flat_5 hq1) ?_
                              refine WL.val rfl rfl rfl rfl (r_xor rfl (ev_t rfl) ev_c) ?_
                              refine WL.val rfl rfl rfl rfl (r_indexAddr rfl (ev_t rfl) ev_c elem_22 size_5 (by omega) (by omega)) ?_
                              refine WL.cons (SO.store rfl (ev_t rfl) (ev_t rfl) size_5 hba (blt_of (by rw [hsza]; simp; simp at hka; omega)) rfl rfl rfl rfl ?_)
                              intro w12 hu12 hba hzq
                              replace hd := hd.upd hu12 (by intro k hk hl hS; simp only [At, New, Grow] at *; omega)
                              have hs12 := hu12.size
                              replace hU := hU.trans hu12 (by first | exact (fun _ _ h => h) | exact (fun _ _ h => h.elim) | (intro k hl hk; (try simp only [At, New, Grow, From, No] at hk ⊢); omega) | (intro k hl hk; simp only [At, New, Grow, From, No] at *; omega))
                              replace hb := hb.upd hu12 (by first | exact (fun _ _ _ h => h) | (intro k hk hl hS; simp only [At, New, Grow, From, No] at *; omega))
                              refine WL.nil ?_
                              refine WX.keep [(0, _), (3, _), (8, _)] ⟨rfl, rfl, rfl, trivial⟩ ?_
                              refine WX.next ?_
                              refine WC.seq ?_
                              obtain ⟨gb, capb, curb, heq, hbb, hgb, hkb, _, hszb, _⟩ := Own.open hb (by simp)
                              injection heq with e1 _ e2
                              subst e1 e2
                              have hq1 := (hb.rd (by omega)).cell (j := 0) (q := 0) (u := U8 p0) (by omega) rfl
                              -- region 13 law.go:143
                              refine WC.region ?_
                              refine WL.val rfl rfl rfl rfl (r_move rfl (ev_t rfl)) ?_
                              refine WL.val rfl rfl rfl rfl (r_move rfl (ev_t rfl)) ?_
                              refine WL.val rfl rfl rfl rfl (r_indexAddr rfl (ev_t rfl) ev_c elem_22 size_5 (by omega) (by omega)) ?_
                              refine WL.val rfl rfl rfl rfl (r_load rfl (ev_t rfl) flat_5 hq1) ?_
                              refine WL.val rfl rfl rfl rfl (r_xor rfl (ev_t rfl) ev_c) ?_
                              refine WL.val rfl rfl rfl rfl (r_indexAddr rfl (ev_t rfl) ev_c elem_22 size_5 (by omega) (by omega)) ?_
                              refine WL.cons (SO.store rfl (ev_t rfl) (ev_t rfl) size_5 hbb (blt_of (by rw [hszb]; simp; simp at hkb; omega)) rfl rfl rfl rfl ?_)
                              intro w13 hu13 hbb hzq
                              replace hd := hd.upd hu13 (by intro k hk hl hS; simp only [At, New, Grow] at *; omega)
                              have hs13 := hu13.size
                              replace hU := hU.trans hu13 (by first | exact (fun _ _ h => h) | exact (fun _ _ h => h.elim) | (intro k hl hk; (try simp only [At, New, Grow, From, No] at hk ⊢); omega) | (intro k hl hk; simp only [At, New, Grow, From, No] at *; omega))
                              refine WL.nil ?_
                              refine WX.keep [(0, _), (3, _), (8, _)] ⟨rfl, rfl, rfl, trivial⟩ ?_
                              refine WX.next ?_
                              refine WC.seq ?_
                              -- region 14 law.go:144
                              refine WC.region ?_
                              refine WL.val rfl rfl rfl rfl (r_move rfl (ev_t rfl)) ?_
                              refine WL.cons (SO.call (Sync_good hd D2_look.2) rfl body_17 ⟨(ev_t rfl), ev_c, trivial⟩ rfl rfl rfl rfl ?_)
                              rintro v w14 ⟨rfl, hd, hu14⟩
                              rw [show (D2 ⟨[], p0 :: pr, true⟩ ⟨[], p0 :: pr, false⟩ 2).sync 1 = (D2 ⟨[], p0 :: pr, true⟩ ⟨p0 :: pr, p0 :: pr, false⟩ 3, 0) by unfold DS.sync; rw [if_neg (by simp [D2_look]), if_neg (by simp [DS.begin, D2, armB])]; rfl] at hd ⊢
                              have hs14 := hu14.size
                              replace hU := hU.trans hu14 (by first | exact (fun _ _ h => h) | exact (fun _ _ h => h.elim) | (intro k hl hk; (try simp only [At, New, Grow, From, No] at hk ⊢); omega) | (intro k hl hk; simp only [At, New, Grow, From, No] at *; omega))
                              replace hbb := hbb.upd hu14 (by first | exact (fun h => h) | (intro hS; simp only [At, New, Grow, From, No] at *; omega))
                              refine WL.nil ?_
                              refine WX.keep [(0, _), (3, _), (8, _)] ⟨rfl, rfl, rfl, trivial⟩ ?_
                              refine WX.next ?_
                              refine WC.seq ?_
                              -- region 15 law.go:145
                              refine WC.region ?_
                              refine WL.val rfl rfl rfl rfl (r_move rfl (ev_t rfl)) ?_
                              refine WL.val rfl rfl rfl rfl (r_move rfl (ev_t rfl)) ?_
                              refine WL.val rfl rfl rfl rfl (r_indexAddr rfl (ev_t rfl) ev_c elem_22 size_5 (by omega) (by omega)) ?_
                              refine WL.val rfl rfl rfl rfl (r_load rfl (ev_t rfl) flat_5 (Blk.cell hbb (set_get0 (by rw [hszb]; simp at hkb ⊢; omega)))) ?_
                              refine WL.val rfl rfl rfl rfl (r_xor rfl (ev_t rfl) ev_c) ?_
                              refine WL.val rfl rfl rfl rfl (r_indexAddr rfl (ev_t rfl) ev_c elem_22 size_5 (by omega) (by omega)) ?_
                              refine WL.cons (SO.store rfl (ev_t rfl) (ev_t rfl) size_5 hbb (blt_of (by rw [Array.size_setIfInBounds, hszb]; simp; simp at hkb; omega)) rfl rfl rfl rfl ?_)
                              intro w15 hu15 hbb hzq
                              replace hd := hd.upd hu15 (by intro k hk hl hS; simp only [At, New, Grow] at *; omega)
                              have hs15 := hu15.size
                              replace hU := hU.trans hu15 (by first | exact (fun _ _ h => h) | exact (fun _ _ h => h.elim) | (intro k hl hk; (try simp only [At, New, Grow, From, No] at hk ⊢); omega) | (intro k hl hk; simp only [At, New, Grow, From, No] at *; omega))
                              refine WL.nil ?_
                              refine WX.keep [(0, _), (3, _)] ⟨rfl, rfl, trivial⟩ ?_
                              refine WX.next ?_
                              refine WC.seq ?_
                              -- region 16 law.go:146
                              refine WC.region ?_
                              refine WL.val rfl rfl rfl rfl (r_move rfl (ev_t rfl)) ?_
                              refine WL.cons (SO.call (Read_good hd D2_look.1) rfl body_20 ⟨(ev_t rfl), ev_c, trivial⟩ rfl rfl rfl rfl ?_)
                              rintro v w16 ⟨va2, rfl, ha2, hu16⟩
                              rw [show ((D2 ⟨[], p0 :: pr, true⟩ ⟨p0 :: pr, p0 :: pr, false⟩ 3).track (0 : Int).toNat).now = p0 :: pr from rfl] at ha2
                              have hs16 := hu16.size
                              replace hU := hU.trans hu16 (by first | exact (fun _ _ h => h) | exact (fun _ _ h => h.elim) | (intro k hl hk; (try simp only [At, New, Grow, From, No] at hk ⊢); omega) | (intro k hl hk; simp only [At, New, Grow, From, No] at *; omega))
                              replace hd := hd.upd hu16 (by first | exact (fun _ _ _ h => h) | (intro k hk hl hS; simp only [At, New, Grow, From, No] at *; omega))
                              refine WL.val rfl rfl rfl rfl (r_move rfl (ev_t rfl)) ?_
                              refine WL.val rfl rfl rfl rfl (r_extract rfl (ev_t rfl) rfl) ?_
                              refine WL.val rfl rfl rfl rfl (r_extract rfl (ev_t rfl) rfl) ?_
                              refine WL.val rfl rfl rfl rfl (r_assign rfl (ev_t rfl)) ?_
                              refine WL.nil ?_
                              refine WX.keep [(0, _), (3, _), (6, _)] ⟨rfl, rfl, rfl, trivial⟩ ?_
                              refine WX.next ?_
                              refine WC.seq ?_
                              -- region 17 law.go:147
                              refine WC.region ?_
                              refine WL.val rfl rfl rfl rfl (r_move rfl (ev_t rfl)) ?_
                              refine WL.cons (SO.call (Read_good hd D2_look.2) rfl body_20 ⟨(ev_t rfl), ev_c, trivial⟩ rfl rfl rfl rfl ?_)
                              rintro v w17 ⟨vb2, rfl, hb2, hu17⟩
                              rw [show ((D2 ⟨[], p0 :: pr, true⟩ ⟨p0 :: pr, p0 :: pr, false⟩ 3).track (1 : Int).toNat).now = p0 :: pr from rfl] at hb2
                              have hs17 := hu17.size
                              replace hU := hU.trans hu17 (by first | exact (fun _ _ h => h) | exact (fun _ _ h => h.elim) | (intro k hl hk; (try simp only [At, New, Grow, From, No] at hk ⊢); omega) | (intro k hl hk; simp only [At, New, Grow, From, No] at *; omega))
                              replace hd := hd.upd hu17 (by first | exact (fun _ _ _ h => h) | (intro k hk hl hS; simp only [At, New, Grow, From, No] at *; omega))
                              replace ha2 := ha2.upd hu17 (by first | exact (fun _ _ _ h => h) | (intro k hk hl hS; simp only [At, New, Grow, From, No] at *; omega))
                              obtain ⟨Aa2, ca2, rfl, hca2⟩ := Own.form ha2
                              obtain ⟨Ab2, cb2, rfl, hcb2⟩ := Own.form hb2
                              refine WL.val rfl rfl rfl rfl (r_move rfl (ev_t rfl)) ?_
                              refine WL.val rfl rfl rfl rfl (r_extract rfl (ev_t rfl) rfl) ?_
                              refine WL.val rfl rfl rfl rfl (r_extract rfl (ev_t rfl) rfl) ?_
                              refine WL.val rfl rfl rfl rfl (r_assign rfl (ev_t rfl)) ?_
                              refine WL.nil ?_
                              refine WX.keep [(0, _), (6, _), (8, _)] ⟨rfl, rfl, rfl, trivial⟩ ?_
                              refine WX.next ?_
                              refine WC.seq ?_
                              -- region 18 law.go:148
                              refine WC.region ?_
                              refine WL.val rfl rfl rfl rfl (r_move rfl (ev_t rfl)) ?_
                              refine WL.val rfl rfl rfl rfl (r_toStr rfl (ev_t rfl) (ha2.rd (by omega)) elem_22 int_5 str_9) ?_
                              refine WL.val rfl rfl rfl rfl (r_move rfl (ev_t rfl)) ?_
                              refine WL.val rfl rfl rfl rfl (r_toStr rfl (ev_t rfl) (hp.upd hU (fun _ _ _ h => h)) elem_22 int_5 str_9) ?_
                              refine WL.val rfl rfl rfl rfl (r_eqlStrL rfl (ev_t rfl) (ev_t rfl)) ?_
                              refine WL.val rfl rfl rfl rfl (r_move rfl (ev_t rfl)) ?_
                              refine WL.cases 102 rfl (fun hb18_5 => ?_) (fun hb18_5 => ?_)
                              · try (exfalso; first | (simp at hb18_5; done) | (simp only [decide_eq_true_eq, decide_eq_false_iff_not, Bool.not_eq_true', Bool.not_eq_false', Bool.not_eq_true, Bool.not_eq_false] at hb18_5; omega) | omega)
                                all_goals
                                  try simp only [decide_eq_true_eq, decide_eq_false_iff_not, Bool.not_eq_true', Bool.not_eq_false', Bool.not_eq_true, Bool.not_eq_false, Option.isNone_none, Option.isNone_some, Option.isSome_none, Option.isSome_some, ne_eq, Decidable.not_not] at hb18_5
                                  refine WL.val rfl rfl rfl rfl (r_move rfl (ev_t rfl)) ?_
                                  refine WL.val rfl rfl rfl rfl (r_toStr rfl (ev_t rfl) (hb2.rd (by omega)) elem_22 int_5 str_9) ?_
                                  refine WL.val rfl rfl rfl rfl (r_move rfl (ev_t rfl)) ?_
                                  refine WL.val rfl rfl rfl rfl (r_toStr rfl (ev_t rfl) (hp.upd hU (fun _ _ _ h => h)) elem_22 int_5 str_9) ?_
                                  refine WL.val rfl rfl rfl rfl (r_eqlStrL rfl (ev_t rfl) (ev_t rfl)) ?_
                                  refine WL.val rfl rfl rfl rfl (r_pickT rfl (ev_t rfl) (ev_t rfl)) ?_
                                  refine WL.val rfl rfl rfl rfl (r_assign rfl (ev_t rfl)) ?_
                                  refine WL.nil ?_
                                  refine WX.keep [(2, _)] ⟨rfl, trivial⟩ ?_
                                  refine WX.next ?_
                                  refine WC.ret ?_
                                  refine WX.retE1 rfl rfl ?_
                                  first
                                    | exact ⟨rfl, hU⟩
                                    | exact ⟨by simp, hU⟩
                              · try (exfalso; first | (simp at hb18_5; done) | (simp only [decide_eq_true_eq, decide_eq_false_iff_not, Bool.not_eq_true', Bool.not_eq_false', Bool.not_eq_true, Bool.not_eq_false] at hb18_5; omega) | omega)
                                all_goals
                                  try simp only [decide_eq_true_eq, decide_eq_false_iff_not, Bool.not_eq_true', Bool.not_eq_false', Bool.not_eq_true, Bool.not_eq_false, Option.isNone_none, Option.isNone_some, Option.isSome_none, Option.isSome_some, ne_eq, Decidable.not_not] at hb18_5
                                  refine WL.skip rfl rfl rfl ?_
                                  refine WL.skip rfl rfl rfl ?_
                                  refine WL.skip rfl rfl rfl ?_
                                  refine WL.skip rfl rfl rfl ?_
                                  refine WL.skip rfl rfl rfl ?_
                                  refine WL.val rfl rfl rfl rfl (r_pickF rfl (ev_t rfl) ev_c) ?_
                                  refine WL.val rfl rfl rfl rfl (r_assign rfl (ev_t rfl)) ?_
                                  refine WL.nil ?_
                                  refine WX.keep [(2, _)] ⟨rfl, trivial⟩ ?_
                                  refine WX.next ?_
                                  refine WC.ret ?_
                                  refine WX.retE1 rfl rfl ?_
                                  first
                                    | exact ⟨rfl, hU⟩
                                    | exact ⟨by simp, hU⟩

/-- a call: its kind, its track, its bytes, its number, its cuts -/
structure ActV where
  kind : Int
  i : Int
  pv : Value
  pl : List UInt8
  n : Int
  cv : Value
def ActV.cells (a : ActV) : List Value := [.int .u8 a.kind, .int .i64 a.i, a.pv, .int .i64 a.n, a.cv]
theorem ActV.cells_len (a : ActV) : a.cells.length = 5 := rfl

/-- the third track is left alone -/
structure P3 (p q : List UInt8) (D : DS) : Prop where
  len : D.l.length = 3
  two : D.l[2]? = some ⟨p, p ++ q, false⟩
  most : D.most = 5000
  armed : D.armed = 0
  off : D.off = false
theorem P3.look {p q : List UInt8} {D : DS} (h : P3 p q D) {i : Int} (h0 : 0 ≤ i) (h3 : i < 3) : D.look i = 0 := by
  unfold DS.look lookN
  rw [h.len, h.off, if_neg (by omega), if_neg (by simp)]
theorem P3.begin {p q : List UInt8} {D : DS} (h : P3 p q D) : P3 p q D.begin := ⟨h.len, h.two, h.most, by simp [DS.begin, armB, h.armed], by simp [DS.begin, armB, h.armed, h.off]⟩
theorem P3.set {p q : List UInt8} {D : DS} (h : P3 p q D) {i : Nat} (hi : i < 2) (t : Trk) : P3 p q (D.setT i t) := ⟨by simp [DS.setT, h.len], by simp only [DS.setT]; rw [List.getElem?_set_ne (by omega)]; exact h.two, h.most, h.armed, h.off⟩
theorem P3.append {p q b : List UInt8} {D : DS} (h : P3 p q D) {i : Int} (h0 : 0 ≤ i) (h2 : i < 2) : P3 p q (D.append i b).1 := by
  unfold DS.append
  rw [if_neg (by rw [h.look h0 (by omega)]; simp)]
  split
  · exact h
  · exact h.begin.set (by omega) _
theorem P3.write {p q b : List UInt8} {D : DS} (h : P3 p q D) {i : Int} (h0 : 0 ≤ i) (h2 : i < 2) : P3 p q (D.write i b).1 := by
  unfold DS.write
  rw [if_neg (by rw [h.look h0 (by omega)]; simp)]
  split
  · exact h
  · exact h.begin.set (by omega) _
theorem P3.sync {p q : List UInt8} {D : DS} (h : P3 p q D) {i : Int} (h0 : 0 ≤ i) (h2 : i < 2) : P3 p q (D.sync i).1 := by
  unfold DS.sync
  rw [if_neg (by rw [h.look h0 (by omega)]; simp)]
  split
  · exact h.begin
  · exact h.begin.set (by omega) _
theorem P3.track {p q : List UInt8} {D : DS} (h : P3 p q D) : D.track (2 : Int).toNat = ⟨p, p ++ q, false⟩ := by
  show D.track 2 = _
  simp [DS.track, h.two]
theorem P3.fall {p q : List UInt8} {D : DS} (h : P3 p q D) : ((D.restart [0, 0, -1]).track (2 : Int).toNat).now = p ∧ (D.restart [0, 0, -1]).look 2 = 0 := by
  have h1 : (fallL D.l [0, 0, -1])[2]? = some (fallT ⟨p, p ++ q, false⟩ (-1)) := by
    rw [← partL_all, partL_get, h.two]
    simp [h.len]
  constructor
  · show ((D.restart [0, 0, -1]).track 2).now = _
    simp [DS.track, DS.restart, h1, fallT, fallS]
  · unfold DS.look lookN DS.restart
    rw [if_neg (by simp [fallL, h.len]), if_neg (by simp)]
/-- n & 1 -/
theorem bits_and1 {n : Int} (h1 : -9223372036854775808 ≤ n) (h2 : n ≤ 9223372036854775807) : bits .and .i64 n 1 = n % 2 := by
  have h : (BitVec.ofInt 64 n &&& BitVec.ofInt 64 1 : BitVec 64).toNat = (n % 2).toNat := by
    rw [BitVec.toNat_and]
    have e3 : (BitVec.ofInt 64 1).toNat = 1 := by decide
    rw [e3, show (1 : Nat) = 2 ^ 1 - 1 from rfl, Nat.and_two_pow_sub_one_eq_mod, BitVec.toNat_ofInt]
    omega
  show IntKind.i64.wrap (((BitVec.ofInt 64 n &&& BitVec.ofInt 64 1 : BitVec 64).toNat : Nat) : Int) = _
  rw [h, wrap_i64_in (by omega) (by omega)]
  omega

theorem apart0 {p q : List UInt8} (h : p.length + q.length ≤ 1000) : ∃ D0 D1 D2, (DS.new 3 5000).append 2 p = (D0, 0) ∧ D0.look 2 = 0 ∧ D0.sync 2 = (D1, 0) ∧ D1.look 2 = 0 ∧ D1.append 2 q = (D2, 0) ∧ P3 p q D2 := by
  refine ⟨⟨[⟨[], [], false⟩, ⟨[], [], false⟩, ⟨[], p, false⟩], 5000, 1, 0, false⟩, ⟨[⟨[], [], false⟩, ⟨[], [], false⟩, ⟨p, p, false⟩], 5000, 2, 0, false⟩, ⟨[⟨[], [], false⟩, ⟨[], [], false⟩, ⟨p, p ++ q, false⟩], 5000, 3, 0, false⟩, ?_, rfl, ?_, rfl, ?_, ⟨rfl, rfl, rfl, rfl, rfl⟩⟩
  · unfold DS.append
    rw [if_neg (by decide), if_neg (by simp [DS.new, DS.track]; omega)]
    rfl
  · unfold DS.sync
    rw [if_neg (by simp [DS.look, lookN]), if_neg (by simp [DS.begin, armB])]
    rfl
  · unfold DS.append
    rw [if_neg (by simp [DS.look, lookN]), if_neg (by simp [DS.track]; omega)]
    rfl

set_option maxHeartbeats 2000000 in
theorem drumApart.walk {w : World} {pv qv sv cv : Value} {p q : List UInt8} {l : List ActV} (hp : Rd w (fun k => k < w.heap.size) pv p.length 1 (p.map U8)) (hq : Rd w (fun k => k < w.heap.size) qv q.length 1 (q.map U8))
    (hs : Rd w (fun k => k < w.heap.size) sv l.length 5 (l.flatMap ActV.cells)) (hA : ∀ a ∈ l, (0 ≤ a.kind ∧ a.kind ≤ 255) ∧ inK .i64 a.i ∧ Rd w (fun k => k < w.heap.size) a.pv a.pl.length 1 (a.pl.map U8) ∧ ∃ A n c, a.cv = .slice A n c) :
    Ret Try.prog 5 #[pv, qv, sv, cv] w fun v w' => v = .bool true ∧ Upd No w w' := by
  obtain ⟨Ap, cp, rfl, hcp⟩ := hp.slice_form
  obtain ⟨Aq, cq, rfl, hcq⟩ := hq.slice_form
  obtain ⟨As, cs, rfl, hcs⟩ := hs.slice_form
  have hpm := hp.le
  have hqm := hq.le
  have hsm := hs.le
  refine enterRet (vs := [_, _, _, _]) (N := 116) Try.func5 rfl rfl rfl ?_
  have hU := Upd.refl No w
  refine WC.keep [(0, _), (1, _), (2, _)] ⟨rfl, rfl, rfl, trivial⟩ ?_
  refine WC.seq ?_
  -- region 0 more.go:9
  refine WC.region ?_
  refine WL.val rfl rfl rfl rfl (r_assign rfl ev_c) ?_
  refine WL.nil ?_
  refine WX.keep [(0, _), (1, _), (2, _)] ⟨rfl, rfl, rfl, trivial⟩ ?_
  refine WX.next ?_
  refine WC.seq ?_
  refine WC.seq ?_
  -- region 1 more.go:10
  refine WC.region ?_
  refine WL.cons (SO.call (awake13_ok _) rfl body_14 trivial rfl rfl rfl rfl ?_)
  rintro v w1 ⟨rfl, hu1⟩
  have hs1 := hu1.size
  replace hU := hU.trans hu1 (by first | exact (fun _ _ h => h) | exact (fun _ _ h => h.elim) | (intro k hl hk; (try simp only [At, New, Grow, From, No] at hk ⊢); omega))
  refine WL.val rfl rfl rfl rfl (r_not rfl (ev_t rfl)) ?_
  refine WL.val rfl rfl rfl rfl (r_move rfl (ev_t rfl)) ?_
  refine WL.cases 20 rfl (fun hb1_2 => ?_) (fun hb1_2 => ?_)
  · try (exfalso; first | (simp at hb1_2; done) | (simp only [decide_eq_true_eq, decide_eq_false_iff_not, Bool.not_eq_true', Bool.not_eq_false', Bool.not_eq_true, Bool.not_eq_false] at hb1_2; omega) | omega)
    all_goals
      try simp only [decide_eq_true_eq, decide_eq_false_iff_not, Bool.not_eq_true', Bool.not_eq_false', Bool.not_eq_true, Bool.not_eq_false, Option.isNone_none, Option.isNone_some, Option.isSome_none, Option.isSome_some, ne_eq, Decidable.not_not] at hb1_2
      refine WL.skip rfl rfl rfl ?_
      refine WL.skip rfl rfl rfl ?_
      refine WL.skip rfl rfl rfl ?_
      refine WL.skip rfl rfl rfl ?_
      refine WL.skip rfl rfl rfl ?_
      refine WL.skip rfl rfl rfl ?_
      refine WL.val rfl rfl rfl rfl (r_pickT rfl (ev_t rfl) ev_c) ?_
      refine WL.nil ?_
      refine WX.keep [(0, _), (1, _), (2, _), (27, _)] ⟨rfl, rfl, rfl, rfl, trivial⟩ ?_
      refine WX.next ?_
      refine WC.cond_true rfl (ev_t rfl) ?_
      refine WC.seq ?_
      -- region 2 more.go:11
      refine WC.region ?_
      refine WL.cons (SO.call (awake13_ok _) rfl body_14 trivial rfl rfl rfl rfl ?_)
      rintro v w2 ⟨rfl, hu2⟩
      have hs2 := hu2.size
      replace hU := hU.trans hu2 (by first | exact (fun _ _ h => h) | exact (fun _ _ h => h.elim) | (intro k hl hk; (try simp only [At, New, Grow, From, No] at hk ⊢); omega))
      refine WL.val rfl rfl rfl rfl (r_assign rfl (ev_t rfl)) ?_
      refine WL.nil ?_
      refine WX.keep [(8, _)] ⟨rfl, trivial⟩ ?_
      refine WX.next ?_
      refine WC.ret ?_
      refine WX.thenRet ?_
      refine WX.retE1 rfl rfl ?_
      exact ⟨by simp, hU⟩
  · try (exfalso; first | (simp at hb1_2; done) | (simp only [decide_eq_true_eq, decide_eq_false_iff_not, Bool.not_eq_true', Bool.not_eq_false', Bool.not_eq_true, Bool.not_eq_false] at hb1_2; omega) | omega)
    all_goals
      try simp only [decide_eq_true_eq, decide_eq_false_iff_not, Bool.not_eq_true', Bool.not_eq_false', Bool.not_eq_true, Bool.not_eq_false, Option.isNone_none, Option.isNone_some, Option.isSome_none, Option.isSome_some, ne_eq, Decidable.not_not] at hb1_2
      refine WL.val rfl rfl rfl rfl (r_move rfl (ev_t rfl)) ?_
      refine WL.val rfl rfl rfl rfl (r_lenSlice (ts := #[]) rfl (ev_t rfl) elem_22) ?_
      refine WL.val rfl rfl rfl rfl (r_move rfl (ev_t rfl)) ?_
      refine WL.val rfl rfl rfl rfl (r_lenSlice (ts := #[]) rfl (ev_t rfl) elem_22) ?_
      first | refine WL.val rfl rfl rfl rfl (r_addN rfl (ev_t rfl) (ev_t rfl) (by simp only [inK]; omega)) ?_ | refine WL.val rfl rfl rfl rfl (r_add rfl (ev_t rfl) (ev_t rfl)) ?_
      refine WL.val rfl rfl rfl rfl (r_gtr rfl (ev_t rfl) ev_c) ?_
      refine WL.val rfl rfl rfl rfl (r_pickF rfl (ev_t rfl) (ev_t rfl)) ?_
      refine WL.nil ?_
      refine WX.keep [(0, _), (1, _), (2, _), (27, _)] ⟨rfl, rfl, rfl, rfl, trivial⟩ ?_
      refine WX.next ?_
      refine WC.cond rfl (ev_t rfl) (fun hc1 => ?_) (fun hc1 => ?_)
      · try (exfalso; first | (simp at hc1; done) | (simp only [decide_eq_true_eq, decide_eq_false_iff_not, Bool.not_eq_true', Bool.not_eq_false', Bool.not_eq_true, Bool.not_eq_false] at hc1; omega) | omega)
        all_goals
          try simp only [decide_eq_true_eq, decide_eq_false_iff_not, Bool.not_eq_true', Bool.not_eq_false', Bool.not_eq_true, Bool.not_eq_false, Option.isNone_none, Option.isNone_some, Option.isSome_none, Option.isSome_some, ne_eq, Decidable.not_not] at hc1
          refine WC.seq ?_
          -- region 2 more.go:11
          refine WC.region ?_
          refine WL.cons (SO.call (awake13_ok _) rfl body_14 trivial rfl rfl rfl rfl ?_)
          rintro v w3 ⟨rfl, hu3⟩
          have hs3 := hu3.size
          replace hU := hU.trans hu3 (by first | exact (fun _ _ h => h) | exact (fun _ _ h => h.elim) | (intro k hl hk; (try simp only [At, New, Grow, From, No] at hk ⊢); omega))
          refine WL.val rfl rfl rfl rfl (r_assign rfl (ev_t rfl)) ?_
          refine WL.nil ?_
          refine WX.keep [(8, _)] ⟨rfl, trivial⟩ ?_
          refine WX.next ?_
          refine WC.ret ?_
          refine WX.thenRet ?_
          refine WX.retE1 rfl rfl ?_
          exact ⟨by simp, hU⟩
      · try (exfalso; first | (simp at hc1; done) | (simp only [decide_eq_true_eq, decide_eq_false_iff_not, Bool.not_eq_true', Bool.not_eq_false', Bool.not_eq_true, Bool.not_eq_false] at hc1; omega) | omega)
        all_goals
          try simp only [decide_eq_true_eq, decide_eq_false_iff_not, Bool.not_eq_true', Bool.not_eq_false', Bool.not_eq_true, Bool.not_eq_false, Option.isNone_none, Option.isNone_some, Option.isSome_none, Option.isSome_some, ne_eq, Decidable.not_not] at hc1
          refine WC.skip ?_
          refine WX.next ?_
          refine WC.seq ?_
          obtain ⟨D0, D1, D2, e0, l0, e1, l1, e2, hP⟩ := apart0 (p := p) (q := q) (by omega)
          -- region 3 more.go:13
          refine WC.region ?_
          refine WL.cons (SO.call (Dnew_ok (n := 3) (most := 5000) (by omega) (by omega)) rfl body_15 ⟨ev_c, ev_c, trivial⟩ rfl rfl rfl rfl ?_)
          rintro v w4 ⟨pd, rfl, hd, hu4⟩
          have hs4 := hu4.size
          replace hU := hU.trans hu4 (by first | exact (fun _ _ h => h) | exact (fun _ _ h => h.elim) | (intro k hl hk; (try simp only [At, New, Grow, From, No] at hk ⊢); omega))
          replace hd := hd.mono (F' := New w w4) (fun k hk _ => by simp only [New] at hk ⊢; omega)
          refine WL.val rfl rfl rfl rfl (r_move rfl (ev_t rfl)) ?_
          refine WL.val rfl rfl rfl rfl (r_extract rfl (ev_t rfl) rfl) ?_
          refine WL.val rfl rfl rfl rfl (r_extract rfl (ev_t rfl) rfl) ?_
          refine WL.val rfl rfl rfl rfl (r_assign rfl (ev_t rfl)) ?_
          refine WL.val rfl rfl rfl rfl (r_assign rfl (ev_t rfl)) ?_
          refine WL.nil ?_
          refine WX.keep [(0, _), (1, _), (2, _), (9, _)] ⟨rfl, rfl, rfl, rfl, trivial⟩ ?_
          refine WX.next ?_
          refine WC.seq ?_
          -- region 4 more.go:14
          refine WC.region ?_
          refine WL.val rfl rfl rfl rfl (r_move rfl (ev_t rfl)) ?_
          refine WL.val rfl rfl rfl rfl (r_move rfl (ev_t rfl)) ?_
          refine WL.cons (SO.call (Append_good (i := 2) hd rfl (hp.upd hU (fun _ _ _ h => h)) (fun k hk _ => notN hk)) rfl body_16 ⟨(ev_t rfl), ev_c, (ev_t rfl), trivial⟩ rfl rfl rfl rfl ?_)
          rintro v w5 ⟨rfl, hd, hu5⟩
          rw [e0] at hd ⊢
          have hs5 := hu5.size
          replace hU := hU.trans hu5 (by first | exact (fun _ _ h => h) | exact (fun _ _ h => h.elim) | (intro k hl hk; (try simp only [At, New, Grow, From, No] at hk ⊢); omega))
          replace hd := hd.mono (F' := New w w5) (fun k hk _ => New.grow (by omega) (by omega) hk)
          refine WL.nil ?_
          refine WX.keep [(0, _), (1, _), (2, _), (9, _)] ⟨rfl, rfl, rfl, rfl, trivial⟩ ?_
          refine WX.next ?_
          refine WC.seq ?_
          -- region 5 more.go:15
          refine WC.region ?_
          refine WL.val rfl rfl rfl rfl (r_move rfl (ev_t rfl)) ?_
          refine WL.cons (SO.call (Sync_good hd l0) rfl body_17 ⟨(ev_t rfl), ev_c, trivial⟩ rfl rfl rfl rfl ?_)
          rintro v w6 ⟨rfl, hd, hu6⟩
          rw [e1] at hd ⊢
          have hs6 := hu6.size
          replace hU := hU.trans hu6 (by first | exact (fun _ _ h => h) | exact (fun _ _ h => h.elim) | (intro k hl hk; (try simp only [At, New, Grow, From, No] at hk ⊢); omega))
          replace hd := hd.mono (F' := New w w6) (fun k hk _ => New.grow (by omega) (by omega) hk)
          refine WL.nil ?_
          refine WX.keep [(0, _), (1, _), (2, _), (9, _)] ⟨rfl, rfl, rfl, rfl, trivial⟩ ?_
          refine WX.next ?_
          refine WC.seq ?_
          -- region 6 more.go:16
          refine WC.region ?_
          refine WL.val rfl rfl rfl rfl (r_move rfl (ev_t rfl)) ?_
          refine WL.val rfl rfl rfl rfl (r_move rfl (ev_t rfl)) ?_
          refine WL.cons (SO.call (Append_good hd l1 (hq.upd hU (fun _ _ _ h => h)) (fun k hk _ => notN hk)) rfl body_16 ⟨(ev_t rfl), ev_c, (ev_t rfl), trivial⟩ rfl rfl rfl rfl ?_)
          rintro v w7 ⟨rfl, hd, hu7⟩
          rw [e2] at hd ⊢
          have hs7 := hu7.size
          replace hU := hU.trans hu7 (by first | exact (fun _ _ h => h) | exact (fun _ _ h => h.elim) | (intro k hl hk; (try simp only [At, New, Grow, From, No] at hk ⊢); omega))
          replace hd := hd.mono (F' := New w w7) (fun k hk _ => New.grow (by omega) (by omega) hk)
          refine WL.nil ?_
          refine WX.keep [(0, _), (1, _), (2, _), (9, _)] ⟨rfl, rfl, rfl, rfl, trivial⟩ ?_
          refine WX.next ?_
          refine WC.seq ?_
          refine WC.seq ?_
          -- region 7 more.go:17
          refine WC.region ?_
          refine WL.val rfl rfl rfl rfl (r_assign rfl ev_c) ?_
          refine WL.nil ?_
          refine WX.keep [(0, _), (1, _), (2, _), (9, _), (11, _)] ⟨rfl, rfl, rfl, rfl, rfl, trivial⟩ ?_
          refine WX.next ?_
          refine WC.block ?_
          -- loop 1: live [0, 1, 2, 9, 11]
          refine WC.keep [(0, _), (1, _), (2, _), (9, _), (11, _)] ⟨rfl, rfl, rfl, rfl, rfl, trivial⟩ ?_
          refine WC.loop (fun n E w' => ∃ (i : Nat) (D : DS), i ≤ l.length ∧ n = l.length - i ∧ Upd No w w' ∧ IsD w' (New w w') pd D ∧ P3 p q D ∧ E = [(0, .slice Ap p.length cp), (1, .slice Aq q.length cq), (2, .slice As l.length cs), (9, .pointer (some ⟨pd, 0, none⟩)), (11, .int .i64 (i : Int))]) (l.length) ?_ ?_
          · exact ⟨0, _, by omega, by omega, hU, hd, hP, rfl⟩
          · clear hU hd
            rintro n E w' ⟨i, D, hi, rfl, hU, hd, hP, rfl⟩
            have hs0 := hU.size
            refine WC.seq ?_
            refine WC.seq ?_
            -- region 8 more.go:17
            refine WC.region ?_
            refine WL.val rfl rfl rfl rfl (r_move rfl (ev_t rfl)) ?_
            refine WL.val rfl rfl rfl rfl (r_move rfl (ev_t rfl)) ?_
            refine WL.val rfl rfl rfl rfl (r_lenSlice (ts := #[]) rfl (ev_t rfl) elem_36) ?_
            refine WL.val rfl rfl rfl rfl (r_lss rfl (ev_t rfl) (ev_t rfl)) ?_
            refine WL.val rfl rfl rfl rfl (r_move rfl (ev_t rfl)) ?_
            refine WL.cases 45 rfl (fun hb8_4 => ?_) (fun hb8_4 => ?_)
            · try (exfalso; first | (simp at hb8_4; done) | (simp only [decide_eq_true_eq, decide_eq_false_iff_not, Bool.not_eq_true', Bool.not_eq_false', Bool.not_eq_true, Bool.not_eq_false] at hb8_4; omega) | omega)
              all_goals
                try simp only [decide_eq_true_eq, decide_eq_false_iff_not, Bool.not_eq_true', Bool.not_eq_false', Bool.not_eq_true, Bool.not_eq_false, Option.isNone_none, Option.isNone_some, Option.isSome_none, Option.isSome_some, ne_eq, Decidable.not_not] at hb8_4
                refine WL.val rfl rfl rfl rfl (r_move rfl (ev_t rfl)) ?_
                refine WL.val rfl rfl rfl rfl (r_lss rfl (ev_t rfl) ev_c) ?_
                refine WL.val rfl rfl rfl rfl (r_pickT rfl (ev_t rfl) (ev_t rfl)) ?_
                refine WL.nil ?_
                refine WX.keep [(0, _), (1, _), (2, _), (9, _), (11, _), (48, _)] ⟨rfl, rfl, rfl, rfl, rfl, rfl, trivial⟩ ?_
                refine WX.next ?_
                refine WC.cond rfl (ev_t rfl) (fun hc8 => ?_) (fun hc8 => ?_)
                · try (exfalso; first | (simp at hc8; done) | (simp only [decide_eq_true_eq, decide_eq_false_iff_not, Bool.not_eq_true', Bool.not_eq_false', Bool.not_eq_true, Bool.not_eq_false] at hc8; omega) | omega)
                  all_goals
                    try simp only [decide_eq_true_eq, decide_eq_false_iff_not, Bool.not_eq_true', Bool.not_eq_false', Bool.not_eq_true, Bool.not_eq_false, Option.isNone_none, Option.isNone_some, Option.isSome_none, Option.isSome_some, ne_eq, Decidable.not_not] at hc8
                    have hi' : i < l.length := by omega
                    obtain ⟨b, off, rfl, _⟩ := hs.open (by omega)
                    have hg := List.getElem?_eq_getElem hi'
                    have hAi := hA _ (List.getElem_mem hi')
                    have hcell := flatMap_get ActV.cells_len hg
                    generalize l[i] = a at *
                    obtain ⟨kind, ai, av, al, an, ac⟩ := a
                    obtain ⟨hk0, hai, har, hac⟩ := hAi
                    dsimp only at hk0 hai har hac
                    obtain ⟨A5, n5, c5, rfl⟩ := hac
                    obtain ⟨Aa, ca, rfl, hca⟩ := har.slice_form
                    simp only [inK] at hai
                    refine WC.skip ?_
                    refine WX.next ?_
                    refine WC.seq ?_
                    refine WC.block ?_
                    refine WC.seq ?_
                    -- region 10 more.go:18
                    refine WC.region ?_
                    refine WL.val rfl rfl rfl rfl (r_move rfl (ev_t rfl)) ?_
                    refine WL.val rfl rfl rfl rfl (r_move rfl (ev_t rfl)) ?_
                    refine WL.val rfl rfl rfl rfl (r_indexAddr rfl (ev_t rfl) (ev_t rfl) elem_36 size_38 (by omega) (by omega)) ?_
                    refine WL.val rfl rfl rfl rfl (r_loadAgg (vs := [_, _, _, _, _]) rfl (ev_t rfl) agg_38 size_38 (Rd.cellsL (us := [.int .u8 kind, .int .i64 ai, .slice Aa al.length ca, .int .i64 an, .slice A5 n5 c5]) (hs.upd hU (fun _ _ _ h => h)) (i := i * 5) (by omega) hcell)) ?_
                    refine WL.cons (SO.alloc rfl rfl rfl rfl (r_alloc rfl zero_38) ?_)
                    intro w8 hu8 hB8 hz8
                    have hs8 := hu8.size
                    replace hU := hU.trans hu8 (by first | exact (fun _ _ h => h) | exact (fun _ _ h => h.elim) | (intro k hl hk; (try simp only [At, New, Grow, From, No] at hk ⊢); omega))
                    replace hd := hd.upd hu8 (by first | exact (fun _ _ _ h => h) | (intro k hk hl hS; simp only [At, New, Grow, From, No] at *; omega))
                    refine WL.cons (SO.storeAll (us := [_, _, _, _, _]) rfl (ev_t rfl) (ev_t rfl) size_38 hB8 rfl rfl rfl rfl rfl ?_)
                    intro w9 hu9 hB8 hz9
                    have hs9 := hu9.size
                    replace hU := hU.trans hu9 (by first | exact (fun _ _ h => h) | exact (fun _ _ h => h.elim) | (intro k hl hk; (try simp only [At, New, Grow, From, No] at hk ⊢); omega))
                    replace hd := hd.upd hu9 (by first | exact (fun _ _ _ h => h) | (intro k hk hl hS; simp only [At, New, Grow, From, No] at *; omega))
                    refine WL.nil ?_
                    refine WX.keep [(0, _), (1, _), (2, _), (9, _), (11, _), (12, _)] ⟨rfl, rfl, rfl, rfl, rfl, rfl, trivial⟩ ?_
                    refine WX.next ?_
                    refine WC.seq ?_
                    -- region 11 more.go:19
                    refine WC.region ?_
                    first | refine WL.val rfl rfl rfl rfl (r_field0 rfl (ev_t rfl) fld_38_1) ?_ | refine WL.val rfl rfl rfl rfl (r_fieldAt rfl (ev_t rfl) fld_38_1) ?_
                    refine WL.val rfl rfl rfl rfl (r_load rfl (ev_t rfl) flat_3 (Blk.cell hB8 rfl)) ?_
                    refine WL.val rfl rfl rfl rfl (r_and rfl (ev_t rfl) ev_c) ?_
                    rw [bits_and1 hai.1 hai.2]
                    refine WL.val rfl rfl rfl rfl (r_assign rfl (ev_t rfl)) ?_
                    refine WL.nil ?_
                    refine WX.keep [(0, _), (1, _), (2, _), (9, _), (11, _), (12, _), (13, _)] ⟨rfl, rfl, rfl, rfl, rfl, rfl, rfl, trivial⟩ ?_
                    refine WX.next ?_
                    refine WC.seq ?_
                    refine WC.seq ?_
                    -- region 12 more.go:20
                    refine WC.region ?_
                    first | refine WL.val rfl rfl rfl rfl (r_field0 rfl (ev_t rfl) fld_38_2) ?_ | refine WL.val rfl rfl rfl rfl (r_fieldAt rfl (ev_t rfl) fld_38_2) ?_
                    refine WL.val rfl rfl rfl rfl (r_load rfl (ev_t rfl) flat_22 (Blk.cell hB8 rfl)) ?_
                    refine WL.val rfl rfl rfl rfl (r_lenSlice (ts := #[]) rfl (ev_t rfl) elem_22) ?_
                    refine WL.val rfl rfl rfl rfl (r_gtr rfl (ev_t rfl) ev_c) ?_
                    refine WL.nil ?_
                    refine WX.keep [(0, _), (1, _), (2, _), (9, _), (11, _), (12, _), (13, _), (61, _)] ⟨rfl, rfl, rfl, rfl, rfl, rfl, rfl, rfl, trivial⟩ ?_
                    refine WX.next ?_
                    refine WC.cond rfl (ev_t rfl) (fun hc12 => ?_) (fun hc12 => ?_)
                    · try (exfalso; first | (simp at hc12; done) | (simp only [decide_eq_true_eq, decide_eq_false_iff_not, Bool.not_eq_true', Bool.not_eq_false', Bool.not_eq_true, Bool.not_eq_false] at hc12; omega) | omega)
                      all_goals
                        try simp only [decide_eq_true_eq, decide_eq_false_iff_not, Bool.not_eq_true', Bool.not_eq_false', Bool.not_eq_true, Bool.not_eq_false, Option.isNone_none, Option.isNone_some, Option.isSome_none, Option.isSome_some, ne_eq, Decidable.not_not] at hc12
                        refine WC.seq ?_
                        -- region 13 more.go:21
                        refine WC.region ?_
                        refine WL.val rfl rfl rfl rfl (r_assign rfl ev_c) ?_
                        refine WL.nil ?_
                        refine WX.keep [(8, _)] ⟨rfl, trivial⟩ ?_
                        refine WX.next ?_
                        refine WC.ret ?_
                        refine WX.thenRet ?_
                        refine WX.blockRet ?_
                        refine WX.thenRet ?_
                        refine WX.thenRet ?_
                        refine WX.blockRet ?_
                        refine WX.thenRet ?_
                        refine WX.retE1 rfl rfl ?_
                        exact ⟨rfl, hU⟩
                    · try (exfalso; first | (simp at hc12; done) | (simp only [decide_eq_true_eq, decide_eq_false_iff_not, Bool.not_eq_true', Bool.not_eq_false', Bool.not_eq_true, Bool.not_eq_false] at hc12; omega) | omega)
                      all_goals
                        try simp only [decide_eq_true_eq, decide_eq_false_iff_not, Bool.not_eq_true', Bool.not_eq_false', Bool.not_eq_true, Bool.not_eq_false, Option.isNone_none, Option.isNone_some, Option.isSome_none, Option.isSome_some, ne_eq, Decidable.not_not] at hc12
                        refine WC.skip ?_
                        refine WX.next ?_
                        refine WC.seq ?_
                        refine WC.seq ?_
                        -- region 14 more.go:23
                        refine WC.region ?_
                        first | refine WL.val rfl rfl rfl rfl (r_field0 rfl (ev_t rfl) fld_38_0) ?_ | refine WL.val rfl rfl rfl rfl (r_fieldAt rfl (ev_t rfl) fld_38_0) ?_
                        refine WL.val rfl rfl rfl rfl (r_load rfl (ev_t rfl) flat_5 (Blk.cell hB8 rfl)) ?_
                        first | refine WL.val rfl rfl rfl rfl (r_remN rfl (ev_t rfl) ev_c (by omega) (by omega)) ?_ | refine WL.val rfl rfl rfl rfl (r_rem rfl (ev_t rfl) ev_c (by omega)) ?_
                        refine WL.nil ?_
                        refine WX.keep [(0, _), (1, _), (2, _), (9, _), (11, _), (12, _), (13, _), (64, _)] ⟨rfl, rfl, rfl, rfl, rfl, rfl, rfl, rfl, trivial⟩ ?_
                        refine WX.next ?_
                        refine WC.block ?_
                        refine WC.seq ?_
                        -- region 16 more.go:24
                        refine WC.region ?_
                        refine WL.val rfl rfl rfl rfl (r_eql rfl (ev_t rfl) ev_c) ?_
                        refine WL.val rfl rfl rfl rfl (r_assign rfl (ev_t rfl)) ?_
                        refine WL.nil ?_
                        refine WX.keep [(0, _), (1, _), (2, _), (9, _), (11, _), (12, _), (13, _), (64, _), (68, _)] ⟨rfl, rfl, rfl, rfl, rfl, rfl, rfl, rfl, rfl, trivial⟩ ?_
                        refine WX.next ?_
                        refine WC.cond rfl (ev_t rfl) (fun hc16 => ?_) (fun hc16 => ?_)
                        · try (exfalso; first | (simp at hc16; done) | (simp only [decide_eq_true_eq, decide_eq_false_iff_not, Bool.not_eq_true', Bool.not_eq_false', Bool.not_eq_true, Bool.not_eq_false] at hc16; omega) | omega)
                          all_goals
                            try simp only [decide_eq_true_eq, decide_eq_false_iff_not, Bool.not_eq_true', Bool.not_eq_false', Bool.not_eq_true, Bool.not_eq_false, Option.isNone_none, Option.isNone_some, Option.isSome_none, Option.isSome_some, ne_eq, Decidable.not_not] at hc16
                            -- region 17 more.go:25
                            refine WC.region ?_
                            refine WL.val rfl rfl rfl rfl (r_move rfl (ev_t rfl)) ?_
                            refine WL.val rfl rfl rfl rfl (r_move rfl (ev_t rfl)) ?_
                            first | refine WL.val rfl rfl rfl rfl (r_field0 rfl (ev_t rfl) fld_38_2) ?_ | refine WL.val rfl rfl rfl rfl (r_fieldAt rfl (ev_t rfl) fld_38_2) ?_
                            refine WL.val rfl rfl rfl rfl (r_load rfl (ev_t rfl) flat_22 (Blk.cell hB8 rfl)) ?_
                            refine WL.cons (SO.call (Append_good hd (hP.look (i := ai % 2) (by omega) (by omega)) (har.upd hU (fun _ _ _ h => h)) (fun k hk _ => notN hk)) rfl body_16 ⟨(ev_t rfl), (ev_t rfl), (ev_t rfl), trivial⟩ rfl rfl rfl rfl ?_)
                            rintro v w10 ⟨rfl, hd, hu10⟩
                            replace hP := hP.append (i := ai % 2) (b := al) (by omega) (by omega)
                            have hs10 := hu10.size
                            replace hU := hU.trans hu10 (by first | exact (fun _ _ h => h) | exact (fun _ _ h => h.elim) | (intro k hl hk; (try simp only [At, New, Grow, From, No] at hk ⊢); omega))
                            replace hB8 := hB8.upd hu10 (by first | (with_reducible assumption) | exact (fun h => h) | exact (fun _ _ _ h => h) | (simp only [At]; omega) | (simp only [At, New, Grow, From, No]; omega) | (intro k hk hl hS; simp only [At] at hS; subst hS; contradiction) | (intro k hk hl hS; simp only [At] at hS; subst hS; exact Grow.old (by omega) (by assumption) hk) | (intro k hk hl hS; (try simp only [At, From, No, Grow, New] at hk hS); omega))
                            replace hd := hd.mono (F' := New w w10) (fun k hk _ => New.grow (by omega) (by omega) hk)
                            refine WL.nil ?_
                            refine WX.keep [(0, _), (1, _), (2, _), (9, _), (11, _)] ⟨rfl, rfl, rfl, rfl, rfl, trivial⟩ ?_
                            refine WX.blockNormal ?_
                            refine WX.next ?_
                            refine WC.seq ?_
                            -- region 20 more.go:31
                            refine WC.region ?_
                            refine WL.val rfl rfl rfl rfl (r_move rfl (ev_t rfl)) ?_
                            refine WL.cons (SO.call (Read_good hd (hP.look (by omega) (by omega))) rfl body_20 ⟨(ev_t rfl), ev_c, trivial⟩ rfl rfl rfl rfl ?_)
                            rintro v w11 ⟨v3, rfl, hr3, hu11⟩
                            rw [hP.track] at hr3
                            have hs11 := hu11.size
                            replace hU := hU.trans hu11 (by first | exact (fun _ _ h => h) | exact (fun _ _ h => h.elim) | (intro k hl hk; (try simp only [At, New, Grow, From, No] at hk ⊢); omega))
                            replace hd := hd.upd hu11 (by first | exact (fun _ _ _ h => h) | (intro k hk hl hS; simp only [At, New, Grow, From, No] at *; omega))
                            replace hB8 := hB8.upd hu11 (by first | (with_reducible assumption) | exact (fun h => h) | exact (fun _ _ _ h => h) | (simp only [At]; omega) | (simp only [At, New, Grow, From, No]; omega) | (intro k hk hl hS; simp only [At] at hS; subst hS; contradiction) | (intro k hk hl hS; simp only [At] at hS; subst hS; exact Grow.old (by omega) (by assumption) hk) | (intro k hk hl hS; (try simp only [At, From, No, Grow, New] at hk hS); omega))
                            obtain ⟨A3, c3, rfl, hc3⟩ := Own.form hr3
                            refine WL.val rfl rfl rfl rfl (r_move rfl (ev_t rfl)) ?_
                            refine WL.val rfl rfl rfl rfl (r_extract rfl (ev_t rfl) rfl) ?_
                            refine WL.val rfl rfl rfl rfl (r_extract rfl (ev_t rfl) rfl) ?_
                            refine WL.val rfl rfl rfl rfl (r_assign rfl (ev_t rfl)) ?_
                            refine WL.val rfl rfl rfl rfl (r_assign rfl (ev_t rfl)) ?_
                            refine WL.nil ?_
                            refine WX.keep [(0, _), (1, _), (2, _), (9, _), (11, _), (14, _), (15, _)] ⟨rfl, rfl, rfl, rfl, rfl, rfl, rfl, trivial⟩ ?_
                            refine WX.next ?_
                            refine WC.seq ?_
                            -- region 21 more.go:32
                            refine WC.region ?_
                            refine WL.val rfl rfl rfl rfl (r_move rfl (ev_t rfl)) ?_
                            refine WL.val rfl rfl rfl rfl (r_neq rfl (ev_t rfl) ev_c) ?_
                            refine WL.val rfl rfl rfl rfl (r_move rfl (ev_t rfl)) ?_
                            refine WL.cases 89 rfl (fun hb21_2 => ?_) (fun hb21_2 => ?_)
                            · try (exfalso; first | (simp at hb21_2; done) | (simp only [decide_eq_true_eq, decide_eq_false_iff_not, Bool.not_eq_true', Bool.not_eq_false', Bool.not_eq_true, Bool.not_eq_false] at hb21_2; omega) | omega)
                              all_goals
                                try simp only [decide_eq_true_eq, decide_eq_false_iff_not, Bool.not_eq_true', Bool.not_eq_false', Bool.not_eq_true, Bool.not_eq_false, Option.isNone_none, Option.isNone_some, Option.isSome_none, Option.isSome_some, ne_eq, Decidable.not_not] at hb21_2
                                refine WL.skip rfl rfl rfl ?_
                                refine WL.skip rfl rfl rfl ?_
                                refine WL.skip rfl rfl rfl ?_
                                refine WL.skip rfl rfl rfl ?_
                                refine WL.skip rfl rfl rfl ?_
                                refine WL.skip rfl rfl rfl ?_
                                refine WL.skip rfl rfl rfl ?_
                                refine WL.skip rfl rfl rfl ?_
                                refine WL.val rfl rfl rfl rfl (r_pickT rfl (ev_t rfl) ev_c) ?_
                                refine WL.nil ?_
                                refine WX.keep [(0, _), (1, _), (2, _), (9, _), (11, _), (98, _)] ⟨rfl, rfl, rfl, rfl, rfl, rfl, trivial⟩ ?_
                                refine WX.next ?_
                                refine WC.cond_true rfl (ev_t rfl) ?_
                                refine WC.seq ?_
                                -- region 22 more.go:33
                                refine WC.region ?_
                                refine WL.val rfl rfl rfl rfl (r_assign rfl ev_c) ?_
                                refine WL.nil ?_
                                refine WX.keep [(8, _)] ⟨rfl, trivial⟩ ?_
                                refine WX.next ?_
                                refine WC.ret ?_
                                refine WX.blockRet ?_
                                refine WX.thenRet ?_
                                refine WX.thenRet ?_
                                refine WX.blockRet ?_
                                refine WX.thenRet ?_
                                refine WX.retE1 rfl rfl ?_
                                exact ⟨by simp, hU⟩
                            · try (exfalso; first | (simp at hb21_2; done) | (simp only [decide_eq_true_eq, decide_eq_false_iff_not, Bool.not_eq_true', Bool.not_eq_false', Bool.not_eq_true, Bool.not_eq_false] at hb21_2; omega) | omega)
                              all_goals
                                try simp only [decide_eq_true_eq, decide_eq_false_iff_not, Bool.not_eq_true', Bool.not_eq_false', Bool.not_eq_true, Bool.not_eq_false, Option.isNone_none, Option.isNone_some, Option.isSome_none, Option.isSome_some, ne_eq, Decidable.not_not] at hb21_2
                                refine WL.val rfl rfl rfl rfl (r_move rfl (ev_t rfl)) ?_
                                refine WL.val rfl rfl rfl rfl (r_toStr rfl (ev_t rfl) (hr3.rd (by simp; omega)) elem_22 int_5 str_9) ?_
                                refine WL.val rfl rfl rfl rfl (r_move rfl (ev_t rfl)) ?_
                                refine WL.val rfl rfl rfl rfl (r_toStr rfl (ev_t rfl) (hp.upd hU (fun _ _ _ h => h)) elem_22 int_5 str_9) ?_
                                refine WL.val rfl rfl rfl rfl (r_move rfl (ev_t rfl)) ?_
                                refine WL.val rfl rfl rfl rfl (r_toStr rfl (ev_t rfl) (hq.upd hU (fun _ _ _ h => h)) elem_22 int_5 str_9) ?_
                                refine WL.val rfl rfl rfl rfl (r_addStrL rfl (ev_t rfl) (ev_t rfl) (by omega)) ?_
                                refine WL.val rfl rfl rfl rfl (r_neqStrL rfl (ev_t rfl) (ev_t rfl)) ?_
                                refine WL.val rfl rfl rfl rfl (r_pickF rfl (ev_t rfl) (ev_t rfl)) ?_
                                refine WL.nil ?_
                                refine WX.keep [(0, _), (1, _), (2, _), (9, _), (11, _), (98, _)] ⟨rfl, rfl, rfl, rfl, rfl, rfl, trivial⟩ ?_
                                refine WX.next ?_
                                refine WC.cond rfl (ev_t rfl) (fun hc21 => ?_) (fun hc21 => ?_)
                                · try (exfalso; first | (simp at hc21; done) | (simp only [decide_eq_true_eq, decide_eq_false_iff_not, Bool.not_eq_true', Bool.not_eq_false', Bool.not_eq_true, Bool.not_eq_false] at hc21; omega) | omega)
                                  all_goals
                                    try simp only [decide_eq_true_eq, decide_eq_false_iff_not, Bool.not_eq_true', Bool.not_eq_false', Bool.not_eq_true, Bool.not_eq_false, Option.isNone_none, Option.isNone_some, Option.isSome_none, Option.isSome_some, ne_eq, Decidable.not_not] at hc21
                                    refine WC.seq ?_
                                    -- region 22 more.go:33
                                    refine WC.region ?_
                                    refine WL.val rfl rfl rfl rfl (r_assign rfl ev_c) ?_
                                    refine WL.nil ?_
                                    refine WX.keep [(8, _)] ⟨rfl, trivial⟩ ?_
                                    refine WX.next ?_
                                    refine WC.ret ?_
                                    refine WX.blockRet ?_
                                    refine WX.thenRet ?_
                                    refine WX.thenRet ?_
                                    refine WX.blockRet ?_
                                    refine WX.thenRet ?_
                                    refine WX.retE1 rfl rfl ?_
                                    exact ⟨by simp, hU⟩
                                · try (exfalso; first | (simp at hc21; done) | (simp only [decide_eq_true_eq, decide_eq_false_iff_not, Bool.not_eq_true', Bool.not_eq_false', Bool.not_eq_true, Bool.not_eq_false] at hc21; omega) | omega)
                                  all_goals
                                    try simp only [decide_eq_true_eq, decide_eq_false_iff_not, Bool.not_eq_true', Bool.not_eq_false', Bool.not_eq_true, Bool.not_eq_false, Option.isNone_none, Option.isNone_some, Option.isSome_none, Option.isSome_some, ne_eq, Decidable.not_not] at hc21
                                    refine WC.skip ?_
                                    refine WX.blockNormal ?_
                                    refine WX.next ?_
                                    -- region 9 more.go:17
                                    refine WC.region ?_
                                    refine WL.val rfl rfl rfl rfl (r_move rfl (ev_t rfl)) ?_
                                    first | refine WL.val rfl rfl rfl rfl (r_addN rfl (ev_t rfl) ev_c (by simp only [inK]; omega)) ?_ | refine WL.val rfl rfl rfl rfl (r_add rfl (ev_t rfl) ev_c) ?_
                                    refine WL.val rfl rfl rfl rfl (r_assign rfl (ev_t rfl)) ?_
                                    refine WL.nil ?_
                                    refine WX.keep [(0, _), (1, _), (2, _), (9, _), (11, _)] ⟨rfl, rfl, rfl, rfl, rfl, trivial⟩ ?_
                                    refine WX.meet [(0, _), (1, _), (2, _), (9, _), (11, _)] ⟨rfl, rfl, rfl, rfl, rfl, trivial⟩ ?_
                                    exact ⟨l.length - (i + 1), by omega, i + 1, _, by omega, rfl, hU, hd.mono (fun k hk _ => by simp only [New] at hk ⊢; omega), hP, rfl⟩
                        · try (exfalso; first | (simp at hc16; done) | (simp only [decide_eq_true_eq, decide_eq_false_iff_not, Bool.not_eq_true', Bool.not_eq_false', Bool.not_eq_true, Bool.not_eq_false] at hc16; omega) | omega)
                          all_goals
                            try simp only [decide_eq_true_eq, decide_eq_false_iff_not, Bool.not_eq_true', Bool.not_eq_false', Bool.not_eq_true, Bool.not_eq_false, Option.isNone_none, Option.isNone_some, Option.isSome_none, Option.isSome_some, ne_eq, Decidable.not_not] at hc16
                            refine WC.seq ?_
                            -- region 18 more.go:26
                            refine WC.region ?_
                            refine WL.val rfl rfl rfl rfl (r_eql rfl (ev_t rfl) ev_c) ?_
                            refine WL.val rfl rfl rfl rfl (r_assign rfl (ev_t rfl)) ?_
                            refine WL.nil ?_
                            refine WX.keep [(0, _), (1, _), (2, _), (9, _), (11, _), (12, _), (13, _), (75, _)] ⟨rfl, rfl, rfl, rfl, rfl, rfl, rfl, rfl, trivial⟩ ?_
                            refine WX.next ?_
                            refine WC.cond rfl (ev_t rfl) (fun hc18 => ?_) (fun hc18 => ?_)
                            · try (exfalso; first | (simp at hc18; done) | (simp only [decide_eq_true_eq, decide_eq_false_iff_not, Bool.not_eq_true', Bool.not_eq_false', Bool.not_eq_true, Bool.not_eq_false] at hc18; omega) | omega)
                              all_goals
                                try simp only [decide_eq_true_eq, decide_eq_false_iff_not, Bool.not_eq_true', Bool.not_eq_false', Bool.not_eq_true, Bool.not_eq_false, Option.isNone_none, Option.isNone_some, Option.isSome_none, Option.isSome_some, ne_eq, Decidable.not_not] at hc18
                                -- region 19 more.go:27
                                refine WC.region ?_
                                refine WL.val rfl rfl rfl rfl (r_move rfl (ev_t rfl)) ?_
                                refine WL.val rfl rfl rfl rfl (r_move rfl (ev_t rfl)) ?_
                                first | refine WL.val rfl rfl rfl rfl (r_field0 rfl (ev_t rfl) fld_38_2) ?_ | refine WL.val rfl rfl rfl rfl (r_fieldAt rfl (ev_t rfl) fld_38_2) ?_
                                refine WL.val rfl rfl rfl rfl (r_load rfl (ev_t rfl) flat_22 (Blk.cell hB8 rfl)) ?_
                                refine WL.cons (SO.call (Write_good hd (hP.look (i := ai % 2) (by omega) (by omega)) (har.upd hU (fun _ _ _ h => h)) (fun k hk _ => notN hk)) rfl body_18 ⟨(ev_t rfl), (ev_t rfl), (ev_t rfl), trivial⟩ rfl rfl rfl rfl ?_)
                                rintro v w12 ⟨rfl, hd, hu12⟩
                                replace hP := hP.write (i := ai % 2) (b := al) (by omega) (by omega)
                                have hs12 := hu12.size
                                replace hU := hU.trans hu12 (by first | exact (fun _ _ h => h) | exact (fun _ _ h => h.elim) | (intro k hl hk; (try simp only [At, New, Grow, From, No] at hk ⊢); omega))
                                replace hB8 := hB8.upd hu12 (by first | (with_reducible assumption) | exact (fun h => h) | exact (fun _ _ _ h => h) | (simp only [At]; omega) | (simp only [At, New, Grow, From, No]; omega) | (intro k hk hl hS; simp only [At] at hS; subst hS; contradiction) | (intro k hk hl hS; simp only [At] at hS; subst hS; exact Grow.old (by omega) (by assumption) hk) | (intro k hk hl hS; (try simp only [At, From, No, Grow, New] at hk hS); omega))
                                replace hd := hd.mono (F' := New w w12) (fun k hk _ => New.grow (by omega) (by omega) hk)
                                refine WL.nil ?_
                                refine WX.keep [(0, _), (1, _), (2, _), (9, _), (11, _)] ⟨rfl, rfl, rfl, rfl, rfl, trivial⟩ ?_
                                refine WX.blockNormal ?_
                                refine WX.next ?_
                                refine WC.seq ?_
                                -- region 20 more.go:31
                                refine WC.region ?_
                                refine WL.val rfl rfl rfl rfl (r_move rfl (ev_t rfl)) ?_
                                refine WL.cons (SO.call (Read_good hd (hP.look (by omega) (by omega))) rfl body_20 ⟨(ev_t rfl), ev_c, trivial⟩ rfl rfl rfl rfl ?_)
                                rintro v w13 ⟨v3, rfl, hr3, hu13⟩
                                rw [hP.track] at hr3
                                have hs13 := hu13.size
                                replace hU := hU.trans hu13 (by first | exact (fun _ _ h => h) | exact (fun _ _ h => h.elim) | (intro k hl hk; (try simp only [At, New, Grow, From, No] at hk ⊢); omega))
                                replace hd := hd.upd hu13 (by first | exact (fun _ _ _ h => h) | (intro k hk hl hS; simp only [At, New, Grow, From, No] at *; omega))
                                replace hB8 := hB8.upd hu13 (by first | (with_reducible assumption) | exact (fun h => h) | exact (fun _ _ _ h => h) | (simp only [At]; omega) | (simp only [At, New, Grow, From, No]; omega) | (intro k hk hl hS; simp only [At] at hS; subst hS; contradiction) | (intro k hk hl hS; simp only [At] at hS; subst hS; exact Grow.old (by omega) (by assumption) hk) | (intro k hk hl hS; (try simp only [At, From, No, Grow, New] at hk hS); omega))
                                obtain ⟨A3, c3, rfl, hc3⟩ := Own.form hr3
                                refine WL.val rfl rfl rfl rfl (r_move rfl (ev_t rfl)) ?_
                                refine WL.val rfl rfl rfl rfl (r_extract rfl (ev_t rfl) rfl) ?_
                                refine WL.val rfl rfl rfl rfl (r_extract rfl (ev_t rfl) rfl) ?_
                                refine WL.val rfl rfl rfl rfl (r_assign rfl (ev_t rfl)) ?_
                                refine WL.val rfl rfl rfl rfl (r_assign rfl (ev_t rfl)) ?_
                                refine WL.nil ?_
                                refine WX.keep [(0, _), (1, _), (2, _), (9, _), (11, _), (14, _), (15, _)] ⟨rfl, rfl, rfl, rfl, rfl, rfl, rfl, trivial⟩ ?_
                                refine WX.next ?_
                                refine WC.seq ?_
                                -- region 21 more.go:32
                                refine WC.region ?_
                                refine WL.val rfl rfl rfl rfl (r_move rfl (ev_t rfl)) ?_
                                refine WL.val rfl rfl rfl rfl (r_neq rfl (ev_t rfl) ev_c) ?_
                                refine WL.val rfl rfl rfl rfl (r_move rfl (ev_t rfl)) ?_
                                refine WL.cases 89 rfl (fun hb21_2 => ?_) (fun hb21_2 => ?_)
                                · try (exfalso; first | (simp at hb21_2; done) | (simp only [decide_eq_true_eq, decide_eq_false_iff_not, Bool.not_eq_true', Bool.not_eq_false', Bool.not_eq_true, Bool.not_eq_false] at hb21_2; omega) | omega)
                                  all_goals
                                    try simp only [decide_eq_true_eq, decide_eq_false_iff_not, Bool.not_eq_true', Bool.not_eq_false', Bool.not_eq_true, Bool.not_eq_false, Option.isNone_none, Option.isNone_some, Option.isSome_none, Option.isSome_some, ne_eq, Decidable.not_not] at hb21_2
                                    refine WL.skip rfl rfl rfl ?_
                                    refine WL.skip rfl rfl rfl ?_
                                    refine WL.skip rfl rfl rfl ?_
                                    refine WL.skip rfl rfl rfl ?_
                                    refine WL.skip rfl rfl rfl ?_
                                    refine WL.skip rfl rfl rfl ?_
                                    refine WL.skip rfl rfl rfl ?_
                                    refine WL.skip rfl rfl rfl ?_
                                    refine WL.val rfl rfl rfl rfl (r_pickT rfl (ev_t rfl) ev_c) ?_
                                    refine WL.nil ?_
                                    refine WX.keep [(0, _), (1, _), (2, _), (9, _), (11, _), (98, _)] ⟨rfl, rfl, rfl, rfl, rfl, rfl, trivial⟩ ?_
                                    refine WX.next ?_
                                    refine WC.cond_true rfl (ev_t rfl) ?_
                                    refine WC.seq ?_
                                    -- region 22 more.go:33
                                    refine WC.region ?_
                                    refine WL.val rfl rfl rfl rfl (r_assign rfl ev_c) ?_
                                    refine WL.nil ?_
                                    refine WX.keep [(8, _)] ⟨rfl, trivial⟩ ?_
                                    refine WX.next ?_
                                    refine WC.ret ?_
                                    refine WX.blockRet ?_
                                    refine WX.thenRet ?_
                                    refine WX.thenRet ?_
                                    refine WX.blockRet ?_
                                    refine WX.thenRet ?_
                                    refine WX.retE1 rfl rfl ?_
                                    exact ⟨by simp, hU⟩
                                · try (exfalso; first | (simp at hb21_2; done) | (simp only [decide_eq_true_eq, decide_eq_false_iff_not, Bool.not_eq_true', Bool.not_eq_false', Bool.not_eq_true, Bool.not_eq_false] at hb21_2; omega) | omega)
                                  all_goals
                                    try simp only [decide_eq_true_eq, decide_eq_false_iff_not, Bool.not_eq_true', Bool.not_eq_false', Bool.not_eq_true, Bool.not_eq_false, Option.isNone_none, Option.isNone_some, Option.isSome_none, Option.isSome_some, ne_eq, Decidable.not_not] at hb21_2
                                    refine WL.val rfl rfl rfl rfl (r_move rfl (ev_t rfl)) ?_
                                    refine WL.val rfl rfl rfl rfl (r_toStr rfl (ev_t rfl) (hr3.rd (by simp; omega)) elem_22 int_5 str_9) ?_
                                    refine WL.val rfl rfl rfl rfl (r_move rfl (ev_t rfl)) ?_
                                    refine WL.val rfl rfl rfl rfl (r_toStr rfl (ev_t rfl) (hp.upd hU (fun _ _ _ h => h)) elem_22 int_5 str_9) ?_
                                    refine WL.val rfl rfl rfl rfl (r_move rfl (ev_t rfl)) ?_
                                    refine WL.val rfl rfl rfl rfl (r_toStr rfl (ev_t rfl) (hq.upd hU (fun _ _ _ h => h)) elem_22 int_5 str_9) ?_
                                    refine WL.val rfl rfl rfl rfl (r_addStrL rfl (ev_t rfl) (ev_t rfl) (by omega)) ?_
                                    refine WL.val rfl rfl rfl rfl (r_neqStrL rfl (ev_t rfl) (ev_t rfl)) ?_
                                    refine WL.val rfl rfl rfl rfl (r_pickF rfl (ev_t rfl) (ev_t rfl)) ?_
                                    refine WL.nil ?_
                                    refine WX.keep [(0, _), (1, _), (2, _), (9, _), (11, _), (98, _)] ⟨rfl, rfl, rfl, rfl, rfl, rfl, trivial⟩ ?_
                                    refine WX.next ?_
                                    refine WC.cond rfl (ev_t rfl) (fun hc21 => ?_) (fun hc21 => ?_)
                                    · try (exfalso; first | (simp at hc21; done) | (simp only [decide_eq_true_eq, decide_eq_false_iff_not, Bool.not_eq_true', Bool.not_eq_false', Bool.not_eq_true, Bool.not_eq_false] at hc21; omega) | omega)
                                      all_goals
                                        try simp only [decide_eq_true_eq, decide_eq_false_iff_not, Bool.not_eq_true', Bool.not_eq_false', Bool.not_eq_true, Bool.not_eq_false, Option.isNone_none, Option.isNone_some, Option.isSome_none, Option.isSome_some, ne_eq, Decidable.not_not] at hc21
                                        refine WC.seq ?_
                                        -- region 22 more.go:33
                                        refine WC.region ?_
                                        refine WL.val rfl rfl rfl rfl (r_assign rfl ev_c) ?_
                                        refine WL.nil ?_
                                        refine WX.keep [(8, _)] ⟨rfl, trivial⟩ ?_
                                        refine WX.next ?_
                                        refine WC.ret ?_
                                        refine WX.blockRet ?_
                                        refine WX.thenRet ?_
                                        refine WX.thenRet ?_
                                        refine WX.blockRet ?_
                                        refine WX.thenRet ?_
                                        refine WX.retE1 rfl rfl ?_
                                        exact ⟨by simp, hU⟩
                                    · try (exfalso; first | (simp at hc21; done) | (simp only [decide_eq_true_eq, decide_eq_false_iff_not, Bool.not_eq_true', Bool.not_eq_false', Bool.not_eq_true, Bool.not_eq_false] at hc21; omega) | omega)
                                      all_goals
                                        try simp only [decide_eq_true_eq, decide_eq_false_iff_not, Bool.not_eq_true', Bool.not_eq_false', Bool.not_eq_true, Bool.not_eq_false, Option.isNone_none, Option.isNone_some, Option.isSome_none, Option.isSome_some, ne_eq, Decidable.not_not] at hc21
                                        refine WC.skip ?_
                                        refine WX.blockNormal ?_
                                        refine WX.next ?_
                                        -- region 9 more.go:17
                                        refine WC.region ?_
                                        refine WL.val rfl rfl rfl rfl (r_move rfl (ev_t rfl)) ?_
                                        first | refine WL.val rfl rfl rfl rfl (r_addN rfl (ev_t rfl) ev_c (by simp only [inK]; omega)) ?_ | refine WL.val rfl rfl rfl rfl (r_add rfl (ev_t rfl) ev_c) ?_
                                        refine WL.val rfl rfl rfl rfl (r_assign rfl (ev_t rfl)) ?_
                                        refine WL.nil ?_
                                        refine WX.keep [(0, _), (1, _), (2, _), (9, _), (11, _)] ⟨rfl, rfl, rfl, rfl, rfl, trivial⟩ ?_
                                        refine WX.meet [(0, _), (1, _), (2, _), (9, _), (11, _)] ⟨rfl, rfl, rfl, rfl, rfl, trivial⟩ ?_
                                        exact ⟨l.length - (i + 1), by omega, i + 1, _, by omega, rfl, hU, hd.mono (fun k hk _ => by simp only [New] at hk ⊢; omega), hP, rfl⟩
                            · try (exfalso; first | (simp at hc18; done) | (simp only [decide_eq_true_eq, decide_eq_false_iff_not, Bool.not_eq_true', Bool.not_eq_false', Bool.not_eq_true, Bool.not_eq_false] at hc18; omega) | omega)
                              all_goals
                                try simp only [decide_eq_true_eq, decide_eq_false_iff_not, Bool.not_eq_true', Bool.not_eq_false', Bool.not_eq_true, Bool.not_eq_false, Option.isNone_none, Option.isNone_some, Option.isSome_none, Option.isSome_some, ne_eq, Decidable.not_not] at hc18
                                -- region 15 more.go:29
                                refine WC.region ?_
                                refine WL.val rfl rfl rfl rfl (r_move rfl (ev_t rfl)) ?_
                                refine WL.val rfl rfl rfl rfl (r_move rfl (ev_t rfl)) ?_
                                refine WL.cons (SO.call (Sync_good hd (hP.look (i := ai % 2) (by omega) (by omega))) rfl body_17 ⟨(ev_t rfl), (ev_t rfl), trivial⟩ rfl rfl rfl rfl ?_)
                                rintro v w14 ⟨rfl, hd, hu14⟩
                                replace hP := hP.sync (i := ai % 2) (by omega) (by omega)
                                have hs14 := hu14.size
                                replace hU := hU.trans hu14 (by first | exact (fun _ _ h => h) | exact (fun _ _ h => h.elim) | (intro k hl hk; (try simp only [At, New, Grow, From, No] at hk ⊢); omega))
                                replace hB8 := hB8.upd hu14 (by first | (with_reducible assumption) | exact (fun h => h) | exact (fun _ _ _ h => h) | (simp only [At]; omega) | (simp only [At, New, Grow, From, No]; omega) | (intro k hk hl hS; simp only [At] at hS; subst hS; contradiction) | (intro k hk hl hS; simp only [At] at hS; subst hS; exact Grow.old (by omega) (by assumption) hk) | (intro k hk hl hS; (try simp only [At, From, No, Grow, New] at hk hS); omega))
                                replace hd := hd.mono (F' := New w w14) (fun k hk _ => New.grow (by omega) (by omega) hk)
                                refine WL.nil ?_
                                refine WX.keep [(0, _), (1, _), (2, _), (9, _), (11, _)] ⟨rfl, rfl, rfl, rfl, rfl, trivial⟩ ?_
                                refine WX.blockNormal ?_
                                refine WX.next ?_
                                refine WC.seq ?_
                                -- region 20 more.go:31
                                refine WC.region ?_
                                refine WL.val rfl rfl rfl rfl (r_move rfl (ev_t rfl)) ?_
                                refine WL.cons (SO.call (Read_good hd (hP.look (by omega) (by omega))) rfl body_20 ⟨(ev_t rfl), ev_c, trivial⟩ rfl rfl rfl rfl ?_)
                                rintro v w15 ⟨v3, rfl, hr3, hu15⟩
                                rw [hP.track] at hr3
                                have hs15 := hu15.size
                                replace hU := hU.trans hu15 (by first | exact (fun _ _ h => h) | exact (fun _ _ h => h.elim) | (intro k hl hk; (try simp only [At, New, Grow, From, No] at hk ⊢); omega))
                                replace hd := hd.upd hu15 (by first | exact (fun _ _ _ h => h) | (intro k hk hl hS; simp only [At, New, Grow, From, No] at *; omega))
                                replace hB8 := hB8.upd hu15 (by first | (with_reducible assumption) | exact (fun h => h) | exact (fun _ _ _ h => h) | (simp only [At]; omega) | (simp only [At, New, Grow, From, No]; omega) | (intro k hk hl hS; simp only [At] at hS; subst hS; contradiction) | (intro k hk hl hS; simp only [At] at hS; subst hS; exact Grow.old (by omega) (by assumption) hk) | (intro k hk hl hS; (try simp only [At, From, No, Grow, New] at hk hS); omega))
                                obtain ⟨A3, c3, rfl, hc3⟩ := Own.form hr3
                                refine WL.val rfl rfl rfl rfl (r_move rfl (ev_t rfl)) ?_
                                refine WL.val rfl rfl rfl rfl (r_extract rfl (ev_t rfl) rfl) ?_
                                refine WL.val rfl rfl rfl rfl (r_extract rfl (ev_t rfl) rfl) ?_
                                refine WL.val rfl rfl rfl rfl (r_assign rfl (ev_t rfl)) ?_
                                refine WL.val rfl rfl rfl rfl (r_assign rfl (ev_t rfl)) ?_
                                refine WL.nil ?_
                                refine WX.keep [(0, _), (1, _), (2, _), (9, _), (11, _), (14, _), (15, _)] ⟨rfl, rfl, rfl, rfl, rfl, rfl, rfl, trivial⟩ ?_
                                refine WX.next ?_
                                refine WC.seq ?_
                                -- region 21 more.go:32
                                refine WC.region ?_
                                refine WL.val rfl rfl rfl rfl (r_move rfl (ev_t rfl)) ?_
                                refine WL.val rfl rfl rfl rfl (r_neq rfl (ev_t rfl) ev_c) ?_
                                refine WL.val rfl rfl rfl rfl (r_move rfl (ev_t rfl)) ?_
                                refine WL.cases 89 rfl (fun hb21_2 => ?_) (fun hb21_2 => ?_)
                                · try (exfalso; first | (simp at hb21_2; done) | (simp only [decide_eq_true_eq, decide_eq_false_iff_not, Bool.not_eq_true', Bool.not_eq_false', Bool.not_eq_true, Bool.not_eq_false] at hb21_2; omega) | omega)
                                  all_goals
                                    try simp only [decide_eq_true_eq, decide_eq_false_iff_not, Bool.not_eq_true', Bool.not_eq_false', Bool.not_eq_true, Bool.not_eq_false, Option.isNone_none, Option.isNone_some, Option.isSome_none, Option.isSome_some, ne_eq, Decidable.not_not] at hb21_2
                                    refine WL.skip rfl rfl rfl ?_
                                    refine WL.skip rfl rfl rfl ?_
                                    refine WL.skip rfl rfl rfl ?_
                                    refine WL.skip rfl rfl rfl ?_
                                    refine WL.skip rfl rfl rfl ?_
                                    refine WL.skip rfl rfl rfl ?_
                                    refine WL.skip rfl rfl rfl ?_
                                    refine WL.skip rfl rfl rfl ?_
                                    refine WL.val rfl rfl rfl rfl (r_pickT rfl (ev_t rfl) ev_c) ?_
                                    refine WL.nil ?_
                                    refine WX.keep [(0, _), (1, _), (2, _), (9, _), (11, _), (98, _)] ⟨rfl, rfl, rfl, rfl, rfl, rfl, trivial⟩ ?_
                                    refine WX.next ?_
                                    refine WC.cond_true rfl (ev_t rfl) ?_
                                    refine WC.seq ?_
                                    -- region 22 more.go:33
                                    refine WC.region ?_
                                    refine WL.val rfl rfl rfl rfl (r_assign rfl ev_c) ?_
                                    refine WL.nil ?_
                                    refine WX.keep [(8, _)] ⟨rfl, trivial⟩ ?_
                                    refine WX.next ?_
                                    refine WC.ret ?_
                                    refine WX.blockRet ?_
                                    refine WX.thenRet ?_
                                    refine WX.thenRet ?_
                                    refine WX.blockRet ?_
                                    refine WX.thenRet ?_
                                    refine WX.retE1 rfl rfl ?_
                                    exact ⟨by simp, hU⟩
                                · try (exfalso; first | (simp at hb21_2; done) | (simp only [decide_eq_true_eq, decide_eq_false_iff_not, Bool.not_eq_true', Bool.not_eq_false', Bool.not_eq_true, Bool.not_eq_false] at hb21_2; omega) | omega)
                                  all_goals
                                    try simp only [decide_eq_true_eq, decide_eq_false_iff_not, Bool.not_eq_true', Bool.not_eq_false', Bool.not_eq_true, Bool.not_eq_false, Option.isNone_none, Option.isNone_some, Option.isSome_none, Option.isSome_some, ne_eq, Decidable.not_not] at hb21_2
                                    refine WL.val rfl rfl rfl rfl (r_move rfl (ev_t rfl)) ?_
                                    refine WL.val rfl rfl rfl rfl (r_toStr rfl (ev_t rfl) (hr3.rd (by simp; omega)) elem_22 int_5 str_9) ?_
                                    refine WL.val rfl rfl rfl rfl (r_move rfl (ev_t rfl)) ?_
                                    refine WL.val rfl rfl rfl rfl (r_toStr rfl (ev_t rfl) (hp.upd hU (fun _ _ _ h => h)) elem_22 int_5 str_9) ?_
                                    refine WL.val rfl rfl rfl rfl (r_move rfl (ev_t rfl)) ?_
                                    refine WL.val rfl rfl rfl rfl (r_toStr rfl (ev_t rfl) (hq.upd hU (fun _ _ _ h => h)) elem_22 int_5 str_9) ?_
                                    refine WL.val rfl rfl rfl rfl (r_addStrL rfl (ev_t rfl) (ev_t rfl) (by omega)) ?_
                                    refine WL.val rfl rfl rfl rfl (r_neqStrL rfl (ev_t rfl) (ev_t rfl)) ?_
                                    refine WL.val rfl rfl rfl rfl (r_pickF rfl (ev_t rfl) (ev_t rfl)) ?_
                                    refine WL.nil ?_
                                    refine WX.keep [(0, _), (1, _), (2, _), (9, _), (11, _), (98, _)] ⟨rfl, rfl, rfl, rfl, rfl, rfl, trivial⟩ ?_
                                    refine WX.next ?_
                                    refine WC.cond rfl (ev_t rfl) (fun hc21 => ?_) (fun hc21 => ?_)
                                    · try (exfalso; first | (simp at hc21; done) | (simp only [decide_eq_true_eq, decide_eq_false_iff_not, Bool.not_eq_true', Bool.not_eq_false', Bool.not_eq_true, Bool.not_eq_false] at hc21; omega) | omega)
                                      all_goals
                                        try simp only [decide_eq_true_eq, decide_eq_false_iff_not, Bool.not_eq_true', Bool.not_eq_false', Bool.not_eq_true, Bool.not_eq_false, Option.isNone_none, Option.isNone_some, Option.isSome_none, Option.isSome_some, ne_eq, Decidable.not_not] at hc21
                                        refine WC.seq ?_
                                        -- region 22 more.go:33
                                        refine WC.region ?_
                                        refine WL.val rfl rfl rfl rfl (r_assign rfl ev_c) ?_
                                        refine WL.nil ?_
                                        refine WX.keep [(8, _)] ⟨rfl, trivial⟩ ?_
                                        refine WX.next ?_
                                        refine WC.ret ?_
                                        refine WX.blockRet ?_
                                        refine WX.thenRet ?_
                                        refine WX.thenRet ?_
                                        refine WX.blockRet ?_
                                        refine WX.thenRet ?_
                                        refine WX.retE1 rfl rfl ?_
                                        exact ⟨by simp, hU⟩
                                    · try (exfalso; first | (simp at hc21; done) | (simp only [decide_eq_true_eq, decide_eq_false_iff_not, Bool.not_eq_true', Bool.not_eq_false', Bool.not_eq_true, Bool.not_eq_false] at hc21; omega) | omega)
                                      all_goals
                                        try simp only [decide_eq_true_eq, decide_eq_false_iff_not, Bool.not_eq_true', Bool.not_eq_false', Bool.not_eq_true, Bool.not_eq_false, Option.isNone_none, Option.isNone_some, Option.isSome_none, Option.isSome_some, ne_eq, Decidable.not_not] at hc21
                                        refine WC.skip ?_
                                        refine WX.blockNormal ?_
                                        refine WX.next ?_
                                        -- region 9 more.go:17
                                        refine WC.region ?_
                                        refine WL.val rfl rfl rfl rfl (r_move rfl (ev_t rfl)) ?_
                                        first | refine WL.val rfl rfl rfl rfl (r_addN rfl (ev_t rfl) ev_c (by simp only [inK]; omega)) ?_ | refine WL.val rfl rfl rfl rfl (r_add rfl (ev_t rfl) ev_c) ?_
                                        refine WL.val rfl rfl rfl rfl (r_assign rfl (ev_t rfl)) ?_
                                        refine WL.nil ?_
                                        refine WX.keep [(0, _), (1, _), (2, _), (9, _), (11, _)] ⟨rfl, rfl, rfl, rfl, rfl, trivial⟩ ?_
                                        refine WX.meet [(0, _), (1, _), (2, _), (9, _), (11, _)] ⟨rfl, rfl, rfl, rfl, rfl, trivial⟩ ?_
                                        exact ⟨l.length - (i + 1), by omega, i + 1, _, by omega, rfl, hU, hd.mono (fun k hk _ => by simp only [New] at hk ⊢; omega), hP, rfl⟩
                · try (exfalso; first | (simp at hc8; done) | (simp only [decide_eq_true_eq, decide_eq_false_iff_not, Bool.not_eq_true', Bool.not_eq_false', Bool.not_eq_true, Bool.not_eq_false] at hc8; omega) | omega)
                  all_goals
                    try simp only [decide_eq_true_eq, decide_eq_false_iff_not, Bool.not_eq_true', Bool.not_eq_false', Bool.not_eq_true, Bool.not_eq_false, Option.isNone_none, Option.isNone_some, Option.isSome_none, Option.isSome_some, ne_eq, Decidable.not_not] at hc8
                    refine WC.exit ?_
                    refine WX.thenExit ?_
                    refine WX.thenExit ?_
                    refine WX.blockHere ?_
                    refine WX.next ?_
                    refine WC.seq ?_
                    -- region 23 more.go:36
                    refine WC.region ?_
                    refine WL.val rfl rfl rfl rfl (r_move rfl (ev_t rfl)) ?_
                    refine WL.cons (SO.alloc rfl rfl rfl rfl (r_buildSlice1 (vs := [_, _, _]) rfl ⟨ev_c, ev_c, ev_c, trivial⟩ rfl row_23 rfl rfl) ?_)
                    intro w16 hu16 hB16 hz16
                    have hs16 := hu16.size
                    replace hU := hU.trans hu16 (by first | exact (fun _ _ h => h) | exact (fun _ _ h => h.elim) | (intro k hl hk; (try simp only [At, New, Grow, From, No] at hk ⊢); omega))
                    replace hd := hd.upd hu16 (by first | exact (fun _ _ _ h => h) | (intro k hk hl hS; simp only [At, New, Grow, From, No] at *; omega))
                    refine WL.cons (SO.call (Restart_ok (cuts := [0, 0, -1]) hd (Rd.of_blk (F := At _) (n := 3) (sz := 1) (cs := #[.int .i64 0, .int .i64 0, .int .i64 (-1)]) hB16 rfl rfl (by omega)) (fun k hk hl hF => by simp only [At, New] at *; omega)) rfl body_19 ⟨(ev_t rfl), (ev_t rfl), trivial⟩ rfl rfl rfl rfl ?_)
                    rintro v w17 ⟨rfl, hd, hu17⟩
                    have hs17 := hu17.size
                    replace hU := hU.trans hu17 (by first | exact (fun _ _ h => h) | exact (fun _ _ h => h.elim) | (intro k hl hk; (try simp only [At, New, Grow, From, No] at hk ⊢); omega))
                    refine WL.nil ?_
                    refine WX.keep [(0, _), (9, _)] ⟨rfl, rfl, trivial⟩ ?_
                    refine WX.next ?_
                    refine WC.seq ?_
                    -- region 24 more.go:37
                    refine WC.region ?_
                    refine WL.val rfl rfl rfl rfl (r_move rfl (ev_t rfl)) ?_
                    refine WL.cons (SO.call (Read_good hd hP.fall.2) rfl body_20 ⟨(ev_t rfl), ev_c, trivial⟩ rfl rfl rfl rfl ?_)
                    rintro v w18 ⟨v4, rfl, hr4, hu18⟩
                    rw [hP.fall.1] at hr4
                    have hs18 := hu18.size
                    replace hU := hU.trans hu18 (by first | exact (fun _ _ h => h) | exact (fun _ _ h => h.elim) | (intro k hl hk; (try simp only [At, New, Grow, From, No] at hk ⊢); omega))
                    replace hd := hd.upd hu18 (by first | exact (fun _ _ _ h => h) | (intro k hk hl hS; simp only [At, New, Grow, From, No] at *; omega))
                    obtain ⟨A4, c4, rfl, hc4⟩ := Own.form hr4
                    refine WL.val rfl rfl rfl rfl (r_move rfl (ev_t rfl)) ?_
                    refine WL.val rfl rfl rfl rfl (r_extract rfl (ev_t rfl) rfl) ?_
                    refine WL.val rfl rfl rfl rfl (r_extract rfl (ev_t rfl) rfl) ?_
                    refine WL.val rfl rfl rfl rfl (r_assign rfl (ev_t rfl)) ?_
                    refine WL.val rfl rfl rfl rfl (r_assign rfl (ev_t rfl)) ?_
                    refine WL.nil ?_
                    refine WX.keep [(0, _), (16, _), (17, _)] ⟨rfl, rfl, rfl, trivial⟩ ?_
                    refine WX.next ?_
                    refine WC.seq ?_
                    -- region 25 more.go:38
                    refine WC.region ?_
                    refine WL.val rfl rfl rfl rfl (r_move rfl (ev_t rfl)) ?_
                    refine WL.val rfl rfl rfl rfl (r_eql rfl (ev_t rfl) ev_c) ?_
                    refine WL.val rfl rfl rfl rfl (r_move rfl (ev_t rfl)) ?_
                    refine WL.cases 109 rfl (fun hb25_2 => ?_) (fun hb25_2 => ?_)
                    · try (exfalso; first | (simp at hb25_2; done) | (simp only [decide_eq_true_eq, decide_eq_false_iff_not, Bool.not_eq_true', Bool.not_eq_false', Bool.not_eq_true, Bool.not_eq_false] at hb25_2; omega) | omega)
                      all_goals
                        try simp only [decide_eq_true_eq, decide_eq_false_iff_not, Bool.not_eq_true', Bool.not_eq_false', Bool.not_eq_true, Bool.not_eq_false, Option.isNone_none, Option.isNone_some, Option.isSome_none, Option.isSome_some, ne_eq, Decidable.not_not] at hb25_2
                        refine WL.val rfl rfl rfl rfl (r_move rfl (ev_t rfl)) ?_
                        refine WL.val rfl rfl rfl rfl (r_toStr rfl (ev_t rfl) (hr4.rd (by omega)) elem_22 int_5 str_9) ?_
                        refine WL.val rfl rfl rfl rfl (r_move rfl (ev_t rfl)) ?_
                        refine WL.val rfl rfl rfl rfl (r_toStr rfl (ev_t rfl) (hp.upd hU (fun _ _ _ h => h)) elem_22 int_5 str_9) ?_
                        refine WL.val rfl rfl rfl rfl (r_eqlStrL rfl (ev_t rfl) (ev_t rfl)) ?_
                        refine WL.val rfl rfl rfl rfl (r_pickT rfl (ev_t rfl) (ev_t rfl)) ?_
                        refine WL.val rfl rfl rfl rfl (r_assign rfl (ev_t rfl)) ?_
                        refine WL.nil ?_
                        refine WX.keep [(8, _)] ⟨rfl, trivial⟩ ?_
                        refine WX.next ?_
                        refine WC.ret ?_
                        refine WX.retE1 rfl rfl ?_
                        exact ⟨by simp, hU⟩
                    · try (exfalso; first | (simp at hb25_2; done) | (simp only [decide_eq_true_eq, decide_eq_false_iff_not, Bool.not_eq_true', Bool.not_eq_false', Bool.not_eq_true, Bool.not_eq_false] at hb25_2; omega) | omega)
                      all_goals
                        try simp only [decide_eq_true_eq, decide_eq_false_iff_not, Bool.not_eq_true', Bool.not_eq_false', Bool.not_eq_true, Bool.not_eq_false, Option.isNone_none, Option.isNone_some, Option.isSome_none, Option.isSome_some, ne_eq, Decidable.not_not] at hb25_2
                        refine WL.skip rfl rfl rfl ?_
                        refine WL.skip rfl rfl rfl ?_
                        refine WL.skip rfl rfl rfl ?_
                        refine WL.skip rfl rfl rfl ?_
                        refine WL.skip rfl rfl rfl ?_
                        refine WL.val rfl rfl rfl rfl (r_pickF rfl (ev_t rfl) ev_c) ?_
                        refine WL.val rfl rfl rfl rfl (r_assign rfl (ev_t rfl)) ?_
                        refine WL.nil ?_
                        refine WX.keep [(8, _)] ⟨rfl, trivial⟩ ?_
                        refine WX.next ?_
                        refine WC.ret ?_
                        refine WX.retE1 rfl rfl ?_
                        exact ⟨by simp, hU⟩
            · try (exfalso; first | (simp at hb8_4; done) | (simp only [decide_eq_true_eq, decide_eq_false_iff_not, Bool.not_eq_true', Bool.not_eq_false', Bool.not_eq_true, Bool.not_eq_false] at hb8_4; omega) | omega)
              all_goals
                try simp only [decide_eq_true_eq, decide_eq_false_iff_not, Bool.not_eq_true', Bool.not_eq_false', Bool.not_eq_true, Bool.not_eq_false, Option.isNone_none, Option.isNone_some, Option.isSome_none, Option.isSome_some, ne_eq, Decidable.not_not] at hb8_4
                refine WL.skip rfl rfl rfl ?_
                refine WL.skip rfl rfl rfl ?_
                refine WL.val rfl rfl rfl rfl (r_pickF rfl (ev_t rfl) ev_c) ?_
                refine WL.nil ?_
                refine WX.keep [(0, _), (1, _), (2, _), (9, _), (11, _), (48, _)] ⟨rfl, rfl, rfl, rfl, rfl, rfl, trivial⟩ ?_
                refine WX.next ?_
                refine WC.cond_false rfl (ev_t rfl) ?_
                refine WC.exit ?_
                refine WX.thenExit ?_
                refine WX.thenExit ?_
                refine WX.blockHere ?_
                refine WX.next ?_
                refine WC.seq ?_
                -- region 23 more.go:36
                refine WC.region ?_
                refine WL.val rfl rfl rfl rfl (r_move rfl (ev_t rfl)) ?_
                refine WL.cons (SO.alloc rfl rfl rfl rfl (r_buildSlice1 (vs := [_, _, _]) rfl ⟨ev_c, ev_c, ev_c, trivial⟩ rfl row_23 rfl rfl) ?_)
                intro w19 hu19 hB19 hz19
                have hs19 := hu19.size
                replace hU := hU.trans hu19 (by first | exact (fun _ _ h => h) | exact (fun _ _ h => h.elim) | (intro k hl hk; (try simp only [At, New, Grow, From, No] at hk ⊢); omega))
                replace hd := hd.upd hu19 (by first | exact (fun _ _ _ h => h) | (intro k hk hl hS; simp only [At, New, Grow, From, No] at *; omega))
                refine WL.cons (SO.call (Restart_ok (cuts := [0, 0, -1]) hd (Rd.of_blk (F := At _) (n := 3) (sz := 1) (cs := #[.int .i64 0, .int .i64 0, .int .i64 (-1)]) hB19 rfl rfl (by omega)) (fun k hk hl hF => by simp only [At, New] at *; omega)) rfl body_19 ⟨(ev_t rfl), (ev_t rfl), trivial⟩ rfl rfl rfl rfl ?_)
                rintro v w20 ⟨rfl, hd, hu20⟩
                have hs20 := hu20.size
                replace hU := hU.trans hu20 (by first | exact (fun _ _ h => h) | exact (fun _ _ h => h.elim) | (intro k hl hk; (try simp only [At, New, Grow, From, No] at hk ⊢); omega))
                refine WL.nil ?_
                refine WX.keep [(0, _), (9, _)] ⟨rfl, rfl, trivial⟩ ?_
                refine WX.next ?_
                refine WC.seq ?_
                -- region 24 more.go:37
                refine WC.region ?_
                refine WL.val rfl rfl rfl rfl (r_move rfl (ev_t rfl)) ?_
                refine WL.cons (SO.call (Read_good hd hP.fall.2) rfl body_20 ⟨(ev_t rfl), ev_c, trivial⟩ rfl rfl rfl rfl ?_)
                rintro v w21 ⟨v4, rfl, hr4, hu21⟩
                rw [hP.fall.1] at hr4
                have hs21 := hu21.size
                replace hU := hU.trans hu21 (by first | exact (fun _ _ h => h) | exact (fun _ _ h => h.elim) | (intro k hl hk; (try simp only [At, New, Grow, From, No] at hk ⊢); omega))
                replace hd := hd.upd hu21 (by first | exact (fun _ _ _ h => h) | (intro k hk hl hS; simp only [At, New, Grow, From, No] at *; omega))
                obtain ⟨A4, c4, rfl, hc4⟩ := Own.form hr4
                refine WL.val rfl rfl rfl rfl (r_move rfl (ev_t rfl)) ?_
                refine WL.val rfl rfl rfl rfl (r_extract rfl (ev_t rfl) rfl) ?_
                refine WL.val rfl rfl rfl rfl (r_extract rfl (ev_t rfl) rfl) ?_
                refine WL.val rfl rfl rfl rfl (r_assign rfl (ev_t rfl)) ?_
                refine WL.val rfl rfl rfl rfl (r_assign rfl (ev_t rfl)) ?_
                refine WL.nil ?_
                refine WX.keep [(0, _), (16, _), (17, _)] ⟨rfl, rfl, rfl, trivial⟩ ?_
                refine WX.next ?_
                refine WC.seq ?_
                -- region 25 more.go:38
                refine WC.region ?_
                refine WL.val rfl rfl rfl rfl (r_move rfl (ev_t rfl)) ?_
                refine WL.val rfl rfl rfl rfl (r_eql rfl (ev_t rfl) ev_c) ?_
                refine WL.val rfl rfl rfl rfl (r_move rfl (ev_t rfl)) ?_
                refine WL.cases 109 rfl (fun hb25_2 => ?_) (fun hb25_2 => ?_)
                · try (exfalso; first | (simp at hb25_2; done) | (simp only [decide_eq_true_eq, decide_eq_false_iff_not, Bool.not_eq_true', Bool.not_eq_false', Bool.not_eq_true, Bool.not_eq_false] at hb25_2; omega) | omega)
                  all_goals
                    try simp only [decide_eq_true_eq, decide_eq_false_iff_not, Bool.not_eq_true', Bool.not_eq_false', Bool.not_eq_true, Bool.not_eq_false, Option.isNone_none, Option.isNone_some, Option.isSome_none, Option.isSome_some, ne_eq, Decidable.not_not] at hb25_2
                    refine WL.val rfl rfl rfl rfl (r_move rfl (ev_t rfl)) ?_
                    refine WL.val rfl rfl rfl rfl (r_toStr rfl (ev_t rfl) (hr4.rd (by omega)) elem_22 int_5 str_9) ?_
                    refine WL.val rfl rfl rfl rfl (r_move rfl (ev_t rfl)) ?_
                    refine WL.val rfl rfl rfl rfl (r_toStr rfl (ev_t rfl) (hp.upd hU (fun _ _ _ h => h)) elem_22 int_5 str_9) ?_
                    refine WL.val rfl rfl rfl rfl (r_eqlStrL rfl (ev_t rfl) (ev_t rfl)) ?_
                    refine WL.val rfl rfl rfl rfl (r_pickT rfl (ev_t rfl) (ev_t rfl)) ?_
                    refine WL.val rfl rfl rfl rfl (r_assign rfl (ev_t rfl)) ?_
                    refine WL.nil ?_
                    refine WX.keep [(8, _)] ⟨rfl, trivial⟩ ?_
                    refine WX.next ?_
                    refine WC.ret ?_
                    refine WX.retE1 rfl rfl ?_
                    exact ⟨by simp, hU⟩
                · try (exfalso; first | (simp at hb25_2; done) | (simp only [decide_eq_true_eq, decide_eq_false_iff_not, Bool.not_eq_true', Bool.not_eq_false', Bool.not_eq_true, Bool.not_eq_false] at hb25_2; omega) | omega)
                  all_goals
                    try simp only [decide_eq_true_eq, decide_eq_false_iff_not, Bool.not_eq_true', Bool.not_eq_false', Bool.not_eq_true, Bool.not_eq_false, Option.isNone_none, Option.isNone_some, Option.isSome_none, Option.isSome_some, ne_eq, Decidable.not_not] at hb25_2
                    refine WL.skip rfl rfl rfl ?_
                    refine WL.skip rfl rfl rfl ?_
                    refine WL.skip rfl rfl rfl ?_
                    refine WL.skip rfl rfl rfl ?_
                    refine WL.skip rfl rfl rfl ?_
                    refine WL.val rfl rfl rfl rfl (r_pickF rfl (ev_t rfl) ev_c) ?_
                    refine WL.val rfl rfl rfl rfl (r_assign rfl (ev_t rfl)) ?_
                    refine WL.nil ?_
                    refine WX.keep [(8, _)] ⟨rfl, trivial⟩ ?_
                    refine WX.next ?_
                    refine WC.ret ?_
                    refine WX.retE1 rfl rfl ?_
                    exact ⟨by simp, hU⟩
end Go.Proofs.Ytejlmcdmoghmaaa
