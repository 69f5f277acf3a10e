/-
  law 17: what is handed in and told may be written over.
-/
import Derived.Test.YtipabhbnljadfaaSed
namespace Go.Proofs.Ytipabhbnljadfaa
open Go
set_option linter.unusedSimpArgs false
set_option linter.unusedVariables false

theorem blt_of {a b : Nat} (h : a < b) : Nat.blt a b = true := Nat.blt_eq.mpr h
def lK (d : List UInt8) : List Ls := [⟨1, 1, d⟩]
theorem tok_lK {d : List UInt8} (h : d.length ≤ 1048576) : TOK (lK d) := ⟨List.pairwise_singleton _ _, by simp [lK], fun x hx => by simp only [lK, List.mem_singleton] at hx; subst hx; exact ⟨Nat.one_pos, by show 1 < _; omega, Nat.one_pos, by show 1 < _; omega, h⟩⟩
theorem put_lK (d : List UInt8) : putS [] ⟨1, 1, d⟩ = (lK d, 0) := rfl
theorem ask_lK (d : List UInt8) : askS (lK d) 1 1 = (d, 0) := rfl

set_option maxHeartbeats 2000000 in
theorem sessionKeeps.walk {w : World} {pv : Value} {p : List UInt8} (hp : Rd w (fun k => k < w.heap.size) pv p.length 1 (p.map U8)) :
    Ret Try.prog 5 #[pv] w fun v w' => v = .bool true ∧ Upd No w w' := by
  obtain ⟨Ap, cp, rfl, hcp⟩ := hp.slice_form
  have hpm := hp.le
  refine enterRet (vs := [_]) (N := 65) Try.func5 rfl rfl rfl ?_
  have hU := Upd.refl No w
  refine WC.keep [(0, _)] ⟨rfl, trivial⟩ ?_
  refine WC.seq ?_
  refine WC.region ?_
  refine WL.val rfl rfl rfl rfl (r_assign rfl ev_c) ?_
  refine WL.nil ?_
  refine WX.keep [(0, _)] ⟨rfl, trivial⟩ ?_
  refine WX.next ?_
  refine WC.seq ?_
  refine WC.seq ?_
  refine WC.region ?_
  refine WL.cons (SO.call (awake17_ok _) rfl body_9 trivial rfl rfl rfl rfl ?_)
  rintro v w1 ⟨rfl, hu1⟩
  have hs1 := hu1.size
  replace hU := hU.trans hu1 (by first | exact (fun _ _ h => h) | exact (fun _ _ h => h.elim) | (intro k hl hk; (try simp only [At, New, Grow, From, No] at hk ⊢); omega) | (intro k hl hk; simp only [At, New, Grow, From, No] at *; omega))
  refine WL.val rfl rfl rfl rfl (r_not rfl (ev_t rfl)) ?_
  refine WL.val rfl rfl rfl rfl (r_move rfl (ev_t rfl)) ?_
  refine WL.cases 11 rfl (fun hb1_2 => ?_) (fun hb1_2 => ?_)
  · try (exfalso; first | (simp at hb1_2; done) | (simp only [decide_eq_true_eq, decide_eq_false_iff_not, Bool.not_eq_true', Bool.not_eq_false', Bool.not_eq_true, Bool.not_eq_false] at hb1_2; omega) | omega)
    all_goals
     try simp only [decide_eq_true_eq, decide_eq_false_iff_not, Bool.not_eq_true', Bool.not_eq_false', Bool.not_eq_true, Bool.not_eq_false, Option.isNone_none, Option.isNone_some, Option.isSome_none, Option.isSome_some, ne_eq, Decidable.not_not] at hb1_2
     refine WL.skip rfl rfl rfl ?_
     refine WL.skip rfl rfl rfl ?_
     refine WL.skip rfl rfl rfl ?_
     refine WL.val rfl rfl rfl rfl (r_pickT rfl (ev_t rfl) ev_c) ?_
     refine WL.val rfl rfl rfl rfl (r_move rfl (ev_t rfl)) ?_
     refine WL.skip rfl rfl rfl ?_
     refine WL.skip rfl rfl rfl ?_
     refine WL.skip rfl rfl rfl ?_
     refine WL.val rfl rfl rfl rfl (r_pickT rfl (ev_t rfl) ev_c) ?_
     refine WL.nil ?_
     refine WX.keep [(0, _), (20, _)] ⟨rfl, rfl, trivial⟩ ?_
     refine WX.next ?_
     refine WC.cond_true rfl (ev_t rfl) ?_
     refine WC.seq ?_
     refine WC.region ?_
     refine WL.cons (SO.call (awake17_ok _) rfl body_9 trivial rfl rfl rfl rfl ?_)
     rintro v w2 ⟨rfl, hu2⟩
     have hs2 := hu2.size
     replace hU := hU.trans hu2 (by first | exact (fun _ _ h => h) | exact (fun _ _ h => h.elim) | (intro k hl hk; (try simp only [At, New, Grow, From, No] at hk ⊢); omega) | (intro k hl hk; simp only [At, New, Grow, From, No] at *; omega))
     refine WL.val rfl rfl rfl rfl (r_assign rfl (ev_t rfl)) ?_
     refine WL.nil ?_
     refine WX.keep [(2, _)] ⟨rfl, trivial⟩ ?_
     refine WX.next ?_
     refine WC.ret ?_
     refine WX.thenRet ?_
     refine WX.retE1 rfl rfl ?_
     first
       | exact ⟨rfl, hU⟩
       | exact ⟨by simp, hU⟩
  · try (exfalso; first | (simp at hb1_2; done) | (simp only [decide_eq_true_eq, decide_eq_false_iff_not, Bool.not_eq_true', Bool.not_eq_false', Bool.not_eq_true, Bool.not_eq_false] at hb1_2; omega) | omega)
    all_goals
     try simp only [decide_eq_true_eq, decide_eq_false_iff_not, Bool.not_eq_true', Bool.not_eq_false', Bool.not_eq_true, Bool.not_eq_false, Option.isNone_none, Option.isNone_some, Option.isSome_none, Option.isSome_some, ne_eq, Decidable.not_not] at hb1_2
     refine WL.val rfl rfl rfl rfl (r_move rfl (ev_t rfl)) ?_
     refine WL.val rfl rfl rfl rfl (r_lenSlice (ts := #[]) rfl (ev_t rfl) elem_23) ?_
     refine WL.val rfl rfl rfl rfl (r_eql rfl (ev_t rfl) ev_c) ?_
     refine WL.val rfl rfl rfl rfl (r_pickF rfl (ev_t rfl) (ev_t rfl)) ?_
     refine WL.val rfl rfl rfl rfl (r_move rfl (ev_t rfl)) ?_
     refine WL.cases 16 rfl (fun hb1_7 => ?_) (fun hb1_7 => ?_)
     · try (exfalso; first | (simp at hb1_7; done) | (simp only [decide_eq_true_eq, decide_eq_false_iff_not, Bool.not_eq_true', Bool.not_eq_false', Bool.not_eq_true, Bool.not_eq_false] at hb1_7; omega) | omega)
       all_goals
        try simp only [decide_eq_true_eq, decide_eq_false_iff_not, Bool.not_eq_true', Bool.not_eq_false', Bool.not_eq_true, Bool.not_eq_false, Option.isNone_none, Option.isNone_some, Option.isSome_none, Option.isSome_some, ne_eq, Decidable.not_not] at hb1_7
        refine WL.skip rfl rfl rfl ?_
        refine WL.skip rfl rfl rfl ?_
        refine WL.skip rfl rfl rfl ?_
        refine WL.val rfl rfl rfl rfl (r_pickT rfl (ev_t rfl) ev_c) ?_
        refine WL.nil ?_
        refine WX.keep [(0, _), (20, _)] ⟨rfl, rfl, trivial⟩ ?_
        refine WX.next ?_
        refine WC.cond_true rfl (ev_t rfl) ?_
        refine WC.seq ?_
        refine WC.region ?_
        refine WL.cons (SO.call (awake17_ok _) rfl body_9 trivial rfl rfl rfl rfl ?_)
        rintro v w3 ⟨rfl, hu3⟩
        have hs3 := hu3.size
        replace hU := hU.trans hu3 (by first | exact (fun _ _ h => h) | exact (fun _ _ h => h.elim) | (intro k hl hk; (try simp only [At, New, Grow, From, No] at hk ⊢); omega) | (intro k hl hk; simp only [At, New, Grow, From, No] at *; omega))
        refine WL.val rfl rfl rfl rfl (r_assign rfl (ev_t rfl)) ?_
        refine WL.nil ?_
        refine WX.keep [(2, _)] ⟨rfl, trivial⟩ ?_
        refine WX.next ?_
        refine WC.ret ?_
        refine WX.thenRet ?_
        refine WX.retE1 rfl rfl ?_
        first
          | exact ⟨rfl, hU⟩
          | exact ⟨by simp, hU⟩
     · try (exfalso; first | (simp at hb1_7; done) | (simp only [decide_eq_true_eq, decide_eq_false_iff_not, Bool.not_eq_true', Bool.not_eq_false', Bool.not_eq_true, Bool.not_eq_false] at hb1_7; omega) | omega)
       all_goals
        try simp only [decide_eq_true_eq, decide_eq_false_iff_not, Bool.not_eq_true', Bool.not_eq_false', Bool.not_eq_true, Bool.not_eq_false, Option.isNone_none, Option.isNone_some, Option.isSome_none, Option.isSome_some, ne_eq, Decidable.not_not] at hb1_7
        obtain ⟨p0, pr, rfl⟩ : ∃ p0 pr, p = p0 :: pr := by
          match p with
          | [] => simp at hb1_7
          | a :: r => exact ⟨a, r, rfl⟩
        refine WL.val rfl rfl rfl rfl (r_move rfl (ev_t rfl)) ?_
        refine WL.val rfl rfl rfl rfl (r_lenSlice (ts := #[]) rfl (ev_t rfl) elem_23) ?_
        refine WL.val rfl rfl rfl rfl (r_gtr rfl (ev_t rfl) ev_c) ?_
        refine WL.val rfl rfl rfl rfl (r_pickF rfl (ev_t rfl) (ev_t rfl)) ?_
        refine WL.nil ?_
        refine WX.keep [(0, _), (20, _)] ⟨rfl, rfl, trivial⟩ ?_
        refine WX.next ?_
        refine WC.cond rfl (ev_t rfl) (fun hc1 => ?_) (fun hc1 => ?_)
        · try (exfalso; first | (simp at hc1; done) | (simp only [decide_eq_true_eq, decide_eq_false_iff_not, Bool.not_eq_true', Bool.not_eq_false', Bool.not_eq_true, Bool.not_eq_false] at hc1; omega) | omega)
          all_goals
           try simp only [decide_eq_true_eq, decide_eq_false_iff_not, Bool.not_eq_true', Bool.not_eq_false', Bool.not_eq_true, Bool.not_eq_false, Option.isNone_none, Option.isNone_some, Option.isSome_none, Option.isSome_some, ne_eq, Decidable.not_not] at hc1
           refine WC.seq ?_
           refine WC.region ?_
           refine WL.cons (SO.call (awake17_ok _) rfl body_9 trivial rfl rfl rfl rfl ?_)
           rintro v w4 ⟨rfl, hu4⟩
           have hs4 := hu4.size
           replace hU := hU.trans hu4 (by first | exact (fun _ _ h => h) | exact (fun _ _ h => h.elim) | (intro k hl hk; (try simp only [At, New, Grow, From, No] at hk ⊢); omega) | (intro k hl hk; simp only [At, New, Grow, From, No] at *; omega))
           refine WL.val rfl rfl rfl rfl (r_assign rfl (ev_t rfl)) ?_
           refine WL.nil ?_
           refine WX.keep [(2, _)] ⟨rfl, trivial⟩ ?_
           refine WX.next ?_
           refine WC.ret ?_
           refine WX.thenRet ?_
           refine WX.retE1 rfl rfl ?_
           first
             | exact ⟨rfl, hU⟩
             | exact ⟨by simp, hU⟩
        · try (exfalso; first | (simp at hc1; done) | (simp only [decide_eq_true_eq, decide_eq_false_iff_not, Bool.not_eq_true', Bool.not_eq_false', Bool.not_eq_true, Bool.not_eq_false] at hc1; omega) | omega)
          all_goals
           try simp only [decide_eq_true_eq, decide_eq_false_iff_not, Bool.not_eq_true', Bool.not_eq_false', Bool.not_eq_true, Bool.not_eq_false, Option.isNone_none, Option.isNone_some, Option.isSome_none, Option.isSome_some, ne_eq, Decidable.not_not] at hc1
           refine WC.skip ?_
           refine WX.next ?_
           refine WC.seq ?_
           refine WC.region ?_
           refine WL.cons (SO.call (SNew_ok) rfl body_10 trivial rfl rfl rfl rfl ?_)
           rintro v w5 ⟨t, rfl, hs, hu5⟩
           have hs5 := hu5.size
           replace hU := hU.trans hu5 (by first | exact (fun _ _ h => h) | exact (fun _ _ h => h.elim) | (intro k hl hk; (try simp only [At, New, Grow, From, No] at hk ⊢); omega) | (intro k hl hk; simp only [At, New, Grow, From, No] at *; omega))
           refine WL.val rfl rfl rfl rfl (r_assign rfl (ev_t rfl)) ?_
           refine WL.nil ?_
           refine WX.keep [(0, _), (3, _)] ⟨rfl, rfl, trivial⟩ ?_
           refine WX.next ?_
           refine WC.seq ?_
           refine WC.region ?_
           refine WL.val rfl rfl rfl rfl (r_move rfl (ev_t rfl)) ?_
           refine WL.cons (SO.append (Own.nil _ (fun _ => False) _ _) (hp.upd hU (fun _ _ _ h => h)) row_23 (U8_one _) (le_maxLen (by omega)) (by omega) rfl ev_c (ev_t rfl) rfl rfl rfl rfl ?_)
           intro v6 w6 hq hu6
           have hs6 := hu6.size
           replace hU := hU.trans hu6 (by first | exact (fun _ _ h => h) | exact (fun _ _ h => h.elim) | (intro k hl hk; (try simp only [At, New, Grow, From, No] at hk ⊢); omega) | (intro k hl hk; simp only [At, New, Grow, From, No] at *; omega))
           replace hs := hs.upd hu6 (by first | exact (fun _ _ _ h => h) | (intro k hk hl hS; simp only [At, New, Grow, From, No] at *; omega))
           obtain ⟨A6, c6, rfl, hc6⟩ := Own.form hq
           simp only [Nat.zero_add, List.nil_append] at hq ⊢
           replace hq := Own.nilGrow hq
           refine WL.val rfl rfl rfl rfl (r_assign rfl (ev_t rfl)) ?_
           refine WL.nil ?_
           refine WX.keep [(0, _), (3, _), (4, _)] ⟨rfl, rfl, rfl, trivial⟩ ?_
           refine WX.next ?_
           refine WC.seq ?_
           refine WC.seq ?_
           refine WC.region ?_
           refine WL.val rfl rfl rfl rfl (r_move rfl (ev_t rfl)) ?_
           refine WL.val rfl rfl rfl rfl (r_move rfl (ev_t rfl)) ?_
           refine WL.cons (SO.call (Put_ok (data := p0 :: pr) (id := 1) (num := 1) hs TOK.nil (by decide) (by decide) (hq.rd (by omega)) (.inr rfl)) rfl body_11 ⟨(ev_t rfl), ev_c, ev_c, (ev_t rfl), trivial⟩ rfl rfl rfl rfl ?_)
           rw [put_lK]
           clear hs
           rintro v w7 ⟨rfl, hs, hu7⟩
           have hok : TOK (lK (p0 :: pr)) := tok_lK (by omega)
           have hs7 := hu7.size
           replace hU := hU.trans hu7 (by first | exact (fun _ _ h => h) | exact (fun _ _ h => h.elim) | (intro k hl hk; (try simp only [At, New, Grow, From, No] at hk ⊢); omega) | (intro k hl hk; simp only [At, New, Grow, From, No] at *; omega))
           replace hq := hq.upd hu7 (by first | exact (fun _ _ _ h => h) | (intro k hk hl hS; simp only [At, New, Grow, From, No] at *; omega))
           refine WL.val rfl rfl rfl rfl (r_neq rfl (ev_t rfl) ev_c) ?_
           refine WL.nil ?_
           refine WX.keep [(0, _), (3, _), (4, _), (28, _)] ⟨rfl, rfl, rfl, rfl, trivial⟩ ?_
           refine WX.next ?_
           refine WC.cond rfl (ev_t rfl) (fun hc5 => ?_) (fun hc5 => ?_)
           · try (exfalso; first | (simp at hc5; done) | (simp only [decide_eq_true_eq, decide_eq_false_iff_not, Bool.not_eq_true', Bool.not_eq_false', Bool.not_eq_true, Bool.not_eq_false] at hc5; omega) | omega)
             all_goals
              try simp only [decide_eq_true_eq, decide_eq_false_iff_not, Bool.not_eq_true', Bool.not_eq_false', Bool.not_eq_true, Bool.not_eq_false, Option.isNone_none, Option.isNone_some, Option.isSome_none, Option.isSome_some, ne_eq, Decidable.not_not] at hc5
              refine WC.seq ?_
              refine WC.region ?_
              refine WL.val rfl rfl rfl rfl (r_assign rfl ev_c) ?_
              refine WL.nil ?_
              refine WX.keep [(2, _)] ⟨rfl, trivial⟩ ?_
              refine WX.next ?_
              refine WC.ret ?_
              refine WX.thenRet ?_
              refine WX.retE1 rfl rfl ?_
              first
                | exact ⟨rfl, hU⟩
                | exact ⟨by simp, hU⟩
           · try (exfalso; first | (simp at hc5; done) | (simp only [decide_eq_true_eq, decide_eq_false_iff_not, Bool.not_eq_true', Bool.not_eq_false', Bool.not_eq_true, Bool.not_eq_false] at hc5; omega) | omega)
             all_goals
              try simp only [decide_eq_true_eq, decide_eq_false_iff_not, Bool.not_eq_true', Bool.not_eq_false', Bool.not_eq_true, Bool.not_eq_false, Option.isNone_none, Option.isNone_some, Option.isSome_none, Option.isSome_some, ne_eq, Decidable.not_not] at hc5
              refine WC.skip ?_
              refine WX.next ?_
              refine WC.seq ?_
              obtain ⟨gq, capq, curq, heq, hbq, hgq, hkq, _, hszq, _⟩ := Own.open hq (by simp)
              injection heq with e1 _ e2
              subst e1 e2
              have hq0 := (hq.rd (by omega)).cell (j := 0) (q := 0) (u := U8 p0) (by omega) rfl
              refine WC.region ?_
              refine WL.val rfl rfl rfl rfl (r_move rfl (ev_t rfl)) ?_
              refine WL.val rfl rfl rfl rfl (r_move rfl (ev_t rfl)) ?_
              refine WL.val rfl rfl rfl rfl (r_indexAddr rfl (ev_t rfl) ev_c elem_23 size_5 (by omega) (by omega)) ?_
              refine WL.val rfl rfl rfl rfl (r_load rfl (ev_t rfl) flat_5 hq0) ?_
              refine WL.val rfl rfl rfl rfl (r_xor rfl (ev_t rfl) ev_c) ?_
              refine WL.val rfl rfl rfl rfl (r_indexAddr rfl (ev_t rfl) ev_c elem_23 size_5 (by omega) (by omega)) ?_
              refine WL.cons (SO.store rfl (ev_t rfl) (ev_t rfl) size_5 hbq (blt_of (by rw [hszq]; simp; simp at hkq; omega)) rfl rfl rfl rfl ?_)
              intro w8 hu8 hbq hzq
              have hs8 := hu8.size
              replace hU := hU.trans hu8 (by first | exact (fun _ _ h => h) | exact (fun _ _ h => h.elim) | (intro k hl hk; (try simp only [At, New, Grow, From, No] at hk ⊢); omega) | (intro k hl hk; simp only [At, New, Grow, From, No] at *; omega))
              replace hs := hs.upd hu8 (by first | exact (fun _ _ _ h => h) | (intro k hk hl hS; simp only [At, New, Grow, From, No] at *; omega))
              refine WL.nil ?_
              refine WX.keep [(0, _), (3, _)] ⟨rfl, rfl, trivial⟩ ?_
              refine WX.next ?_
              refine WC.seq ?_
              refine WC.region ?_
              refine WL.val rfl rfl rfl rfl (r_move rfl (ev_t rfl)) ?_
              refine WL.cons (SO.call (Ask_ok (id := 1) (num := 1) hs hok (by decide) (by decide)) rfl body_12 ⟨(ev_t rfl), ev_c, ev_c, trivial⟩ rfl rfl rfl rfl ?_)
              rw [ask_lK]
              rintro v w9 ⟨v5, rfl, hsn, hu9⟩
              dsimp only at hsn
              obtain ⟨As, cs, rfl, hcs⟩ := Own.form hsn
              have hs9 := hu9.size
              replace hU := hU.trans hu9 (by first | exact (fun _ _ h => h) | exact (fun _ _ h => h.elim) | (intro k hl hk; (try simp only [At, New, Grow, From, No] at hk ⊢); omega) | (intro k hl hk; simp only [At, New, Grow, From, No] at *; omega))
              replace hs := hs.upd hu9 (by first | exact (fun _ _ _ h => h) | (intro k hk hl hS; simp only [At, New, Grow, From, No] at *; omega))
              refine WL.val rfl rfl rfl rfl (r_move rfl (ev_t rfl)) ?_
              refine WL.val rfl rfl rfl rfl (r_extract rfl (ev_t rfl) rfl) ?_
              refine WL.val rfl rfl rfl rfl (r_extract rfl (ev_t rfl) rfl) ?_
              refine WL.val rfl rfl rfl rfl (r_assign rfl (ev_t rfl)) ?_
              refine WL.val rfl rfl rfl rfl (r_assign rfl (ev_t rfl)) ?_
              refine WL.nil ?_
              refine WX.keep [(0, _), (3, _), (5, _)] ⟨rfl, rfl, rfl, trivial⟩ ?_
              refine WX.next ?_
              refine WC.seq ?_
              refine WC.seq ?_
              refine WC.region ?_
              refine WL.val rfl rfl rfl rfl (r_move rfl (ev_t rfl)) ?_
              refine WL.val rfl rfl rfl rfl (r_toStr rfl (ev_t rfl) (hsn.rd (by omega)) elem_23 int_5 str_9) ?_
              refine WL.val rfl rfl rfl rfl (r_move rfl (ev_t rfl)) ?_
              refine WL.val rfl rfl rfl rfl (r_toStr rfl (ev_t rfl) (hp.upd hU (fun _ _ _ h => h)) elem_23 int_5 str_9) ?_
              refine WL.val rfl rfl rfl rfl (r_neqStrL rfl (ev_t rfl) (ev_t rfl)) ?_
              refine WL.nil ?_
              refine WX.keep [(0, _), (3, _), (5, _), (44, _)] ⟨rfl, rfl, rfl, rfl, trivial⟩ ?_
              refine WX.next ?_
              refine WC.cond rfl (ev_t rfl) (fun hc9 => ?_) (fun hc9 => ?_)
              · try (exfalso; first | (simp at hc9; done) | (simp only [decide_eq_true_eq, decide_eq_false_iff_not, Bool.not_eq_true', Bool.not_eq_false', Bool.not_eq_true, Bool.not_eq_false] at hc9; omega) | omega)
                all_goals
                 try simp only [decide_eq_true_eq, decide_eq_false_iff_not, Bool.not_eq_true', Bool.not_eq_false', Bool.not_eq_true, Bool.not_eq_false, Option.isNone_none, Option.isNone_some, Option.isSome_none, Option.isSome_some, ne_eq, Decidable.not_not] at hc9
                 refine WC.seq ?_
                 refine WC.region ?_
                 refine WL.val rfl rfl rfl rfl (r_assign rfl ev_c) ?_
                 refine WL.nil ?_
                 refine WX.keep [(2, _)] ⟨rfl, trivial⟩ ?_
                 refine WX.next ?_
                 refine WC.ret ?_
                 refine WX.thenRet ?_
                 refine WX.retE1 rfl rfl ?_
                 first
                   | exact ⟨rfl, hU⟩
                   | exact ⟨by simp, hU⟩
              · try (exfalso; first | (simp at hc9; done) | (simp only [decide_eq_true_eq, decide_eq_false_iff_not, Bool.not_eq_true', Bool.not_eq_false', Bool.not_eq_true, Bool.not_eq_false] at hc9; omega) | omega)
                all_goals
                 try simp only [decide_eq_true_eq, decide_eq_false_iff_not, Bool.not_eq_true', Bool.not_eq_false', Bool.not_eq_true, Bool.not_eq_false, Option.isNone_none, Option.isNone_some, Option.isSome_none, Option.isSome_some, ne_eq, Decidable.not_not] at hc9
                 refine WC.skip ?_
                 refine WX.next ?_
                 refine WC.seq ?_
                 obtain ⟨gs, caps, curs, heq, hbs, hgs, hks, _, hszs, _⟩ := Own.open hsn (by simp)
                 injection heq with e1 _ e2
                 subst e1 e2
                 have hq1 := (hsn.rd (by omega)).cell (j := 0) (q := 0) (u := U8 p0) (by omega) rfl
                 refine WC.region ?_
                 refine WL.val rfl rfl rfl rfl (r_move rfl (ev_t rfl)) ?_
                 refine WL.val rfl rfl rfl rfl (r_move rfl (ev_t rfl)) ?_
                 refine WL.val rfl rfl rfl rfl (r_indexAddr rfl (ev_t rfl) ev_c elem_23 size_5 (by omega) (by omega)) ?_
                 refine WL.val rfl rfl rfl rfl (r_load rfl (ev_t rfl) flat_5 hq1) ?_
                 refine WL.val rfl rfl rfl rfl (r_xor rfl (ev_t rfl) ev_c) ?_
                 refine WL.val rfl rfl rfl rfl (r_indexAddr rfl (ev_t rfl) ev_c elem_23 size_5 (by omega) (by omega)) ?_
                 refine WL.cons (SO.store rfl (ev_t rfl) (ev_t rfl) size_5 hbs (blt_of (by rw [hszs]; simp; simp at hks; omega)) rfl rfl rfl rfl ?_)
                 intro w10 hu10 hbs hzq2
                 have hs10 := hu10.size
                 replace hU := hU.trans hu10 (by first | exact (fun _ _ h => h) | exact (fun _ _ h => h.elim) | (intro k hl hk; (try simp only [At, New, Grow, From, No] at hk ⊢); omega) | (intro k hl hk; simp only [At, New, Grow, From, No] at *; omega))
                 replace hs := hs.upd hu10 (by first | exact (fun _ _ _ h => h) | (intro k hk hl hS; simp only [At, New, Grow, From, No] at *; omega))
                 refine WL.nil ?_
                 refine WX.keep [(0, _), (3, _)] ⟨rfl, rfl, trivial⟩ ?_
                 refine WX.next ?_
                 refine WC.seq ?_
                 refine WC.region ?_
                 refine WL.val rfl rfl rfl rfl (r_move rfl (ev_t rfl)) ?_
                 refine WL.cons (SO.call (Ask_ok (id := 1) (num := 1) hs hok (by decide) (by decide)) rfl body_12 ⟨(ev_t rfl), ev_c, ev_c, trivial⟩ rfl rfl rfl rfl ?_)
                 rw [ask_lK]
                 rintro v w11 ⟨v7, rfl, hsn2, hu11⟩
                 dsimp only at hsn2
                 obtain ⟨As2, cs2, rfl, hcs2⟩ := Own.form hsn2
                 have hs11 := hu11.size
                 replace hU := hU.trans hu11 (by first | exact (fun _ _ h => h) | exact (fun _ _ h => h.elim) | (intro k hl hk; (try simp only [At, New, Grow, From, No] at hk ⊢); omega) | (intro k hl hk; simp only [At, New, Grow, From, No] at *; omega))
                 replace hs := hs.upd hu11 (by first | exact (fun _ _ _ h => h) | (intro k hk hl hS; simp only [At, New, Grow, From, No] at *; omega))
                 refine WL.val rfl rfl rfl rfl (r_move rfl (ev_t rfl)) ?_
                 refine WL.val rfl rfl rfl rfl (r_extract rfl (ev_t rfl) rfl) ?_
                 refine WL.val rfl rfl rfl rfl (r_extract rfl (ev_t rfl) rfl) ?_
                 refine WL.val rfl rfl rfl rfl (r_assign rfl (ev_t rfl)) ?_
                 refine WL.val rfl rfl rfl rfl (r_assign rfl (ev_t rfl)) ?_
                 refine WL.nil ?_
                 refine WX.keep [(0, _), (7, _), (8, _)] ⟨rfl, rfl, rfl, trivial⟩ ?_
                 refine WX.next ?_
                 refine WC.seq ?_
                 refine WC.region ?_
                 refine WL.val rfl rfl rfl rfl (r_move rfl (ev_t rfl)) ?_
                 refine WL.val rfl rfl rfl rfl (r_eql rfl (ev_t rfl) ev_c) ?_
                 refine WL.val rfl rfl rfl rfl (r_move rfl (ev_t rfl)) ?_
                 refine WL.cases 58 rfl (fun hb13_2 => ?_) (fun hb13_2 => ?_)
                 · try (exfalso; first | (simp at hb13_2; done) | (simp only [decide_eq_true_eq, decide_eq_false_iff_not, Bool.not_eq_true', Bool.not_eq_false', Bool.not_eq_true, Bool.not_eq_false] at hb13_2; omega) | omega)
                   all_goals
                    try simp only [decide_eq_true_eq, decide_eq_false_iff_not, Bool.not_eq_true', Bool.not_eq_false', Bool.not_eq_true, Bool.not_eq_false, Option.isNone_none, Option.isNone_some, Option.isSome_none, Option.isSome_some, ne_eq, Decidable.not_not] at hb13_2
                    refine WL.val rfl rfl rfl rfl (r_move rfl (ev_t rfl)) ?_
                    refine WL.val rfl rfl rfl rfl (r_toStr rfl (ev_t rfl) (hsn2.rd (by omega)) elem_23 int_5 str_9) ?_
                    refine WL.val rfl rfl rfl rfl (r_move rfl (ev_t rfl)) ?_
                    refine WL.val rfl rfl rfl rfl (r_toStr rfl (ev_t rfl) (hp.upd hU (fun _ _ _ h => h)) elem_23 int_5 str_9) ?_
                    refine WL.val rfl rfl rfl rfl (r_eqlStrL rfl (ev_t rfl) (ev_t rfl)) ?_
                    refine WL.val rfl rfl rfl rfl (r_pickT rfl (ev_t rfl) (ev_t rfl)) ?_
                    refine WL.val rfl rfl rfl rfl (r_assign rfl (ev_t rfl)) ?_
                    refine WL.nil ?_
                    refine WX.keep [(2, _)] ⟨rfl, trivial⟩ ?_
                    refine WX.next ?_
                    refine WC.ret ?_
                    refine WX.retE1 rfl rfl ?_
                    first
                      | exact ⟨rfl, hU⟩
                      | exact ⟨by simp, hU⟩
                 · try (exfalso; first | (simp at hb13_2; done) | (simp only [decide_eq_true_eq, decide_eq_false_iff_not, Bool.not_eq_true', Bool.not_eq_false', Bool.not_eq_true, Bool.not_eq_false] at hb13_2; omega) | omega)
                   all_goals
                    try simp only [decide_eq_true_eq, decide_eq_false_iff_not, Bool.not_eq_true', Bool.not_eq_false', Bool.not_eq_true, Bool.not_eq_false, Option.isNone_none, Option.isNone_some, Option.isSome_none, Option.isSome_some, ne_eq, Decidable.not_not] at hb13_2
                    refine WL.skip rfl rfl rfl ?_
                    refine WL.skip rfl rfl rfl ?_
                    refine WL.skip rfl rfl rfl ?_
                    refine WL.skip rfl rfl rfl ?_
                    refine WL.skip rfl rfl rfl ?_
                    refine WL.val rfl rfl rfl rfl (r_pickF rfl (ev_t rfl) ev_c) ?_
                    refine WL.val rfl rfl rfl rfl (r_assign rfl (ev_t rfl)) ?_
                    refine WL.nil ?_
                    refine WX.keep [(2, _)] ⟨rfl, trivial⟩ ?_
                    refine WX.next ?_
                    refine WC.ret ?_
                    refine WX.retE1 rfl rfl ?_
                    first
                      | exact ⟨rfl, hU⟩
                      | exact ⟨by simp, hU⟩
end Go.Proofs.Ytipabhbnljadfaa
