/-
  octet: of two numbers the one that takes more bytes is greater: the walk.
-/
import Derived.Test.YtjiafgnibhgfbaaAwo
namespace Go.Proofs.Ytjiafgnibhgfbaa
open Go
set_option linter.unusedSimpArgs false
set_option linter.unusedVariables false

theorem order_walk (a b : Nat) (ha : a < 18446744073709551616) (hb : b < 18446744073709551616) (w : World) :
    Ret Try.prog 5 #[.int .u64 (a : Int), .int .u64 (b : Int)] w fun v w' =>
      v = .bool (Op.bytesLess (encU a) (encU b) == decide ((a : Int) < (b : Int))) ∧ Upd No w w' := by
  have la := encU_length a
  have lb := encU_length b
  have ma : blen a ≤ 8 := blen_le (by omega)
  have mb : blen b ≤ 8 := blen_le (by omega)
  refine enterRet (vs := [_, _]) (N := 28) Try.func5 rfl rfl rfl ?_
  have hU := Upd.refl No w
  refine WC.keep [(0, _), (1, _)] ⟨rfl, rfl, trivial⟩ ?_
  refine WC.seq ?_
  -- region 0 law.go:143
  refine WC.region ?_
  refine WL.val rfl rfl rfl rfl (r_assign rfl ev_c) ?_
  refine WL.nil ?_
  refine WX.keep [(0, _), (1, _)] ⟨rfl, rfl, trivial⟩ ?_
  refine WX.next ?_
  refine WC.seq ?_
  refine WC.seq ?_
  -- region 1 law.go:144
  refine WC.region ?_
  refine WL.cons (SO.call (awake1_ok _) rfl body_19 trivial rfl rfl rfl rfl ?_)
  rintro v w1 ⟨rfl, hu1⟩
  have hs1 := hu1.size
  replace hU := hU.fresh hu1 (by first | exact (fun _ h => h.elim) | (intro k hk; simp only [At, New, Grow, From, No] at hk; omega))
  refine WL.val rfl rfl rfl rfl (r_not rfl (ev_t rfl)) ?_
  refine WL.nil ?_
  refine WX.keep [(0, _), (1, _), (8, _)] ⟨rfl, rfl, rfl, trivial⟩ ?_
  refine WX.next ?_
  refine WC.cond rfl (ev_t rfl) (fun hc1 => ?_) (fun hc1 => ?_)
  · try (exfalso; first | (simp at hc1; done) | omega)
    all_goals
      try simp only [decide_eq_true_eq, decide_eq_false_iff_not, Bool.not_eq_true', Bool.not_eq_false', Bool.not_eq_true, Bool.not_eq_false, Option.isNone_none, Option.isNone_some, Option.isSome_none, Option.isSome_some, ne_eq, Decidable.not_not] at hc1
      refine WC.seq ?_
      -- region 2 law.go:145
      refine WC.region ?_
      refine WL.val rfl rfl rfl rfl (r_assign rfl ev_c) ?_
      refine WL.nil ?_
      refine WX.keep [(4, _)] ⟨rfl, trivial⟩ ?_
      refine WX.next ?_
      refine WC.ret ?_
      refine WX.thenRet ?_
      refine WX.retE1 rfl rfl ?_
      rw [mk_toList, mk_toList]
      exact ⟨rfl, hU⟩
  · try (exfalso; first | (simp at hc1; done) | omega)
    all_goals
      try simp only [decide_eq_true_eq, decide_eq_false_iff_not, Bool.not_eq_true', Bool.not_eq_false', Bool.not_eq_true, Bool.not_eq_false, Option.isNone_none, Option.isNone_some, Option.isSome_none, Option.isSome_some, ne_eq, Decidable.not_not] at hc1
      refine WC.skip ?_
      refine WX.next ?_
      refine WC.seq ?_
      -- region 3 law.go:147
      refine WC.region ?_
      refine WL.val rfl rfl rfl rfl (r_build (cs := #[_]) (vs := []) rfl trivial plc_39 zero_39 rfl) ?_
      refine WL.cons (SO.alloc rfl rfl rfl rfl (r_boxAgg rfl (ev_t rfl)) ?_)
      intro w2 hu2 hB2 hz2
      have hs2 := hu2.size
      replace hU := hU.fresh hu2 (by first | exact (fun _ h => h.elim) | (intro k hk; simp only [At, New, Grow, From, No] at hk; omega))
      refine WL.val rfl rfl rfl rfl (r_assign rfl (ev_t rfl)) ?_
      refine WL.nil ?_
      refine WX.keep [(0, _), (1, _), (5, _)] ⟨rfl, rfl, rfl, trivial⟩ ?_
      refine WX.next ?_
      refine WC.seq ?_
      -- region 4 law.go:148
      refine WC.region ?_
      refine WL.val rfl rfl rfl rfl (r_build (cs := #[_]) (vs := []) rfl trivial plc_39 zero_39 rfl) ?_
      refine WL.cons (SO.alloc rfl rfl rfl rfl (r_boxAgg rfl (ev_t rfl)) ?_)
      intro w3 hu3 hB3 hz3
      have hs3 := hu3.size
      replace hU := hU.fresh hu3 (by first | exact (fun _ h => h.elim) | (intro k hk; simp only [At, New, Grow, From, No] at hk; omega))
      replace hB2 := hB2.upd hu3 (by first | (with_reducible assumption) | exact (fun h => h) | exact (fun _ _ _ h => h) | (simp only [At]; omega) | (intro k hk hl hS; simp only [At] at hS; subst hS; contradiction) | (intro k hk hl hS; simp only [At] at hS; subst hS; exact Grow.old (by omega) (by assumption) hk) | (intro k hk hl hS; (try simp only [At, From, No, Grow, New] at hk hS); omega))
      refine WL.val rfl rfl rfl rfl (r_assign rfl (ev_t rfl)) ?_
      refine WL.nil ?_
      refine WX.keep [(0, _), (1, _), (5, _), (6, _)] ⟨rfl, rfl, rfl, rfl, trivial⟩ ?_
      refine WX.next ?_
      refine WC.seq ?_
      -- region 5 law.go:149 DRAWS
      refine WC.draws' (fun w0 w => Upd No w0 w) (fun j => [0, 0, 2, 2, 2, 0, 0, 2, 2, 2, 0, 0, 0, 0, 0, 0].getD j 0) (.calm 0 (.calm 1 (.calm 5 (.calm 6 (.calm 11 (.calm 12 (.calm 13 (.one 2 (.one 3 (.two 4 7 (.one 7 (.one 8 (.one 9 (.calm 10 (.calm 14 (.calm 15 (.done))))))) (.two 4 8 (.one 8 (.one 9 (.calm 10 (.calm 14 (.calm 15 (.done)))))) (.two 4 9 (.one 9 (.calm 10 (.calm 14 (.calm 15 (.done))))) (.one 4 (.calm 10 (.calm 14 (.calm 15 (.done))))))))))))))))) mixed (by kernel_rfl) (by repeat (first | with_reducible exact Deaf.body | with_reducible apply Deaf.then | with_reducible apply Deaf.block)) ?_
      intro w4 hu4
      have hz4 := congrArg Array.size hu4.2.2.2
      replace hu4 := Upd.of_draw hu4
      have hs4 := hu4.size
      replace hU := hU.fresh hu4 (by first | exact (fun _ h => h.elim) | (intro k hk; simp only [At, New, Grow, From, No] at hk; omega))
      replace hB2 := hB2.upd hu4 (by first | (with_reducible assumption) | exact (fun h => h) | exact (fun _ _ _ h => h) | (simp only [At]; omega) | (intro k hk hl hS; simp only [At] at hS; subst hS; contradiction) | (intro k hk hl hS; simp only [At] at hS; subst hS; exact Grow.old (by omega) (by assumption) hk) | (intro k hk hl hS; (try simp only [At, From, No, Grow, New] at hk hS); omega))
      replace hB3 := hB3.upd hu4 (by first | (with_reducible assumption) | exact (fun h => h) | exact (fun _ _ _ h => h) | (simp only [At]; omega) | (intro k hk hl hS; simp only [At] at hS; subst hS; contradiction) | (intro k hk hl hS; simp only [At] at hS; subst hS; exact Grow.old (by omega) (by assumption) hk) | (intro k hk hl hS; (try simp only [At, From, No, Grow, New] at hk hS); omega))
      refine WN.calm _ rfl rfl rfl rfl rfl (fun _ => r_move rfl (ev_t rfl)) ?_
      refine WN.calm _ rfl rfl rfl rfl rfl (fun _ => r_move rfl (ev_t rfl)) ?_
      refine WN.calm _ rfl rfl rfl rfl rfl (fun _ => r_move rfl (ev_t rfl)) ?_
      refine WN.calm _ rfl rfl rfl rfl rfl (fun _ => r_move rfl (ev_t rfl)) ?_
      refine WN.calm _ rfl rfl rfl rfl rfl (fun _ => r_move rfl (ev_t rfl)) ?_
      refine WN.calm _ rfl rfl rfl rfl rfl (fun _ => r_move rfl (ev_t rfl)) ?_
      refine WN.calm _ rfl rfl rfl rfl rfl (fun _ => r_lss rfl (ev_t rfl) (ev_t rfl)) ?_
      refine WN.step _ rfl (SO.call (wuint_ok (n := a) (IsW.of (M := At _) hB2 rfl) ha (by simp)) rfl body_20 ⟨(ev_t rfl), (ev_t rfl), trivial⟩ rfl rfl rfl rfl ?_)
      rintro v w5 ⟨rfl, hA, hu5⟩
      rw [List.nil_append] at hA
      have hs5 := hu5.size
      replace hU := hU.fresh hu5 (by first | exact (fun _ h => h.elim) | (intro k hk; simp only [At, New, Grow, From, No] at hk; omega))
      replace hB3 := hB3.upd hu5 (by first | (with_reducible assumption) | exact (fun h => h) | exact (fun _ _ _ h => h) | (simp only [At]; omega) | (intro k hk hl hS; simp only [At] at hS; subst hS; contradiction) | (intro k hk hl hS; simp only [At] at hS; subst hS; exact Grow.old (by omega) (by assumption) hk) | (intro k hk hl hS; (try simp only [At, From, No, Grow, New] at hk hS); omega))
      refine ⟨trivial, ?_⟩
      refine WN.step _ rfl (SO.call (wdone_ok hA (by omega)) rfl body_21 ⟨(ev_t rfl), trivial⟩ rfl rfl rfl rfl ?_)
      rintro v1 w6 ⟨ho1, hu6⟩
      have hs6 := hu6.size
      replace hU := hU.fresh hu6 (by first | exact (fun _ h => h.elim) | (intro k hk; simp only [At, New, Grow, From, No] at hk; omega))
      replace hB3 := hB3.upd hu6 (by first | (with_reducible assumption) | exact (fun h => h) | exact (fun _ _ _ h => h) | (simp only [At]; omega) | (intro k hk hl hS; simp only [At] at hS; subst hS; contradiction) | (intro k hk hl hS; simp only [At] at hS; subst hS; exact Grow.old (by omega) (by assumption) hk) | (intro k hk hl hS; (try simp only [At, From, No, Grow, New] at hk hS); omega))
      replace hA := hA.upd hu6 (by first | (with_reducible assumption) | exact (fun h => h) | exact (fun _ _ _ h => h) | (simp only [At]; omega) | (intro k hk hl hS; simp only [At] at hS; subst hS; contradiction) | (intro k hk hl hS; simp only [At] at hS; subst hS; exact Grow.old (by omega) (by assumption) hk) | (intro k hk hl hS; (try simp only [At, From, No, Grow, New] at hk hS); omega))
      obtain ⟨A1, c1, rfl, hc1⟩ := Own.form ho1
      refine ⟨trivial, ?_⟩
      refine WN.fork _ _ rfl rfl ?_ ?_
      · refine SO.val rfl rfl rfl rfl (r_toStr rfl (ev_t rfl) (ho1.rd (by omega)) elem_37 int_5 str_9) ?_
        refine ⟨trivial, ?_⟩
        refine WN.step _ rfl (SO.call (wuint_ok (n := b) (IsW.of (M := At _) hB3 rfl) hb (by simp)) rfl body_20 ⟨(ev_t rfl), (ev_t rfl), trivial⟩ rfl rfl rfl rfl ?_)
        rintro v w7 ⟨rfl, hD, hu7⟩
        rw [List.nil_append] at hD
        have hs7 := hu7.size
        replace hU := hU.fresh hu7 (by first | exact (fun _ h => h.elim) | (intro k hk; simp only [At, New, Grow, From, No] at hk; omega))
        replace ho1 := ho1.upd hu7 (by first | (with_reducible assumption) | exact (fun h => h) | exact (fun _ _ _ h => h) | (simp only [At]; omega) | (intro k hk hl hS; simp only [At] at hS; subst hS; contradiction) | (intro k hk hl hS; simp only [At] at hS; subst hS; exact Grow.old (by omega) (by assumption) hk) | (intro k hk hl hS; (try simp only [At, From, No, Grow, New] at hk hS); omega))
        refine ⟨trivial, ?_⟩
        refine WN.step _ rfl (SO.call (wdone_ok hD (by omega)) rfl body_21 ⟨(ev_t rfl), trivial⟩ rfl rfl rfl rfl ?_)
        rintro v1 w8 ⟨ho2, hu8⟩
        have hs8 := hu8.size
        replace hU := hU.fresh hu8 (by first | exact (fun _ h => h.elim) | (intro k hk; simp only [At, New, Grow, From, No] at hk; omega))
        replace ho1 := ho1.upd hu8 (by first | (with_reducible assumption) | exact (fun h => h) | exact (fun _ _ _ h => h) | (simp only [At]; omega) | (intro k hk hl hS; simp only [At] at hS; subst hS; contradiction) | (intro k hk hl hS; simp only [At] at hS; subst hS; exact Grow.old (by omega) (by assumption) hk) | (intro k hk hl hS; (try simp only [At, From, No, Grow, New] at hk hS); omega))
        replace hD := hD.upd hu8 (by first | (with_reducible assumption) | exact (fun h => h) | exact (fun _ _ _ h => h) | (simp only [At]; omega) | (intro k hk hl hS; simp only [At] at hS; subst hS; contradiction) | (intro k hk hl hS; simp only [At] at hS; subst hS; exact Grow.old (by omega) (by assumption) hk) | (intro k hk hl hS; (try simp only [At, From, No, Grow, New] at hk hS); omega))
        obtain ⟨A2, c2, rfl, hc2⟩ := Own.form ho2
        refine ⟨trivial, ?_⟩
        refine WN.step _ rfl (SO.val rfl rfl rfl rfl (r_toStr rfl (ev_t rfl) (ho2.rd (by omega)) elem_37 int_5 str_9) ?_)
        refine ⟨trivial, ?_⟩
        refine WN.calm _ rfl rfl rfl rfl rfl (fun _ => r_lssStr rfl (ev_t rfl) (ev_t rfl)) ?_
        refine WN.calm _ rfl rfl rfl rfl rfl (fun _ => r_eqlBool rfl (ev_t rfl) (ev_t rfl) bool_4) ?_
        refine WN.calm _ rfl rfl rfl rfl rfl (fun _ => r_assign rfl (ev_t rfl)) ?_
        refine WN.done ?_
        refine WX.keep [(4, _)] ⟨rfl, trivial⟩ ?_
        refine WX.next ?_
        refine WC.ret ?_
        refine WX.retE1 rfl rfl ?_
        rw [mk_toList, mk_toList]
        exact ⟨rfl, hU⟩
      · refine SO.call (wuint_ok (n := b) (IsW.of (M := At _) hB3 rfl) hb (by simp)) rfl body_20 ⟨(ev_t rfl), (ev_t rfl), trivial⟩ rfl rfl rfl rfl ?_
        rintro v w9 ⟨rfl, hD, hu9⟩
        rw [List.nil_append] at hD
        have hs9 := hu9.size
        replace hU := hU.fresh hu9 (by first | exact (fun _ h => h.elim) | (intro k hk; simp only [At, New, Grow, From, No] at hk; omega))
        replace ho1 := ho1.upd hu9 (by first | (with_reducible assumption) | exact (fun h => h) | exact (fun _ _ _ h => h) | (simp only [At]; omega) | (intro k hk hl hS; simp only [At] at hS; subst hS; contradiction) | (intro k hk hl hS; simp only [At] at hS; subst hS; exact Grow.old (by omega) (by assumption) hk) | (intro k hk hl hS; (try simp only [At, From, No, Grow, New] at hk hS); omega))
        refine ⟨trivial, ?_⟩
        refine WN.fork _ _ rfl rfl ?_ ?_
        · refine SO.val rfl rfl rfl rfl (r_toStr rfl (ev_t rfl) (ho1.rd (by omega)) elem_37 int_5 str_9) ?_
          refine ⟨trivial, ?_⟩
          refine WN.step _ rfl (SO.call (wdone_ok hD (by omega)) rfl body_21 ⟨(ev_t rfl), trivial⟩ rfl rfl rfl rfl ?_)
          rintro v1 w10 ⟨ho2, hu10⟩
          have hs10 := hu10.size
          replace hU := hU.fresh hu10 (by first | exact (fun _ h => h.elim) | (intro k hk; simp only [At, New, Grow, From, No] at hk; omega))
          replace ho1 := ho1.upd hu10 (by first | (with_reducible assumption) | exact (fun h => h) | exact (fun _ _ _ h => h) | (simp only [At]; omega) | (intro k hk hl hS; simp only [At] at hS; subst hS; contradiction) | (intro k hk hl hS; simp only [At] at hS; subst hS; exact Grow.old (by omega) (by assumption) hk) | (intro k hk hl hS; (try simp only [At, From, No, Grow, New] at hk hS); omega))
          replace hD := hD.upd hu10 (by first | (with_reducible assumption) | exact (fun h => h) | exact (fun _ _ _ h => h) | (simp only [At]; omega) | (intro k hk hl hS; simp only [At] at hS; subst hS; contradiction) | (intro k hk hl hS; simp only [At] at hS; subst hS; exact Grow.old (by omega) (by assumption) hk) | (intro k hk hl hS; (try simp only [At, From, No, Grow, New] at hk hS); omega))
          obtain ⟨A2, c2, rfl, hc2⟩ := Own.form ho2
          refine ⟨trivial, ?_⟩
          refine WN.step _ rfl (SO.val rfl rfl rfl rfl (r_toStr rfl (ev_t rfl) (ho2.rd (by omega)) elem_37 int_5 str_9) ?_)
          refine ⟨trivial, ?_⟩
          refine WN.calm _ rfl rfl rfl rfl rfl (fun _ => r_lssStr rfl (ev_t rfl) (ev_t rfl)) ?_
          refine WN.calm _ rfl rfl rfl rfl rfl (fun _ => r_eqlBool rfl (ev_t rfl) (ev_t rfl) bool_4) ?_
          refine WN.calm _ rfl rfl rfl rfl rfl (fun _ => r_assign rfl (ev_t rfl)) ?_
          refine WN.done ?_
          refine WX.keep [(4, _)] ⟨rfl, trivial⟩ ?_
          refine WX.next ?_
          refine WC.ret ?_
          refine WX.retE1 rfl rfl ?_
          rw [mk_toList, mk_toList]
          exact ⟨rfl, hU⟩
        · refine SO.call (wdone_ok hD (by omega)) rfl body_21 ⟨(ev_t rfl), trivial⟩ rfl rfl rfl rfl ?_
          rintro v1 w11 ⟨ho2, hu11⟩
          have hs11 := hu11.size
          replace hU := hU.fresh hu11 (by first | exact (fun _ h => h.elim) | (intro k hk; simp only [At, New, Grow, From, No] at hk; omega))
          replace ho1 := ho1.upd hu11 (by first | (with_reducible assumption) | exact (fun h => h) | exact (fun _ _ _ h => h) | (simp only [At]; omega) | (intro k hk hl hS; simp only [At] at hS; subst hS; contradiction) | (intro k hk hl hS; simp only [At] at hS; subst hS; exact Grow.old (by omega) (by assumption) hk) | (intro k hk hl hS; (try simp only [At, From, No, Grow, New] at hk hS); omega))
          replace hD := hD.upd hu11 (by first | (with_reducible assumption) | exact (fun h => h) | exact (fun _ _ _ h => h) | (simp only [At]; omega) | (intro k hk hl hS; simp only [At] at hS; subst hS; contradiction) | (intro k hk hl hS; simp only [At] at hS; subst hS; exact Grow.old (by omega) (by assumption) hk) | (intro k hk hl hS; (try simp only [At, From, No, Grow, New] at hk hS); omega))
          obtain ⟨A2, c2, rfl, hc2⟩ := Own.form ho2
          refine ⟨trivial, ?_⟩
          refine WN.fork _ _ rfl rfl ?_ ?_
          · refine SO.val rfl rfl rfl rfl (r_toStr rfl (ev_t rfl) (ho1.rd (by omega)) elem_37 int_5 str_9) ?_
            refine ⟨trivial, ?_⟩
            refine WN.step _ rfl (SO.val rfl rfl rfl rfl (r_toStr rfl (ev_t rfl) (ho2.rd (by omega)) elem_37 int_5 str_9) ?_)
            refine ⟨trivial, ?_⟩
            refine WN.calm _ rfl rfl rfl rfl rfl (fun _ => r_lssStr rfl (ev_t rfl) (ev_t rfl)) ?_
            refine WN.calm _ rfl rfl rfl rfl rfl (fun _ => r_eqlBool rfl (ev_t rfl) (ev_t rfl) bool_4) ?_
            refine WN.calm _ rfl rfl rfl rfl rfl (fun _ => r_assign rfl (ev_t rfl)) ?_
            refine WN.done ?_
            refine WX.keep [(4, _)] ⟨rfl, trivial⟩ ?_
            refine WX.next ?_
            refine WC.ret ?_
            refine WX.retE1 rfl rfl ?_
            rw [mk_toList, mk_toList]
            exact ⟨rfl, hU⟩
          · refine SO.val rfl rfl rfl rfl (r_toStr rfl (ev_t rfl) (ho2.rd (by omega)) elem_37 int_5 str_9) ?_
            refine ⟨trivial, ?_⟩
            refine WN.step _ rfl (SO.val rfl rfl rfl rfl (r_toStr rfl (ev_t rfl) (ho1.rd (by omega)) elem_37 int_5 str_9) ?_)
            refine ⟨trivial, ?_⟩
            refine WN.calm _ rfl rfl rfl rfl rfl (fun _ => r_lssStr rfl (ev_t rfl) (ev_t rfl)) ?_
            refine WN.calm _ rfl rfl rfl rfl rfl (fun _ => r_eqlBool rfl (ev_t rfl) (ev_t rfl) bool_4) ?_
            refine WN.calm _ rfl rfl rfl rfl rfl (fun _ => r_assign rfl (ev_t rfl)) ?_
            refine WN.done ?_
            refine WX.keep [(4, _)] ⟨rfl, trivial⟩ ?_
            refine WX.next ?_
            refine WC.ret ?_
            refine WX.retE1 rfl rfl ?_
            rw [mk_toList, mk_toList]
            exact ⟨rfl, hU⟩
end Go.Proofs.Ytjiafgnibhgfbaa
