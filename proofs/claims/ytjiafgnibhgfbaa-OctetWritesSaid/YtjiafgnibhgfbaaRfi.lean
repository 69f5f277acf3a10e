/-
  The reference's Int, Bytes.
-/
import Derived.Test.YtjiafgnibhgfbaaRfu
namespace Go.Proofs.Ytjiafgnibhgfbaa
open Go
set_option linter.unusedSimpArgs false
set_option linter.unusedVariables false

theorem refInt_ok {w : World} {x : Int} (h1 : -9223372036854775808 ≤ x) (h2 : x ≤ 9223372036854775807) :
    Ret Try.prog 49 #[.int .i64 x] w fun v w' => Own w' (New w w') 5 1 v (encU (zig x)).length ((encU (zig x)).map U8) ∧ Upd No w w' := by
  have hz := zig_lt h1 h2
  refine enterRet (vs := [_]) (N := 16) Try.func49 rfl rfl rfl ?_
  refine WC.keep [(0, _)] ⟨rfl, trivial⟩ ?_
  refine WC.seq ?_
  -- region 0 ref.go:19
  refine WC.region ?_
  refine WL.val rfl rfl rfl rfl (r_assign rfl ev_c) ?_
  refine WL.nil ?_
  refine WX.keep [(0, _)] ⟨rfl, trivial⟩ ?_
  refine WX.next ?_
  refine WC.seq ?_
  refine WC.seq ?_
  -- region 1 ref.go:20
  refine WC.region ?_
  refine WL.val rfl rfl rfl rfl (r_move rfl (ev_t rfl)) ?_
  refine WL.val rfl rfl rfl rfl (r_lss rfl (ev_t rfl) ev_c) ?_
  refine WL.nil ?_
  refine WX.keep [(0, _), (4, _)] ⟨rfl, rfl, trivial⟩ ?_
  refine WX.next ?_
  refine WC.cond rfl (ev_t rfl) (fun hc1 => ?_) (fun hc1 => ?_)
  · try (exfalso; first | (simp at hc1; done) | (simp only [decide_eq_true_eq, decide_eq_false_iff_not, Bool.not_eq_true', Bool.not_eq_false', Bool.not_eq_true, Bool.not_eq_false] at hc1; omega) | omega)
    all_goals
      try simp only [decide_eq_true_eq, decide_eq_false_iff_not, Bool.not_eq_true', Bool.not_eq_false', Bool.not_eq_true, Bool.not_eq_false, Option.isNone_none, Option.isNone_some, Option.isSome_none, Option.isSome_some, ne_eq, Decidable.not_not] at hc1
      have hx0 : x < 0 := hc1
      have hzn : (-(x + 1)) * 2 + 1 = ((zig x : Nat) : Int) := by
        unfold zig
        rw [if_pos hx0]
        omega
      refine WC.seq ?_
      -- region 2 ref.go:21
      refine WC.region ?_
      refine WL.val rfl rfl rfl rfl (r_move rfl (ev_t rfl)) ?_
      first | refine WL.val rfl rfl rfl rfl (r_addN rfl (ev_t rfl) ev_c (by simp only [inK]; omega)) ?_ | refine WL.val rfl rfl rfl rfl (r_add rfl (ev_t rfl) ev_c) ?_
      refine WL.val rfl rfl rfl rfl (r_neg rfl (ev_t rfl)) ?_
      rw [wrap_i64_in (by omega) (by omega)]
      first | refine WL.val rfl rfl rfl rfl (r_convN rfl (ev_t rfl) some_2 int_35 (by simp only [inK]; omega)) ?_ | refine WL.val rfl rfl rfl rfl (r_conv rfl (ev_t rfl) some_2 int_35) ?_
      first | refine WL.val rfl rfl rfl rfl (r_mulN rfl (ev_t rfl) ev_c (by simp only [inK]; omega)) ?_ | refine WL.val rfl rfl rfl rfl (r_mul rfl (ev_t rfl) ev_c) ?_
      first | refine WL.val rfl rfl rfl rfl (r_addN rfl (ev_t rfl) ev_c (by simp only [inK]; omega)) ?_ | refine WL.val rfl rfl rfl rfl (r_add rfl (ev_t rfl) ev_c) ?_
      rw [hzn]
      refine WL.cons (SO.call (refUint_ok hz) rfl body_47 ⟨(ev_t rfl), trivial⟩ rfl rfl rfl rfl ?_)
      rintro v w1 ⟨ho, hu1⟩
      refine WL.val rfl rfl rfl rfl (r_assign rfl (ev_t rfl)) ?_
      refine WL.nil ?_
      refine WX.keep [(2, _)] ⟨rfl, trivial⟩ ?_
      refine WX.next ?_
      refine WC.ret ?_
      refine WX.thenRet ?_
      refine WX.retE1 rfl rfl ?_
      exact ⟨ho, hu1⟩
  · try (exfalso; first | (simp at hc1; done) | (simp only [decide_eq_true_eq, decide_eq_false_iff_not, Bool.not_eq_true', Bool.not_eq_false', Bool.not_eq_true, Bool.not_eq_false] at hc1; omega) | omega)
    all_goals
      try simp only [decide_eq_true_eq, decide_eq_false_iff_not, Bool.not_eq_true', Bool.not_eq_false', Bool.not_eq_true, Bool.not_eq_false, Option.isNone_none, Option.isNone_some, Option.isSome_none, Option.isSome_some, ne_eq, Decidable.not_not] at hc1
      have hx0 : ¬ x < 0 := hc1
      have hzn : x * 2 = ((zig x : Nat) : Int) := by
        unfold zig
        rw [if_neg hx0]
        omega
      refine WC.skip ?_
      refine WX.next ?_
      refine WC.seq ?_
      -- region 3 ref.go:23
      refine WC.region ?_
      refine WL.val rfl rfl rfl rfl (r_move rfl (ev_t rfl)) ?_
      first | refine WL.val rfl rfl rfl rfl (r_convN rfl (ev_t rfl) some_2 int_35 (by simp only [inK]; omega)) ?_ | refine WL.val rfl rfl rfl rfl (r_conv rfl (ev_t rfl) some_2 int_35) ?_
      first | refine WL.val rfl rfl rfl rfl (r_mulN rfl (ev_t rfl) ev_c (by simp only [inK]; omega)) ?_ | refine WL.val rfl rfl rfl rfl (r_mul rfl (ev_t rfl) ev_c) ?_
      rw [hzn]
      refine WL.cons (SO.call (refUint_ok hz) rfl body_47 ⟨(ev_t rfl), trivial⟩ rfl rfl rfl rfl ?_)
      rintro v w2 ⟨ho, hu2⟩
      refine WL.val rfl rfl rfl rfl (r_assign rfl (ev_t rfl)) ?_
      refine WL.nil ?_
      refine WX.keep [(2, _)] ⟨rfl, trivial⟩ ?_
      refine WX.next ?_
      refine WC.ret ?_
      refine WX.retE1 rfl rfl ?_
      exact ⟨ho, hu2⟩

theorem refBytes_ok {w : World} {F : Nat → Prop} {v : Value} {n : Nat} {b : List UInt8} (hr : Rd w F v n 1 (b.map U8)) (hb : b.length ≤ 140737488354000) :
    Ret Try.prog 50 #[v] w fun v w' => Own w' (New w w') 5 1 v (encU b.length ++ b).length ((encU b.length ++ b).map U8) ∧ Upd No w w' := by
  obtain ⟨A, c, rfl, hle⟩ := hr.slice_form
  have hn := hr.lenB
  subst hn
  have hx := encU_length b.length
  have hy : blen b.length ≤ 8 := blen_le (by omega)
  replace hr := hr.bound
  refine enterRet (vs := [_]) (N := 11) Try.func50 rfl rfl rfl ?_
  have hU := Upd.refl No w
  refine WC.keep [(0, _)] ⟨rfl, trivial⟩ ?_
  refine WC.seq ?_
  -- region 0 ref.go:27
  refine WC.region ?_
  refine WL.val rfl rfl rfl rfl (r_assign rfl ev_c) ?_
  refine WL.nil ?_
  refine WX.keep [(0, _)] ⟨rfl, trivial⟩ ?_
  refine WX.next ?_
  refine WC.seq ?_
  -- region 1 ref.go:28
  refine WC.region ?_
  refine WL.val rfl rfl rfl rfl (r_move rfl (ev_t rfl)) ?_
  refine WL.val rfl rfl rfl rfl (r_lenSlice (ts := #[]) rfl (ev_t rfl) elem_37) ?_
  first | refine WL.val rfl rfl rfl rfl (r_convN rfl (ev_t rfl) some_3 int_35 (by simp only [inK]; omega)) ?_ | refine WL.val rfl rfl rfl rfl (r_conv rfl (ev_t rfl) some_3 int_35) ?_
  refine WL.cons (SO.call (refUint_ok (n := b.length) (by omega)) rfl body_47 ⟨(ev_t rfl), trivial⟩ rfl rfl rfl rfl ?_)
  rintro v w1 ⟨ho, hu1⟩
  have hs1 := hu1.size
  replace hU := hU.trans hu1 (by first | exact (fun _ _ h => h) | exact (fun _ _ h => h.elim) | (intro k hl hk; (try simp only [At, New, Grow, From, No] at hk ⊢); omega))
  replace hr := hr.upd hu1 (by first | (with_reducible assumption) | exact (fun h => h) | exact (fun _ _ _ h => h) | (simp only [At]; omega) | (intro k hk hl hS; simp only [At] at hS; subst hS; contradiction) | (intro k hk hl hS; simp only [At] at hS; subst hS; exact Grow.old (by omega) (by assumption) hk) | (intro k hk hl hS; (try simp only [At, From, No, Grow, New] at hk hS); omega))
  refine WL.val rfl rfl rfl rfl (r_assign rfl (ev_t rfl)) ?_
  refine WL.nil ?_
  refine WX.keep [(0, _), (3, _)] ⟨rfl, rfl, trivial⟩ ?_
  refine WX.next ?_
  refine WC.seq ?_
  -- region 2 ref.go:29
  refine WC.region ?_
  refine WL.val rfl rfl rfl rfl (r_move rfl (ev_t rfl)) ?_
  refine WL.val rfl rfl rfl rfl (r_move rfl (ev_t rfl)) ?_
  refine WL.cons (SO.append ho hr row_37 (U8_one b) (le_maxLen (by omega)) (by omega) rfl (ev_t rfl) (ev_t rfl) rfl rfl rfl rfl ?_)
  intro v2 w2 ho hu2
  have hs2 := hu2.size
  replace hU := hU.trans hu2 (by first | exact (fun _ _ h => h) | exact (fun _ _ h => h.elim) | (intro k hl hk; (try simp only [At, New, Grow, From, No] at hk ⊢); omega))
  replace hr := hr.upd hu2 (by first | (with_reducible assumption) | exact (fun h => h) | exact (fun _ _ _ h => h) | (simp only [At]; omega) | (intro k hk hl hS; simp only [At] at hS; subst hS; contradiction) | (intro k hk hl hS; simp only [At] at hS; subst hS; exact Grow.old (by omega) (by assumption) hk) | (intro k hk hl hS; (try simp only [At, From, No, Grow, New] at hk hS); omega))
  obtain ⟨A2, c2, rfl, hc2⟩ := Own.form ho
  refine WL.val rfl rfl rfl rfl (r_assign rfl (ev_t rfl)) ?_
  refine WL.nil ?_
  refine WX.keep [(2, _)] ⟨rfl, trivial⟩ ?_
  refine WX.next ?_
  refine WC.ret ?_
  refine WX.retE1 rfl rfl ?_
  rw [← List.map_append] at ho
  refine ⟨?_, hU⟩
  rw [List.length_append]
  exact ho.mono (fun k hk => New.of hk (by omega) (by omega))
end Go.Proofs.Ytjiafgnibhgfbaa
