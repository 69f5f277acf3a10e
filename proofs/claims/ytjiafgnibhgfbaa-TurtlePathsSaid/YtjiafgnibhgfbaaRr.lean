/-
  octet.Reader: Int, Upto, Bytes, Text; a nil reader; slices.Clone of bytes.
-/
import Derived.Test.YtjiafgnibhgfbaaRu
namespace Go.Proofs.Ytjiafgnibhgfbaa
open Go
set_option linter.unusedSimpArgs false
set_option linter.unusedVariables false

theorem clone_ok {w : World} {F : Nat → Prop} {v : Value} {n : Nat} {l : List UInt8} (hr : Rd w F v n 1 (l.map U8)) :
    Ret Try.prog 54 #[v] w fun v' w' => Own w' (New w w') 5 1 v' n (l.map U8) ∧ Upd No w w' := by
  obtain ⟨A, c, rfl, hle⟩ := hr.slice_form
  have hm := hr.le
  replace hr := hr.bound
  refine enterRet (vs := [_]) (N := 8) Try.func54 rfl rfl rfl ?_
  refine WC.keep [(0, _)] ⟨rfl, trivial⟩ ?_
  refine WC.seq ?_
  -- region 0 slices.go:355
  refine WC.region ?_
  refine WL.val rfl rfl rfl rfl (r_assign rfl ev_c) ?_
  refine WL.nil ?_
  refine WX.keep [(0, _)] ⟨rfl, trivial⟩ ?_
  refine WX.next ?_
  refine WC.seq ?_
  refine WC.seq ?_
  -- region 1 slices.go:357
  refine WC.region ?_
  refine WL.val rfl rfl rfl rfl (r_move rfl (ev_t rfl)) ?_
  refine WL.val rfl rfl rfl rfl (r_eqlSliceNil rfl (ev_t rfl) ev_c elem_37) ?_
  refine WL.nil ?_
  refine WX.keep [(0, _), (4, _)] ⟨rfl, rfl, trivial⟩ ?_
  refine WX.next ?_
  refine WC.cond rfl (ev_t rfl) (fun hc1 => ?_) (fun hc1 => ?_)
  · try (exfalso; first | (simp at hc1; done) | (simp only [decide_eq_true_eq, decide_eq_false_iff_not, Bool.not_eq_true', Bool.not_eq_false', Bool.not_eq_true, Bool.not_eq_false] at hc1; omega) | omega)
    all_goals
      try simp only [decide_eq_true_eq, decide_eq_false_iff_not, Bool.not_eq_true', Bool.not_eq_false', Bool.not_eq_true, Bool.not_eq_false, Option.isNone_none, Option.isNone_some, Option.isSome_none, Option.isSome_some, ne_eq, Decidable.not_not] at hc1
      obtain ⟨A', c', e1, _, _, e2, e3⟩ := hr
      have hA : A = A' := by injection e1
      subst hA
      have hn : n = 0 := by
        rcases Nat.eq_zero_or_pos n with h | h
        · exact h
        · obtain ⟨b, off, e4, _⟩ := e3 (by omega)
          rw [e4] at hc1
          simp at hc1
      subst hn
      have hl : l = [] := List.eq_nil_of_length_eq_zero (by simpa using e2)
      subst hl
      refine WC.seq ?_
      -- region 2 slices.go:358
      refine WC.region ?_
      refine WL.val rfl rfl rfl rfl (r_assign rfl ev_c) ?_
      refine WL.nil ?_
      refine WX.keep [(2, _)] ⟨rfl, trivial⟩ ?_
      refine WX.next ?_
      refine WC.ret ?_
      refine WX.thenRet ?_
      refine WX.retE1 rfl rfl ?_
      exact ⟨Own.nil _ _ _ _, (Upd.refl _ _)⟩
  · try (exfalso; first | (simp at hc1; done) | (simp only [decide_eq_true_eq, decide_eq_false_iff_not, Bool.not_eq_true', Bool.not_eq_false', Bool.not_eq_true, Bool.not_eq_false] at hc1; omega) | omega)
    all_goals
      try simp only [decide_eq_true_eq, decide_eq_false_iff_not, Bool.not_eq_true', Bool.not_eq_false', Bool.not_eq_true, Bool.not_eq_false, Option.isNone_none, Option.isNone_some, Option.isSome_none, Option.isSome_some, ne_eq, Decidable.not_not] at hc1
      refine WC.skip ?_
      refine WX.next ?_
      refine WC.seq ?_
      -- region 3 slices.go:362
      refine WC.region ?_
      refine WL.cons (SO.alloc rfl rfl rfl rfl (r_buildSlice1 (vs := []) rfl trivial rfl row_37 rfl rfl) ?_)
      intro w1 hu1 hB1 hz1
      have hs1 := hu1.size
      replace hr := hr.upd hu1 (by first | (with_reducible assumption) | exact (fun h => h) | exact (fun _ _ _ h => h) | (simp only [At]; omega) | (simp only [At, New, Grow, From, No]; omega) | (intro k hk hl hS; simp only [At] at hS; subst hS; contradiction) | (intro k hk hl hS; simp only [At] at hS; subst hS; exact Grow.old (by omega) (by assumption) hk) | (intro k hk hl hS; (try simp only [At, From, No, Grow, New] at hk hS); omega))
      refine WL.val rfl rfl rfl rfl (r_move rfl (ev_t rfl)) ?_
      refine WL.cons (SO.append (Own.of_blk (F := New w w1) (n := 0) hB1 ⟨by omega, by omega⟩ rfl (Nat.zero_le _)) hr row_37 (U8_one l) (le_maxLen (by omega)) (by omega) rfl (ev_t rfl) (ev_t rfl) rfl rfl rfl rfl ?_)
      intro v2 w2 ho hu2
      have hs2 := hu2.size
      replace hr := hr.upd hu2 (by first | (with_reducible assumption) | exact (fun h => h) | exact (fun _ _ _ h => h) | (simp only [At]; omega) | (simp only [At, New, Grow, From, No]; omega) | (intro k hk hl hS; simp only [At] at hS; subst hS; contradiction) | (intro k hk hl hS; simp only [At] at hS; subst hS; exact Grow.old (by omega) (by assumption) hk) | (intro k hk hl hS; (try simp only [At, From, No, Grow, New] at hk hS); omega))
      obtain ⟨A2, c2, rfl, hc2⟩ := Own.form ho
      refine WL.val rfl rfl rfl rfl (r_assign rfl (ev_t rfl)) ?_
      refine WL.nil ?_
      refine WX.keep [(2, _)] ⟨rfl, trivial⟩ ?_
      refine WX.next ?_
      refine WC.ret ?_
      refine WX.retE1 rfl rfl ?_
      refine ⟨?_, hu1.trans hu2 (fun k hk hS => by have := hS.1; omega)⟩
      have h0 := ho.mono (F' := New w w2) (fun k hk => by
        have := hu2.size
        rcases hk with hk | hk
        · exact ⟨hk.1, by have := hk.2; omega⟩
        · exact ⟨by have := hk.1; omega, hk.2⟩)
      simpa using h0

theorem ruint_ok {w : World} {F : Nat → Prop} {g : Nat} {s s' : Option (List UInt8)} {x : Nat} (h : IsR w F g s) (hFg : ¬ F g) (hx : uintR s = (x, s')) :
    Ret Try.prog 35 #[.pointer (some ⟨g, 0, none⟩)] w fun v w' => v = .int .u64 (x : Int) ∧ IsR w' F g s' ∧ Upd (At g) w w' := by
  cases s with
  | none =>
    obtain ⟨A, n, c, hb⟩ := h
    simp only [uintR, Prod.mk.injEq] at hx
    obtain ⟨rfl, rfl⟩ := hx
    exact ruint_bad hb (.inl rfl)
  | some l =>
    obtain ⟨A, c, hb, hr⟩ := h
    cases l with
    | nil =>
      simp only [uintR, decU, Prod.mk.injEq] at hx
      obtain ⟨rfl, rfl⟩ := hx
      exact ruint_bad hb (.inr rfl)
    | cons k r =>
      obtain ⟨b, off, rfl, _⟩ := hr.open (by simp)
      have := ruint_cons hb hr hFg
      rw [hx] at this
      exact this

theorem ruint_nil (w : World) : Ret Try.prog 35 #[.pointer none] w fun v w' => v = .int .u64 0 ∧ w' = w := by
  refine enterRet (vs := [_]) (N := 88) Try.func35 rfl rfl rfl ?_
  refine WC.keep [(0, _)] ⟨rfl, trivial⟩ ?_
  refine WC.seq ?_
  -- region 0 octet.go:53
  refine WC.region ?_
  refine WL.val rfl rfl rfl rfl (r_assign rfl ev_c) ?_
  refine WL.nil ?_
  refine WX.keep [(0, _)] ⟨rfl, trivial⟩ ?_
  refine WX.next ?_
  refine WC.seq ?_
  refine WC.seq ?_
  -- region 1 octet.go:54
  refine WC.region ?_
  refine WL.val rfl rfl rfl rfl (r_move rfl (ev_t rfl)) ?_
  refine WL.val rfl rfl rfl rfl (r_eqlPtrNil rfl (ev_t rfl) ev_c ptr_67) ?_
  refine WL.val rfl rfl rfl rfl (r_move rfl (ev_t rfl)) ?_
  refine WL.cases 9 rfl (fun hb1_2 => ?_) (fun hb1_2 => ?_)
  · try (exfalso; first | (simp at hb1_2; done) | (simp only [decide_eq_true_eq, decide_eq_false_iff_not, Bool.not_eq_true', Bool.not_eq_false', Bool.not_eq_true, Bool.not_eq_false] at hb1_2; omega) | omega)
    all_goals
      try simp only [decide_eq_true_eq, decide_eq_false_iff_not, Bool.not_eq_true', Bool.not_eq_false', Bool.not_eq_true, Bool.not_eq_false, Option.isNone_none, Option.isNone_some, Option.isSome_none, Option.isSome_some, ne_eq, Decidable.not_not] at hb1_2
      refine WL.skip rfl rfl rfl ?_
      refine WL.skip rfl rfl rfl ?_
      refine WL.skip rfl rfl rfl ?_
      refine WL.skip rfl rfl rfl ?_
      refine WL.val rfl rfl rfl rfl (r_pickT rfl (ev_t rfl) ev_c) ?_
      refine WL.val rfl rfl rfl rfl (r_move rfl (ev_t rfl)) ?_
      refine WL.skip rfl rfl rfl ?_
      refine WL.skip rfl rfl rfl ?_
      refine WL.skip rfl rfl rfl ?_
      refine WL.skip rfl rfl rfl ?_
      refine WL.skip rfl rfl rfl ?_
      refine WL.skip rfl rfl rfl ?_
      refine WL.val rfl rfl rfl rfl (r_pickT rfl (ev_t rfl) ev_c) ?_
      refine WL.nil ?_
      refine WX.keep [(0, _), (22, _)] ⟨rfl, rfl, trivial⟩ ?_
      refine WX.next ?_
      refine WC.cond_true rfl (ev_t rfl) ?_
      refine WC.seq ?_
      -- region 2 octet.go:55
      refine WC.region ?_
      refine WL.val rfl rfl rfl rfl (r_move rfl (ev_t rfl)) ?_
      refine WL.cons (SO.call (fail_nil _) rfl body_46 ⟨(ev_t rfl), trivial⟩ rfl rfl rfl rfl ?_)
      rintro v1 w1 rfl
      refine WL.nil ?_
      refine WX.keep [] trivial ?_
      refine WX.next ?_
      refine WC.seq ?_
      -- region 3 octet.go:56
      refine WC.region ?_
      refine WL.val rfl rfl rfl rfl (r_assign rfl ev_c) ?_
      refine WL.nil ?_
      refine WX.keep [(2, _)] ⟨rfl, trivial⟩ ?_
      refine WX.next ?_
      refine WC.ret ?_
      refine WX.thenRet ?_
      refine WX.retE1 rfl rfl ?_
      exact ⟨rfl, rfl⟩
  · exact absurd hb1_2 (by simp)

theorem upto_ok {w : World} {F : Nat → Prop} {g : Nat} {s s' : Option (List UInt8)} {x : Nat} {most : Int} (h : IsR w F g s) (hFg : ¬ F g) (hm : inK .i64 most) (hx : uptoR most s = (x, s')) :
    Ret Try.prog 39 #[.pointer (some ⟨g, 0, none⟩), .int .i64 most] w fun v w' => v = .int .i64 (x : Int) ∧ IsR w' F g s' ∧ Upd (At g) w w' := by
  have hlt := uintR_lt s
  simp only [inK] at hm
  unfold uptoR at hx
  cases hu : uintR s with | mk y s1 =>
  rw [hu] at hx hlt
  simp only at hlt
  cases s1 with
  | none =>
    simp only [Prod.mk.injEq] at hx
    obtain ⟨rfl, rfl⟩ := hx
    refine enterRet (vs := [_, _]) (N := 30) Try.func39 rfl rfl rfl ?_
    refine WC.keep [(0, _), (1, _)] ⟨rfl, rfl, trivial⟩ ?_
    refine WC.seq ?_
    -- region 0 octet.go:77
    refine WC.region ?_
    refine WL.val rfl rfl rfl rfl (r_assign rfl ev_c) ?_
    refine WL.nil ?_
    refine WX.keep [(0, _), (1, _)] ⟨rfl, rfl, trivial⟩ ?_
    refine WX.next ?_
    refine WC.seq ?_
    -- region 1 octet.go:78
    refine WC.region ?_
    refine WL.val rfl rfl rfl rfl (r_move rfl (ev_t rfl)) ?_
    refine WL.cons (SO.call (ruint_ok h hFg hu) rfl body_35 ⟨(ev_t rfl), trivial⟩ rfl rfl rfl rfl ?_)
    rintro v1 w1 ⟨rfl, hR, hu1⟩
    obtain ⟨A, n, c, hb⟩ := hR
    refine WL.val rfl rfl rfl rfl (r_assign rfl (ev_t rfl)) ?_
    refine WL.nil ?_
    refine WX.keep [(0, _), (1, _), (5, _)] ⟨rfl, rfl, rfl, trivial⟩ ?_
    refine WX.next ?_
    refine WC.seq ?_
    refine WC.seq ?_
    -- region 2 octet.go:79
    refine WC.region ?_
    refine WL.val rfl rfl rfl rfl (r_move rfl (ev_t rfl)) ?_
    refine WL.val rfl rfl rfl rfl (r_eqlPtrNil rfl (ev_t rfl) ev_c ptr_67) ?_
    refine WL.val rfl rfl rfl rfl (r_move rfl (ev_t rfl)) ?_
    refine WL.cases 10 rfl (fun hb2_2 => ?_) (fun hb2_2 => ?_)
    · exact absurd hb2_2 (by simp)
    · try (exfalso; first | (simp at hb2_2; done) | (simp only [decide_eq_true_eq, decide_eq_false_iff_not, Bool.not_eq_true', Bool.not_eq_false', Bool.not_eq_true, Bool.not_eq_false] at hb2_2; omega) | omega)
      all_goals
        try simp only [decide_eq_true_eq, decide_eq_false_iff_not, Bool.not_eq_true', Bool.not_eq_false', Bool.not_eq_true, Bool.not_eq_false, Option.isNone_none, Option.isNone_some, Option.isSome_none, Option.isSome_some, ne_eq, Decidable.not_not] at hb2_2
        refine WL.val rfl rfl rfl rfl (r_move rfl (ev_t rfl)) ?_
        refine WL.val rfl rfl rfl rfl (r_nilCheck rfl (ev_t rfl)) ?_
        first | refine WL.val rfl rfl rfl rfl (r_field0 rfl (ev_t rfl) fld_96_1) ?_ | refine WL.val rfl rfl rfl rfl (r_fieldAt rfl (ev_t rfl) fld_96_1) ?_
        refine WL.val rfl rfl rfl rfl (r_load rfl (ev_t rfl) flat_4 (Blk.cell hb rfl)) ?_
        refine WL.val rfl rfl rfl rfl (r_pickF rfl (ev_t rfl) (ev_t rfl)) ?_
        refine WL.val rfl rfl rfl rfl (r_move rfl (ev_t rfl)) ?_
        refine WL.cases 16 rfl (fun hb2_8 => ?_) (fun hb2_8 => ?_)
        · try (exfalso; first | (simp at hb2_8; done) | (simp only [decide_eq_true_eq, decide_eq_false_iff_not, Bool.not_eq_true', Bool.not_eq_false', Bool.not_eq_true, Bool.not_eq_false] at hb2_8; omega) | omega)
          all_goals
            try simp only [decide_eq_true_eq, decide_eq_false_iff_not, Bool.not_eq_true', Bool.not_eq_false', Bool.not_eq_true, Bool.not_eq_false, Option.isNone_none, Option.isNone_some, Option.isSome_none, Option.isSome_some, ne_eq, Decidable.not_not] at hb2_8
            refine WL.skip rfl rfl rfl ?_
            refine WL.skip rfl rfl rfl ?_
            refine WL.val rfl rfl rfl rfl (r_pickT rfl (ev_t rfl) ev_c) ?_
            refine WL.val rfl rfl rfl rfl (r_move rfl (ev_t rfl)) ?_
            refine WL.skip rfl rfl rfl ?_
            refine WL.skip rfl rfl rfl ?_
            refine WL.skip rfl rfl rfl ?_
            refine WL.skip rfl rfl rfl ?_
            refine WL.val rfl rfl rfl rfl (r_pickT rfl (ev_t rfl) ev_c) ?_
            refine WL.nil ?_
            refine WX.keep [(0, _), (5, _), (25, _)] ⟨rfl, rfl, rfl, trivial⟩ ?_
            refine WX.next ?_
            refine WC.cond_true rfl (ev_t rfl) ?_
            refine WC.seq ?_
            -- region 3 octet.go:80
            refine WC.region ?_
            refine WL.val rfl rfl rfl rfl (r_move rfl (ev_t rfl)) ?_
            refine WL.cons (SO.call (fail_blk hb F) rfl body_46 ⟨(ev_t rfl), trivial⟩ rfl rfl rfl rfl ?_)
            rintro v2 w2 ⟨hR, hu2⟩
            refine WL.nil ?_
            refine WX.keep [] trivial ?_
            refine WX.next ?_
            refine WC.seq ?_
            -- region 4 octet.go:81
            refine WC.region ?_
            refine WL.val rfl rfl rfl rfl (r_assign rfl ev_c) ?_
            refine WL.nil ?_
            refine WX.keep [(4, _)] ⟨rfl, trivial⟩ ?_
            refine WX.next ?_
            refine WC.ret ?_
            refine WX.thenRet ?_
            refine WX.retE1 rfl rfl ?_
            exact ⟨rfl, hR, hu1.trans_same hu2⟩
        · exact absurd hb2_8 (by simp)
  | some r =>
    simp only at hx
    refine enterRet (vs := [_, _]) (N := 30) Try.func39 rfl rfl rfl ?_
    refine WC.keep [(0, _), (1, _)] ⟨rfl, rfl, trivial⟩ ?_
    refine WC.seq ?_
    -- region 0 octet.go:77
    refine WC.region ?_
    refine WL.val rfl rfl rfl rfl (r_assign rfl ev_c) ?_
    refine WL.nil ?_
    refine WX.keep [(0, _), (1, _)] ⟨rfl, rfl, trivial⟩ ?_
    refine WX.next ?_
    refine WC.seq ?_
    -- region 1 octet.go:78
    refine WC.region ?_
    refine WL.val rfl rfl rfl rfl (r_move rfl (ev_t rfl)) ?_
    refine WL.cons (SO.call (ruint_ok h hFg hu) rfl body_35 ⟨(ev_t rfl), trivial⟩ rfl rfl rfl rfl ?_)
    rintro v1 w1 ⟨rfl, hR, hu1⟩
    obtain ⟨A, c, hb, hr⟩ := hR
    refine WL.val rfl rfl rfl rfl (r_assign rfl (ev_t rfl)) ?_
    refine WL.nil ?_
    refine WX.keep [(0, _), (1, _), (5, _)] ⟨rfl, rfl, rfl, trivial⟩ ?_
    refine WX.next ?_
    refine WC.seq ?_
    refine WC.seq ?_
    -- region 2 octet.go:79
    refine WC.region ?_
    refine WL.val rfl rfl rfl rfl (r_move rfl (ev_t rfl)) ?_
    refine WL.val rfl rfl rfl rfl (r_eqlPtrNil rfl (ev_t rfl) ev_c ptr_67) ?_
    refine WL.val rfl rfl rfl rfl (r_move rfl (ev_t rfl)) ?_
    refine WL.cases 10 rfl (fun hb2_2 => ?_) (fun hb2_2 => ?_)
    · exact absurd hb2_2 (by simp)
    · try (exfalso; first | (simp at hb2_2; done) | (simp only [decide_eq_true_eq, decide_eq_false_iff_not, Bool.not_eq_true', Bool.not_eq_false', Bool.not_eq_true, Bool.not_eq_false] at hb2_2; omega) | omega)
      all_goals
        try simp only [decide_eq_true_eq, decide_eq_false_iff_not, Bool.not_eq_true', Bool.not_eq_false', Bool.not_eq_true, Bool.not_eq_false, Option.isNone_none, Option.isNone_some, Option.isSome_none, Option.isSome_some, ne_eq, Decidable.not_not] at hb2_2
        refine WL.val rfl rfl rfl rfl (r_move rfl (ev_t rfl)) ?_
        refine WL.val rfl rfl rfl rfl (r_nilCheck rfl (ev_t rfl)) ?_
        first | refine WL.val rfl rfl rfl rfl (r_field0 rfl (ev_t rfl) fld_96_1) ?_ | refine WL.val rfl rfl rfl rfl (r_fieldAt rfl (ev_t rfl) fld_96_1) ?_
        refine WL.val rfl rfl rfl rfl (r_load rfl (ev_t rfl) flat_4 (Blk.cell hb rfl)) ?_
        refine WL.val rfl rfl rfl rfl (r_pickF rfl (ev_t rfl) (ev_t rfl)) ?_
        refine WL.val rfl rfl rfl rfl (r_move rfl (ev_t rfl)) ?_
        refine WL.cases 16 rfl (fun hb2_8 => ?_) (fun hb2_8 => ?_)
        · exact absurd hb2_8 (by simp)
        · try (exfalso; first | (simp at hb2_8; done) | (simp only [decide_eq_true_eq, decide_eq_false_iff_not, Bool.not_eq_true', Bool.not_eq_false', Bool.not_eq_true, Bool.not_eq_false] at hb2_8; omega) | omega)
          all_goals
            try simp only [decide_eq_true_eq, decide_eq_false_iff_not, Bool.not_eq_true', Bool.not_eq_false', Bool.not_eq_true, Bool.not_eq_false, Option.isNone_none, Option.isNone_some, Option.isSome_none, Option.isSome_some, ne_eq, Decidable.not_not] at hb2_8
            refine WL.val rfl rfl rfl rfl (r_move rfl (ev_t rfl)) ?_
            refine WL.val rfl rfl rfl rfl (r_lss rfl (ev_t rfl) ev_c) ?_
            refine WL.val rfl rfl rfl rfl (r_pickF rfl (ev_t rfl) (ev_t rfl)) ?_
            refine WL.val rfl rfl rfl rfl (r_move rfl (ev_t rfl)) ?_
            refine WL.cases 20 rfl (fun hb2_12 => ?_) (fun hb2_12 => ?_)
            · try (exfalso; first | (simp at hb2_12; done) | (simp only [decide_eq_true_eq, decide_eq_false_iff_not, Bool.not_eq_true', Bool.not_eq_false', Bool.not_eq_true, Bool.not_eq_false] at hb2_12; omega) | omega)
              all_goals
                try simp only [decide_eq_true_eq, decide_eq_false_iff_not, Bool.not_eq_true', Bool.not_eq_false', Bool.not_eq_true, Bool.not_eq_false, Option.isNone_none, Option.isNone_some, Option.isSome_none, Option.isSome_some, ne_eq, Decidable.not_not] at hb2_12
                refine WL.skip rfl rfl rfl ?_
                refine WL.skip rfl rfl rfl ?_
                refine WL.skip rfl rfl rfl ?_
                refine WL.skip rfl rfl rfl ?_
                refine WL.val rfl rfl rfl rfl (r_pickT rfl (ev_t rfl) ev_c) ?_
                refine WL.nil ?_
                refine WX.keep [(0, _), (5, _), (25, _)] ⟨rfl, rfl, rfl, trivial⟩ ?_
                refine WX.next ?_
                refine WC.cond_true rfl (ev_t rfl) ?_
                refine WC.seq ?_
                -- region 3 octet.go:80
                refine WC.region ?_
                refine WL.val rfl rfl rfl rfl (r_move rfl (ev_t rfl)) ?_
                refine WL.cons (SO.call (fail_blk hb F) rfl body_46 ⟨(ev_t rfl), trivial⟩ rfl rfl rfl rfl ?_)
                rintro v2 w2 ⟨hR, hu2⟩
                refine WL.nil ?_
                refine WX.keep [] trivial ?_
                refine WX.next ?_
                refine WC.seq ?_
                -- region 4 octet.go:81
                refine WC.region ?_
                refine WL.val rfl rfl rfl rfl (r_assign rfl ev_c) ?_
                refine WL.nil ?_
                refine WX.keep [(4, _)] ⟨rfl, trivial⟩ ?_
                refine WX.next ?_
                refine WC.ret ?_
                refine WX.thenRet ?_
                refine WX.retE1 rfl rfl ?_
                rw [if_neg (by omega)] at hx
                simp only [Prod.mk.injEq] at hx
                obtain ⟨rfl, rfl⟩ := hx
                exact ⟨rfl, hR, hu1.trans_same hu2⟩
            · try (exfalso; first | (simp at hb2_12; done) | (simp only [decide_eq_true_eq, decide_eq_false_iff_not, Bool.not_eq_true', Bool.not_eq_false', Bool.not_eq_true, Bool.not_eq_false] at hb2_12; omega) | omega)
              all_goals
                try simp only [decide_eq_true_eq, decide_eq_false_iff_not, Bool.not_eq_true', Bool.not_eq_false', Bool.not_eq_true, Bool.not_eq_false, Option.isNone_none, Option.isNone_some, Option.isSome_none, Option.isSome_some, ne_eq, Decidable.not_not] at hb2_12
                refine WL.val rfl rfl rfl rfl (r_move rfl (ev_t rfl)) ?_
                refine WL.val rfl rfl rfl rfl (r_move rfl (ev_t rfl)) ?_
                first | refine WL.val rfl rfl rfl rfl (r_convN rfl (ev_t rfl) some_3 int_35 (by simp only [inK]; omega)) ?_ | refine WL.val rfl rfl rfl rfl (r_conv rfl (ev_t rfl) some_3 int_35) ?_
                refine WL.val rfl rfl rfl rfl (r_gtr rfl (ev_t rfl) (ev_t rfl)) ?_
                refine WL.val rfl rfl rfl rfl (r_pickF rfl (ev_t rfl) (ev_t rfl)) ?_
                refine WL.nil ?_
                refine WX.keep [(0, _), (5, _), (25, _)] ⟨rfl, rfl, rfl, trivial⟩ ?_
                refine WX.next ?_
                refine WC.cond rfl (ev_t rfl) (fun hc2 => ?_) (fun hc2 => ?_)
                · try (exfalso; first | (simp at hc2; done) | (simp only [decide_eq_true_eq, decide_eq_false_iff_not, Bool.not_eq_true', Bool.not_eq_false', Bool.not_eq_true, Bool.not_eq_false] at hc2; omega) | omega)
                  all_goals
                    try simp only [decide_eq_true_eq, decide_eq_false_iff_not, Bool.not_eq_true', Bool.not_eq_false', Bool.not_eq_true, Bool.not_eq_false, Option.isNone_none, Option.isNone_some, Option.isSome_none, Option.isSome_some, ne_eq, Decidable.not_not] at hc2
                    refine WC.seq ?_
                    -- region 3 octet.go:80
                    refine WC.region ?_
                    refine WL.val rfl rfl rfl rfl (r_move rfl (ev_t rfl)) ?_
                    refine WL.cons (SO.call (fail_blk hb F) rfl body_46 ⟨(ev_t rfl), trivial⟩ rfl rfl rfl rfl ?_)
                    rintro v2 w3 ⟨hR, hu3⟩
                    refine WL.nil ?_
                    refine WX.keep [] trivial ?_
                    refine WX.next ?_
                    refine WC.seq ?_
                    -- region 4 octet.go:81
                    refine WC.region ?_
                    refine WL.val rfl rfl rfl rfl (r_assign rfl ev_c) ?_
                    refine WL.nil ?_
                    refine WX.keep [(4, _)] ⟨rfl, trivial⟩ ?_
                    refine WX.next ?_
                    refine WC.ret ?_
                    refine WX.thenRet ?_
                    refine WX.retE1 rfl rfl ?_
                    rw [if_neg (by omega)] at hx
                    simp only [Prod.mk.injEq] at hx
                    obtain ⟨rfl, rfl⟩ := hx
                    exact ⟨rfl, hR, hu1.trans_same hu3⟩
                · try (exfalso; first | (simp at hc2; done) | (simp only [decide_eq_true_eq, decide_eq_false_iff_not, Bool.not_eq_true', Bool.not_eq_false', Bool.not_eq_true, Bool.not_eq_false] at hc2; omega) | omega)
                  all_goals
                    try simp only [decide_eq_true_eq, decide_eq_false_iff_not, Bool.not_eq_true', Bool.not_eq_false', Bool.not_eq_true, Bool.not_eq_false, Option.isNone_none, Option.isNone_some, Option.isSome_none, Option.isSome_some, ne_eq, Decidable.not_not] at hc2
                    refine WC.skip ?_
                    refine WX.next ?_
                    refine WC.seq ?_
                    -- region 5 octet.go:83
                    refine WC.region ?_
                    refine WL.val rfl rfl rfl rfl (r_move rfl (ev_t rfl)) ?_
                    first | refine WL.val rfl rfl rfl rfl (r_convN rfl (ev_t rfl) some_35 int_3 (by simp only [inK]; omega)) ?_ | refine WL.val rfl rfl rfl rfl (r_conv rfl (ev_t rfl) some_35 int_3) ?_
                    refine WL.val rfl rfl rfl rfl (r_assign rfl (ev_t rfl)) ?_
                    refine WL.nil ?_
                    refine WX.keep [(4, _)] ⟨rfl, trivial⟩ ?_
                    refine WX.next ?_
                    refine WC.ret ?_
                    refine WX.retE1 rfl rfl ?_
                    rw [if_pos (by omega)] at hx
                    simp only [Prod.mk.injEq] at hx
                    obtain ⟨rfl, rfl⟩ := hx
                    exact ⟨rfl, ⟨A, c, hb, hr⟩, hu1⟩
end Go.Proofs.Ytjiafgnibhgfbaa
