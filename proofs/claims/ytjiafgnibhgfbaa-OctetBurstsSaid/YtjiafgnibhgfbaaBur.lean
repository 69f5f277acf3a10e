/-
  octet: sealed bytes of which some bits that stand within 32 that follow one another are turned are refused: the walk.
-/
import Derived.Test.YtjiafgnibhgfbaaFh
import Derived.Test.YtjiafgnibhgfbaaBurP
import Derived.Test.YtjiafgnibhgfbaaRef
import Derived.Test.YtjiafgnibhgfbaaSls
import Derived.OpenShut
namespace Go.Proofs.Ytjiafgnibhgfbaa
open Go
set_option linter.unusedSimpArgs false
set_option linter.unusedVariables false

theorem seal_left (l : List UInt8) : (sealB l).foldl crcB 4294967295 = stepN 32 4294967295 := left_over l _ (leN_le4 (crc_lt l)) rfl

theorem open_burst {l s' : List UInt8} {q k : Nat} (hl : s'.length = (sealB l).length) (hq : q < 4294967296) (hk : k ≤ 8 * (sealB l).length) (he : leN s' = leN (sealB l) ^^^ (2 ^ k * q)) : (openB s').2 = 14 ∨ s' = sealB l := by
  have hn := sealB_length l
  by_cases h : sealB (s'.take (s'.length - 4)) = s'
  · refine .inr (burst hl (seal_left l) ?_ hq hk he)
    rw [← h]
    exact seal_left _
  · refine .inl ?_
    unfold openB
    rw [if_neg (by omega), if_neg h]

theorem octetBursts.walk {w : World} {p : Value} {a : List UInt8} {at_ pat : Int} (hr1 : Rd w (fun k => k < w.heap.size) p a.length 1 (a.map U8)) (ha : a.length ≤ 140737488351232) (h1 : (Lit.int .u16 at_).wf = true) (h2 : (Lit.int .u32 pat).wf = true) :
    Ret Try.prog 12 #[p, .int .u16 at_, .int .u32 pat] w fun v w' => v = .bool true ∧ Upd No w w' := by
  have hsl := sealB_length a
  have b1 := bounds_u16 h1
  have b2 := bounds_u32 h2
  obtain ⟨at0, rfl⟩ : ∃ n : Nat, at_ = n := ⟨at_.toNat, by omega⟩
  obtain ⟨pt, rfl⟩ : ∃ n : Nat, pat = n := ⟨pat.toNat, by omega⟩
  obtain ⟨A1, c1, rfl, hle1⟩ := hr1.slice_form
  refine enterRet (vs := [_, _, _]) (N := 84) Try.func12 rfl rfl rfl ?_
  have hU := Upd.refl No w
  refine WC.keep [(0, _), (1, _), (2, _)] ⟨rfl, rfl, rfl, trivial⟩ ?_
  refine WC.seq ?_
  -- region 0 law.go:118
  refine WC.region ?_
  refine WL.val rfl rfl rfl rfl (r_assign rfl ev_c) ?_
  refine WL.nil ?_
  refine WX.keep [(0, _), (1, _), (2, _)] ⟨rfl, rfl, rfl, trivial⟩ ?_
  refine WX.next ?_
  refine WC.seq ?_
  refine WC.seq ?_
  -- region 1 law.go:119
  refine WC.region ?_
  refine WL.cons (SO.call (awake1_ok _) rfl body_19 trivial rfl rfl rfl rfl ?_)
  rintro v w1 ⟨rfl, hu1⟩
  have hs1 := hu1.size
  replace hU := hU.fresh hu1 (by first | exact (fun _ h => h.elim) | (intro k hk; simp only [At, New, Grow, From, No] at hk; omega))
  replace hr1 := hr1.upd hu1 (by first | (with_reducible assumption) | exact (fun h => h) | exact (fun _ _ _ h => h) | (simp only [At]; omega) | (intro k hk hl hS; simp only [At] at hS; subst hS; contradiction) | (intro k hk hl hS; simp only [At] at hS; subst hS; exact Grow.old (by omega) (by assumption) hk) | (intro k hk hl hS; (try simp only [At, From, No, Grow, New] at hk hS); omega))
  refine WL.val rfl rfl rfl rfl (r_not rfl (ev_t rfl)) ?_
  refine WL.val rfl rfl rfl rfl (r_move rfl (ev_t rfl)) ?_
  refine WL.cases 14 rfl (fun hb1_2 => ?_) (fun hb1_2 => ?_)
  · try (exfalso; first | (simp at hb1_2; done) | (simp only [decide_eq_true_eq, decide_eq_false_iff_not, Bool.not_eq_true', Bool.not_eq_false', Bool.not_eq_true, Bool.not_eq_false] at hb1_2; omega) | omega)
    all_goals
      try simp only [decide_eq_true_eq, decide_eq_false_iff_not, Bool.not_eq_true', Bool.not_eq_false', Bool.not_eq_true, Bool.not_eq_false, Option.isNone_none, Option.isNone_some, Option.isSome_none, Option.isSome_some, ne_eq, Decidable.not_not] at hb1_2
      refine WL.skip rfl rfl rfl ?_
      refine WL.skip rfl rfl rfl ?_
      refine WL.val rfl rfl rfl rfl (r_pickT rfl (ev_t rfl) ev_c) ?_
      refine WL.val rfl rfl rfl rfl (r_move rfl (ev_t rfl)) ?_
      refine WL.skip rfl rfl rfl ?_
      refine WL.skip rfl rfl rfl ?_
      refine WL.skip rfl rfl rfl ?_
      refine WL.val rfl rfl rfl rfl (r_pickT rfl (ev_t rfl) ev_c) ?_
      refine WL.nil ?_
      refine WX.keep [(0, _), (1, _), (2, _), (22, _)] ⟨rfl, rfl, rfl, rfl, trivial⟩ ?_
      refine WX.next ?_
      refine WC.cond_true rfl (ev_t rfl) ?_
      refine WC.seq ?_
      -- region 2 law.go:120
      refine WC.region ?_
      refine WL.cons (SO.call (awake1_ok _) rfl body_19 trivial rfl rfl rfl rfl ?_)
      rintro v w2 ⟨rfl, hu2⟩
      have hs2 := hu2.size
      replace hU := hU.fresh hu2 (by first | exact (fun _ h => h.elim) | (intro k hk; simp only [At, New, Grow, From, No] at hk; omega))
      replace hr1 := hr1.upd hu2 (by first | (with_reducible assumption) | exact (fun h => h) | exact (fun _ _ _ h => h) | (simp only [At]; omega) | (intro k hk hl hS; simp only [At] at hS; subst hS; contradiction) | (intro k hk hl hS; simp only [At] at hS; subst hS; exact Grow.old (by omega) (by assumption) hk) | (intro k hk hl hS; (try simp only [At, From, No, Grow, New] at hk hS); omega))
      refine WL.val rfl rfl rfl rfl (r_assign rfl (ev_t rfl)) ?_
      refine WL.nil ?_
      refine WX.keep [(6, _)] ⟨rfl, trivial⟩ ?_
      refine WX.next ?_
      refine WC.ret ?_
      refine WX.thenRet ?_
      refine WX.retE1 rfl rfl ?_
      exact ⟨rfl, hU⟩
  · try (exfalso; first | (simp at hb1_2; done) | (simp only [decide_eq_true_eq, decide_eq_false_iff_not, Bool.not_eq_true', Bool.not_eq_false', Bool.not_eq_true, Bool.not_eq_false] at hb1_2; omega) | omega)
    all_goals
      try simp only [decide_eq_true_eq, decide_eq_false_iff_not, Bool.not_eq_true', Bool.not_eq_false', Bool.not_eq_true, Bool.not_eq_false, Option.isNone_none, Option.isNone_some, Option.isSome_none, Option.isSome_some, ne_eq, Decidable.not_not] at hb1_2
      refine WL.val rfl rfl rfl rfl (r_move rfl (ev_t rfl)) ?_
      refine WL.val rfl rfl rfl rfl (r_eql rfl (ev_t rfl) ev_c) ?_
      refine WL.val rfl rfl rfl rfl (r_pickF rfl (ev_t rfl) (ev_t rfl)) ?_
      refine WL.val rfl rfl rfl rfl (r_move rfl (ev_t rfl)) ?_
      refine WL.cases 18 rfl (fun hb1_6 => ?_) (fun hb1_6 => ?_)
      · try (exfalso; first | (simp at hb1_6; done) | (simp only [decide_eq_true_eq, decide_eq_false_iff_not, Bool.not_eq_true', Bool.not_eq_false', Bool.not_eq_true, Bool.not_eq_false] at hb1_6; omega) | omega)
        all_goals
          try simp only [decide_eq_true_eq, decide_eq_false_iff_not, Bool.not_eq_true', Bool.not_eq_false', Bool.not_eq_true, Bool.not_eq_false, Option.isNone_none, Option.isNone_some, Option.isSome_none, Option.isSome_some, ne_eq, Decidable.not_not] at hb1_6
          refine WL.skip rfl rfl rfl ?_
          refine WL.skip rfl rfl rfl ?_
          refine WL.skip rfl rfl rfl ?_
          refine WL.val rfl rfl rfl rfl (r_pickT rfl (ev_t rfl) ev_c) ?_
          refine WL.nil ?_
          refine WX.keep [(0, _), (1, _), (2, _), (22, _)] ⟨rfl, rfl, rfl, rfl, trivial⟩ ?_
          refine WX.next ?_
          refine WC.cond_true rfl (ev_t rfl) ?_
          refine WC.seq ?_
          -- region 2 law.go:120
          refine WC.region ?_
          refine WL.cons (SO.call (awake1_ok _) rfl body_19 trivial rfl rfl rfl rfl ?_)
          rintro v w3 ⟨rfl, hu3⟩
          have hs3 := hu3.size
          replace hU := hU.fresh hu3 (by first | exact (fun _ h => h.elim) | (intro k hk; simp only [At, New, Grow, From, No] at hk; omega))
          replace hr1 := hr1.upd hu3 (by first | (with_reducible assumption) | exact (fun h => h) | exact (fun _ _ _ h => h) | (simp only [At]; omega) | (intro k hk hl hS; simp only [At] at hS; subst hS; contradiction) | (intro k hk hl hS; simp only [At] at hS; subst hS; exact Grow.old (by omega) (by assumption) hk) | (intro k hk hl hS; (try simp only [At, From, No, Grow, New] at hk hS); omega))
          refine WL.val rfl rfl rfl rfl (r_assign rfl (ev_t rfl)) ?_
          refine WL.nil ?_
          refine WX.keep [(6, _)] ⟨rfl, trivial⟩ ?_
          refine WX.next ?_
          refine WC.ret ?_
          refine WX.thenRet ?_
          refine WX.retE1 rfl rfl ?_
          exact ⟨rfl, hU⟩
      · try (exfalso; first | (simp at hb1_6; done) | (simp only [decide_eq_true_eq, decide_eq_false_iff_not, Bool.not_eq_true', Bool.not_eq_false', Bool.not_eq_true, Bool.not_eq_false] at hb1_6; omega) | omega)
        all_goals
          try simp only [decide_eq_true_eq, decide_eq_false_iff_not, Bool.not_eq_true', Bool.not_eq_false', Bool.not_eq_true, Bool.not_eq_false, Option.isNone_none, Option.isNone_some, Option.isSome_none, Option.isSome_some, ne_eq, Decidable.not_not] at hb1_6
          refine WL.val rfl rfl rfl rfl (r_move rfl (ev_t rfl)) ?_
          refine WL.val rfl rfl rfl rfl (r_lenSlice (ts := #[]) rfl (ev_t rfl) elem_37) ?_
          refine WL.val rfl rfl rfl rfl (r_gtr rfl (ev_t rfl) ev_c) ?_
          refine WL.val rfl rfl rfl rfl (r_pickF rfl (ev_t rfl) (ev_t rfl)) ?_
          refine WL.nil ?_
          refine WX.keep [(0, _), (1, _), (2, _), (22, _)] ⟨rfl, rfl, rfl, rfl, trivial⟩ ?_
          refine WX.next ?_
          refine WC.cond rfl (ev_t rfl) (fun hc1 => ?_) (fun hc1 => ?_)
          · try (exfalso; first | (simp at hc1; done) | (simp only [decide_eq_true_eq, decide_eq_false_iff_not, Bool.not_eq_true', Bool.not_eq_false', Bool.not_eq_true, Bool.not_eq_false] at hc1; omega) | omega)
            all_goals
              try simp only [decide_eq_true_eq, decide_eq_false_iff_not, Bool.not_eq_true', Bool.not_eq_false', Bool.not_eq_true, Bool.not_eq_false, Option.isNone_none, Option.isNone_some, Option.isSome_none, Option.isSome_some, ne_eq, Decidable.not_not] at hc1
              refine WC.seq ?_
              -- region 2 law.go:120
              refine WC.region ?_
              refine WL.cons (SO.call (awake1_ok _) rfl body_19 trivial rfl rfl rfl rfl ?_)
              rintro v w4 ⟨rfl, hu4⟩
              have hs4 := hu4.size
              replace hU := hU.fresh hu4 (by first | exact (fun _ h => h.elim) | (intro k hk; simp only [At, New, Grow, From, No] at hk; omega))
              replace hr1 := hr1.upd hu4 (by first | (with_reducible assumption) | exact (fun h => h) | exact (fun _ _ _ h => h) | (simp only [At]; omega) | (intro k hk hl hS; simp only [At] at hS; subst hS; contradiction) | (intro k hk hl hS; simp only [At] at hS; subst hS; exact Grow.old (by omega) (by assumption) hk) | (intro k hk hl hS; (try simp only [At, From, No, Grow, New] at hk hS); omega))
              refine WL.val rfl rfl rfl rfl (r_assign rfl (ev_t rfl)) ?_
              refine WL.nil ?_
              refine WX.keep [(6, _)] ⟨rfl, trivial⟩ ?_
              refine WX.next ?_
              refine WC.ret ?_
              refine WX.thenRet ?_
              refine WX.retE1 rfl rfl ?_
              exact ⟨rfl, hU⟩
          · try (exfalso; first | (simp at hc1; done) | (simp only [decide_eq_true_eq, decide_eq_false_iff_not, Bool.not_eq_true', Bool.not_eq_false', Bool.not_eq_true, Bool.not_eq_false] at hc1; omega) | omega)
            all_goals
              try simp only [decide_eq_true_eq, decide_eq_false_iff_not, Bool.not_eq_true', Bool.not_eq_false', Bool.not_eq_true, Bool.not_eq_false, Option.isNone_none, Option.isNone_some, Option.isSome_none, Option.isSome_some, ne_eq, Decidable.not_not] at hc1
              refine WC.skip ?_
              refine WX.next ?_
              refine WC.seq ?_
              -- region 3 law.go:122
              refine WC.region ?_
              refine WL.val rfl rfl rfl rfl (r_move rfl (ev_t rfl)) ?_
              refine WL.cons (SO.call (seal_ok hr1 (by omega)) rfl body_30 ⟨(ev_t rfl), trivial⟩ rfl rfl rfl rfl ?_)
              rintro v w5 ⟨ho1, hu5⟩
              have hs5 := hu5.size
              replace hU := hU.fresh hu5 (by first | exact (fun _ h => h.elim) | (intro k hk; simp only [At, New, Grow, From, No] at hk; omega))
              replace hr1 := hr1.upd hu5 (by first | (with_reducible assumption) | exact (fun h => h) | exact (fun _ _ _ h => h) | (simp only [At]; omega) | (intro k hk hl hS; simp only [At] at hS; subst hS; contradiction) | (intro k hk hl hS; simp only [At] at hS; subst hS; exact Grow.old (by omega) (by assumption) hk) | (intro k hk hl hS; (try simp only [At, From, No, Grow, New] at hk hS); omega))
              obtain ⟨g, K, cur, rfl, hb1, hg1, hk1, hm1, hsz1, htk1⟩ := Own.open ho1 (by omega)
              refine WL.val rfl rfl rfl rfl (r_assign rfl (ev_t rfl)) ?_
              refine WL.nil ?_
              refine WX.keep [(0, _), (1, _), (2, _), (7, _)] ⟨rfl, rfl, rfl, rfl, trivial⟩ ?_
              refine WX.next ?_
              refine WC.seq ?_
              -- region 4 law.go:123
              refine WC.region ?_
              refine WL.val rfl rfl rfl rfl (r_move rfl (ev_t rfl)) ?_
              first | refine WL.val rfl rfl rfl rfl (r_convN rfl (ev_t rfl) some_64 int_3 (by simp only [inK]; omega)) ?_ | refine WL.val rfl rfl rfl rfl (r_conv rfl (ev_t rfl) some_64 int_3) ?_
              refine WL.val rfl rfl rfl rfl (r_move rfl (ev_t rfl)) ?_
              refine WL.val rfl rfl rfl rfl (r_lenSlice (ts := #[]) rfl (ev_t rfl) elem_37) ?_
              first | refine WL.val rfl rfl rfl rfl (r_mulN rfl ev_c (ev_t rfl) (by simp only [inK]; omega)) ?_ | refine WL.val rfl rfl rfl rfl (r_mul rfl ev_c (ev_t rfl)) ?_
              first | refine WL.val rfl rfl rfl rfl (r_remN rfl (ev_t rfl) (ev_t rfl) (by omega) (by omega)) ?_ | refine WL.val rfl rfl rfl rfl (r_rem rfl (ev_t rfl) (ev_t rfl) (by omega)) ?_
              refine WL.val rfl rfl rfl rfl (r_assign rfl (ev_t rfl)) ?_
              refine WL.nil ?_
              refine WX.keep [(0, _), (2, _), (7, _), (8, _)] ⟨rfl, rfl, rfl, rfl, trivial⟩ ?_
              refine WX.next ?_
              refine WC.seq ?_
              refine WC.seq ?_
              obtain ⟨k0, hk0, hk0'⟩ : ∃ k0 : Nat, ((at0 : Int) % (8 * ((sealB a).length : Int))) = (k0 : Int) ∧ k0 < 8 * (sealB a).length := ⟨at0 % (8 * (sealB a).length), by push_cast; rfl, Nat.mod_lt _ (by omega)⟩
              rw [hk0]
              -- region 5 law.go:124
              refine WC.region ?_
              refine WL.val rfl rfl rfl rfl (r_assign rfl ev_c) ?_
              refine WL.nil ?_
              refine WX.keep [(0, _), (2, _), (7, _), (8, _), (9, _)] ⟨rfl, rfl, rfl, rfl, rfl, trivial⟩ ?_
              refine WX.next ?_
              refine WC.block ?_
              -- loop 1: live [0, 2, 7, 8, 9]
              refine WC.keep [(0, _), (2, _), (7, _), (8, _), (9, _)] ⟨rfl, rfl, rfl, rfl, rfl, trivial⟩ ?_
              refine WC.loop (fun m E w' => ∃ (i : Nat) (t : List UInt8), i ≤ 32 ∧ m = 32 - i ∧ Upd No w w' ∧ t.length = (sealB a).length ∧ leN t = leN (sealB a) ^^^ (2 ^ k0 * (pt % 2 ^ i)) ∧ Own w' (fun k => w.heap.size ≤ k) 5 1 (.slice (some ⟨g, 0, none⟩) (sealB a).length K) (sealB a).length (t.map U8) ∧   Rd w' (fun k => k < w.heap.size) (.slice A1 a.length c1) a.length 1 (a.map U8) ∧ E = [(0, .slice A1 a.length c1), (2, .int .u32 (pt : Int)), (7, .slice (some ⟨g, 0, none⟩) (sealB a).length K), (8, .int .i64 (k0 : Int)), (9, .int .i64 (i : Int))]) (32) ?_ ?_
              · exact ⟨0, sealB a, by omega, by omega, hU, rfl, by simp [Nat.mod_one], ho1.mono (fun k hk => by have := hk.1; omega), hr1, rfl⟩
              · rintro m E w' ⟨i, t, hi, rfl, hU, ht, hle, ho1, hr1, rfl⟩
                have hs0 := hU.size
                have key := and1_bits (p := pt) (i := i) (by omega)
                refine WC.seq ?_
                refine WC.seq ?_
                -- region 6 law.go:124
                refine WC.region ?_
                refine WL.val rfl rfl rfl rfl (r_move rfl (ev_t rfl)) ?_
                refine WL.val rfl rfl rfl rfl (r_lss rfl (ev_t rfl) ev_c) ?_
                refine WL.val rfl rfl rfl rfl (r_move rfl (ev_t rfl)) ?_
                refine WL.cases 34 rfl (fun hb6_2 => ?_) (fun hb6_2 => ?_)
                · try (exfalso; first | (simp at hb6_2; done) | (simp only [decide_eq_true_eq, decide_eq_false_iff_not, Bool.not_eq_true', Bool.not_eq_false', Bool.not_eq_true, Bool.not_eq_false] at hb6_2; omega) | omega)
                  all_goals
                    try simp only [decide_eq_true_eq, decide_eq_false_iff_not, Bool.not_eq_true', Bool.not_eq_false', Bool.not_eq_true, Bool.not_eq_false, Option.isNone_none, Option.isNone_some, Option.isSome_none, Option.isSome_some, ne_eq, Decidable.not_not] at hb6_2
                    refine WL.val rfl rfl rfl rfl (r_move rfl (ev_t rfl)) ?_
                    refine WL.val rfl rfl rfl rfl (r_move rfl (ev_t rfl)) ?_
                    first | refine WL.val rfl rfl rfl rfl (r_addN rfl (ev_t rfl) (ev_t rfl) (by simp only [inK]; omega)) ?_ | refine WL.val rfl rfl rfl rfl (r_add rfl (ev_t rfl) (ev_t rfl)) ?_
                    refine WL.val rfl rfl rfl rfl (r_move rfl (ev_t rfl)) ?_
                    refine WL.val rfl rfl rfl rfl (r_lenSlice (ts := #[]) rfl (ev_t rfl) elem_37) ?_
                    first | refine WL.val rfl rfl rfl rfl (r_mulN rfl ev_c (ev_t rfl) (by simp only [inK]; omega)) ?_ | refine WL.val rfl rfl rfl rfl (r_mul rfl ev_c (ev_t rfl)) ?_
                    refine WL.val rfl rfl rfl rfl (r_lss rfl (ev_t rfl) (ev_t rfl)) ?_
                    refine WL.val rfl rfl rfl rfl (r_pickT rfl (ev_t rfl) (ev_t rfl)) ?_
                    refine WL.nil ?_
                    refine WX.keep [(0, _), (2, _), (7, _), (8, _), (9, _), (42, _)] ⟨rfl, rfl, rfl, rfl, rfl, rfl, trivial⟩ ?_
                    refine WX.next ?_
                    refine WC.cond rfl (ev_t rfl) (fun hc6 => ?_) (fun hc6 => ?_)
                    · try (exfalso; first | (simp at hc6; done) | (simp only [decide_eq_true_eq, decide_eq_false_iff_not, Bool.not_eq_true', Bool.not_eq_false', Bool.not_eq_true, Bool.not_eq_false] at hc6; omega) | omega)
                      all_goals
                        try simp only [decide_eq_true_eq, decide_eq_false_iff_not, Bool.not_eq_true', Bool.not_eq_false', Bool.not_eq_true, Bool.not_eq_false, Option.isNone_none, Option.isNone_some, Option.isSome_none, Option.isSome_some, ne_eq, Decidable.not_not] at hc6
                        refine WC.skip ?_
                        refine WX.next ?_
                        refine WC.seq ?_
                        refine WC.block ?_
                        refine WC.seq ?_
                        -- region 8 law.go:125
                        refine WC.region ?_
                        refine WL.val rfl rfl rfl rfl (r_move rfl (ev_t rfl)) ?_
                        refine WL.val rfl rfl rfl rfl (r_move rfl (ev_t rfl)) ?_
                        refine WL.val rfl rfl rfl rfl (r_shr rfl (ev_t rfl) (ev_t rfl) (by omega) (by simp only [IntKind.bits]; omega)) ?_
                        refine WL.val rfl rfl rfl rfl (r_and rfl (ev_t rfl) ev_c) ?_
                        rw [key]
                        refine WL.val rfl rfl rfl rfl (r_eql rfl (ev_t rfl) ev_c) ?_
                        refine WL.nil ?_
                        refine WX.keep [(0, _), (2, _), (7, _), (8, _), (9, _), (49, _)] ⟨rfl, rfl, rfl, rfl, rfl, rfl, trivial⟩ ?_
                        refine WX.next ?_
                        refine WC.cond rfl (ev_t rfl) (fun hc8 => ?_) (fun hc8 => ?_)
                        · try (exfalso; first | (simp at hc8; done) | (simp only [decide_eq_true_eq, decide_eq_false_iff_not, Bool.not_eq_true', Bool.not_eq_false', Bool.not_eq_true, Bool.not_eq_false] at hc8; omega) | omega)
                          all_goals
                            try simp only [decide_eq_true_eq, decide_eq_false_iff_not, Bool.not_eq_true', Bool.not_eq_false', Bool.not_eq_true, Bool.not_eq_false, Option.isNone_none, Option.isNone_some, Option.isSome_none, Option.isSome_some, ne_eq, Decidable.not_not] at hc8
                            have h8 : pt / 2 ^ i % 2 = 1 := by exact_mod_cast hc8
                            have hj : (k0 + i) / 8 < t.length := by omega
                            have hcell : (t.map U8)[(k0 + i) / 8]? = some (.int .u8 (t[(k0 + i) / 8].toNat : Int)) := by simp [U8, hj]
                            -- region 9 law.go:126 DRAWS
                            refine WC.draws' (fun w0 w => Upd No w0 w) (fun j => [0, 0, 0, 0, 0, 0, 0, 0, 0, 0, 0, 2, 0, 0, 0, 0, 0, 0, 0, 2].getD j 0) (.calm 0 (.calm 1 (.calm 2 (.calm 3 (.calm 4 (.calm 5 (.calm 6 (.calm 7 (.calm 8 (.calm 9 (.calm 10 (.calm 12 (.calm 13 (.calm 14 (.calm 15 (.calm 16 (.one 11 (.calm 17 (.calm 18 (.one 19 (.done))))))))))))))))))))) mixed (by kernel_rfl) (by repeat (first | with_reducible exact Deaf.body | with_reducible apply Deaf.then | with_reducible apply Deaf.block)) ?_
                            intro w6 hu6
                            have hz6 := congrArg Array.size hu6.2.2.2
                            replace hu6 := Upd.of_draw hu6
                            have hs6 := hu6.size
                            replace hU := hU.fresh hu6 (by first | exact (fun _ h => h.elim) | (intro k hk; simp only [At, New, Grow, From, No] at hk; omega))
                            replace hr1 := hr1.upd hu6 (by first | (with_reducible assumption) | exact (fun h => h) | exact (fun _ _ _ h => h) | (simp only [At]; omega) | (intro k hk hl hS; simp only [At] at hS; subst hS; contradiction) | (intro k hk hl hS; simp only [At] at hS; subst hS; exact Grow.old (by omega) (by assumption) hk) | (intro k hk hl hS; (try simp only [At, From, No, Grow, New] at hk hS); omega))
                            replace ho1 := ho1.upd hu6 (by first | (with_reducible assumption) | exact (fun h => h) | exact (fun _ _ _ h => h) | (simp only [At]; omega) | (intro k hk hl hS; simp only [At] at hS; subst hS; contradiction) | (intro k hk hl hS; simp only [At] at hS; subst hS; exact Grow.old (by omega) (by assumption) hk) | (intro k hk hl hS; (try simp only [At, From, No, Grow, New] at hk hS); omega))
                            refine WN.calm _ rfl rfl rfl rfl rfl (fun _ => r_move rfl (ev_t rfl)) ?_
                            refine WN.calm _ rfl rfl rfl rfl rfl (fun _ => r_move rfl (ev_t rfl)) ?_
                            refine WN.calm _ rfl rfl rfl rfl rfl (fun _ => r_move rfl (ev_t rfl)) ?_
                            first | refine WN.calm _ rfl rfl rfl rfl rfl (fun _ => r_addN rfl (ev_t rfl) (ev_t rfl) (by simp only [inK]; omega)) ?_ | refine WN.calm _ rfl rfl rfl rfl rfl (fun _ => r_add rfl (ev_t rfl) (ev_t rfl)) ?_
                            first | refine WN.calm _ rfl rfl rfl rfl rfl (fun _ => r_quoN rfl (ev_t rfl) ev_c (by omega) (by omega) (by simp only [inK]; omega)) ?_ | refine WN.calm _ rfl rfl rfl rfl rfl (fun _ => r_quo rfl (ev_t rfl) ev_c (by omega)) ?_
                            refine WN.calm _ rfl rfl rfl rfl rfl (fun _ => r_move rfl (ev_t rfl)) ?_
                            refine WN.calm _ rfl rfl rfl rfl rfl (fun _ => r_move rfl (ev_t rfl)) ?_
                            refine WN.calm _ rfl rfl rfl rfl rfl (fun _ => r_move rfl (ev_t rfl)) ?_
                            first | refine WN.calm _ rfl rfl rfl rfl rfl (fun _ => r_addN rfl (ev_t rfl) (ev_t rfl) (by simp only [inK]; omega)) ?_ | refine WN.calm _ rfl rfl rfl rfl rfl (fun _ => r_add rfl (ev_t rfl) (ev_t rfl)) ?_
                            first | refine WN.calm _ rfl rfl rfl rfl rfl (fun _ => r_quoN rfl (ev_t rfl) ev_c (by omega) (by omega) (by simp only [inK]; omega)) ?_ | refine WN.calm _ rfl rfl rfl rfl rfl (fun _ => r_quo rfl (ev_t rfl) ev_c (by omega)) ?_
                            refine WN.calm _ rfl rfl rfl rfl rfl (fun _ => r_indexAddr rfl (ev_t rfl) (ev_t rfl) elem_37 size_5 (by omega) (by omega)) ?_
                            refine WN.calm _ rfl rfl rfl rfl rfl (fun _ => r_move rfl (ev_t rfl)) ?_
                            refine WN.calm _ rfl rfl rfl rfl rfl (fun _ => r_move rfl (ev_t rfl)) ?_
                            first | refine WN.calm _ rfl rfl rfl rfl rfl (fun _ => r_addN rfl (ev_t rfl) (ev_t rfl) (by simp only [inK]; omega)) ?_ | refine WN.calm _ rfl rfl rfl rfl rfl (fun _ => r_add rfl (ev_t rfl) (ev_t rfl)) ?_
                            first | refine WN.calm _ rfl rfl rfl rfl rfl (fun _ => r_remN rfl (ev_t rfl) ev_c (by omega) (by omega)) ?_ | refine WN.calm _ rfl rfl rfl rfl rfl (fun _ => r_rem rfl (ev_t rfl) ev_c (by omega)) ?_
                            refine WN.calm _ rfl rfl rfl rfl rfl (fun _ => r_shl rfl ev_c (ev_t rfl) (by omega) (by simp only [IntKind.bits]; omega)) ?_
                            refine WN.step _ rfl (SO.val rfl rfl rfl rfl (r_load rfl (ev_t rfl) flat_5 ((ho1.rd (by omega)).cell (j := (k0 + i) / 8) (by omega) hcell)) ?_)
                            refine ⟨trivial, ?_⟩
                            refine WN.calm _ rfl rfl rfl rfl rfl (fun _ => r_xor rfl (ev_t rfl) (ev_t rfl)) ?_
                            refine WN.calm _ rfl rfl rfl rfl rfl (fun _ => r_indexAddr rfl (ev_t rfl) (ev_t rfl) elem_37 size_5 (by omega) (by omega)) ?_
                            obtain ⟨g2, K2, cur2, hv, hb2, hF2, hk2, hm2, hsz2, htk2⟩ := Own.open ho1 (by omega)
                            simp only [Value.slice.injEq, Option.some.injEq, Addr.mk.injEq, and_true, true_and] at hv
                            obtain ⟨rfl, rfl⟩ := hv
                            have hF3 : w.heap.size ≤ g := hF2
                            refine WN.step _ rfl (SO.store rfl (ev_t rfl) (ev_t rfl) size_5 hb2 (by rw [Nat.blt_eq]; omega) rfl rfl rfl rfl ?_)
                            intro w7 hu7 hb3 hz'
                            have hs7 := hu7.size
                            replace hU := hU.fresh hu7 (by first | exact (fun _ h => h.elim) | (intro k hk; simp only [At, New, Grow, From, No] at hk; omega))
                            replace hr1 := hr1.upd hu7 (by first | (with_reducible assumption) | exact (fun h => h) | exact (fun _ _ _ h => h) | (simp only [At]; omega) | (intro k hk hl hS; simp only [At] at hS; subst hS; contradiction) | (intro k hk hl hS; simp only [At] at hS; subst hS; exact Grow.old (by omega) (by assumption) hk) | (intro k hk hl hS; (try simp only [At, From, No, Grow, New] at hk hS); omega))
                            rw [show ((k0 : Int) + (i : Int)) = ((k0 + i : Nat) : Int) by omega, flip_bits, show 0 + (((k0 + i : Nat) : Int) / 8).toNat * 1 = (k0 + i) / 8 by omega] at hb3
                            have ho9 := Own.shut (n := (sealB a).length) (sz := 1) (F := fun k => w.heap.size ≤ k) hb3 hF2 hk2 hm2 (by simp [hsz2])
                            rw [flip_row htk2 (Nat.mod_lt _ (by omega))] at ho9
                            have hT : ∃ T : List UInt8, T.length = (sealB a).length ∧ leN T = leN (sealB a) ^^^ (2 ^ k0 * (pt % 2 ^ (i + 1))) ∧ Own w7 (fun k => w.heap.size ≤ k) 5 1 (.slice (some ⟨g, 0, none⟩) (sealB a).length K) (sealB a).length (T.map U8) :=
                              ⟨t.set ((k0 + i) / 8) (UInt8.ofNat (t[(k0 + i) / 8].toNat ^^^ 2 ^ ((k0 + i) % 8))), by rw [List.length_set, ht], by rw [leN_set hj (Nat.mod_lt _ (by omega)) (List.getElem?_eq_getElem hj), hle, mod_flip h8, show 8 * ((k0 + i) / 8) + (k0 + i) % 8 = k0 + i by omega, Nat.xor_assoc], ho9⟩
                            refine ⟨trivial, ?_⟩
                            refine WN.done ?_
                            refine WX.keep [(0, _), (2, _), (7, _), (8, _), (9, _)] ⟨rfl, rfl, rfl, rfl, rfl, trivial⟩ ?_
                            refine WX.blockNormal ?_
                            refine WX.next ?_
                            -- region 7 law.go:124
                            refine WC.region ?_
                            refine WL.val rfl rfl rfl rfl (r_move rfl (ev_t rfl)) ?_
                            first | refine WL.val rfl rfl rfl rfl (r_addN rfl (ev_t rfl) ev_c (by simp only [inK]; omega)) ?_ | refine WL.val rfl rfl rfl rfl (r_add rfl (ev_t rfl) ev_c) ?_
                            refine WL.val rfl rfl rfl rfl (r_assign rfl (ev_t rfl)) ?_
                            refine WL.nil ?_
                            refine WX.keep [(0, _), (2, _), (7, _), (8, _), (9, _)] ⟨rfl, rfl, rfl, rfl, rfl, trivial⟩ ?_
                            refine WX.meet [(0, _), (2, _), (7, _), (8, _), (9, _)] ⟨rfl, rfl, rfl, rfl, rfl, trivial⟩ ?_
                            obtain ⟨T, hT1, hT2, hT3⟩ := hT
                            exact ⟨32 - (i + 1), by omega, i + 1, T, by omega, rfl, hU, hT1, hT2, hT3, hr1, rfl⟩
                        · try (exfalso; first | (simp at hc8; done) | (simp only [decide_eq_true_eq, decide_eq_false_iff_not, Bool.not_eq_true', Bool.not_eq_false', Bool.not_eq_true, Bool.not_eq_false] at hc8; omega) | omega)
                          all_goals
                            try simp only [decide_eq_true_eq, decide_eq_false_iff_not, Bool.not_eq_true', Bool.not_eq_false', Bool.not_eq_true, Bool.not_eq_false, Option.isNone_none, Option.isNone_some, Option.isSome_none, Option.isSome_some, ne_eq, Decidable.not_not] at hc8
                            have h8 : ¬ pt / 2 ^ i % 2 = 1 := by exact_mod_cast hc8
                            have hT : ∃ T : List UInt8, T.length = (sealB a).length ∧ leN T = leN (sealB a) ^^^ (2 ^ k0 * (pt % 2 ^ (i + 1))) ∧ Own w' (fun k => w.heap.size ≤ k) 5 1 (.slice (some ⟨g, 0, none⟩) (sealB a).length K) (sealB a).length (T.map U8) := ⟨t, ht, by rw [mod_keep h8]; exact hle, ho1⟩
                            refine WC.skip ?_
                            refine WX.blockNormal ?_
                            refine WX.next ?_
                            -- region 7 law.go:124
                            refine WC.region ?_
                            refine WL.val rfl rfl rfl rfl (r_move rfl (ev_t rfl)) ?_
                            first | refine WL.val rfl rfl rfl rfl (r_addN rfl (ev_t rfl) ev_c (by simp only [inK]; omega)) ?_ | refine WL.val rfl rfl rfl rfl (r_add rfl (ev_t rfl) ev_c) ?_
                            refine WL.val rfl rfl rfl rfl (r_assign rfl (ev_t rfl)) ?_
                            refine WL.nil ?_
                            refine WX.keep [(0, _), (2, _), (7, _), (8, _), (9, _)] ⟨rfl, rfl, rfl, rfl, rfl, trivial⟩ ?_
                            refine WX.meet [(0, _), (2, _), (7, _), (8, _), (9, _)] ⟨rfl, rfl, rfl, rfl, rfl, trivial⟩ ?_
                            obtain ⟨T, hT1, hT2, hT3⟩ := hT
                            exact ⟨32 - (i + 1), by omega, i + 1, T, by omega, rfl, hU, hT1, hT2, hT3, hr1, rfl⟩
                    · try (exfalso; first | (simp at hc6; done) | (simp only [decide_eq_true_eq, decide_eq_false_iff_not, Bool.not_eq_true', Bool.not_eq_false', Bool.not_eq_true, Bool.not_eq_false] at hc6; omega) | omega)
                      all_goals
                        try simp only [decide_eq_true_eq, decide_eq_false_iff_not, Bool.not_eq_true', Bool.not_eq_false', Bool.not_eq_true, Bool.not_eq_false, Option.isNone_none, Option.isNone_some, Option.isSome_none, Option.isSome_some, ne_eq, Decidable.not_not] at hc6
                        refine WC.exit ?_
                        refine WX.thenExit ?_
                        refine WX.thenExit ?_
                        refine WX.blockHere ?_
                        refine WX.next ?_
                        refine WC.seq ?_
                        have hop : (openB t).2 = 14 ∨ t = sealB a := open_burst ht (q := pt % 2 ^ i) (by have := Nat.mod_le pt (2 ^ i); omega) (by omega) hle
                        have hobl := openB_length t
                        -- region 10 law.go:129
                        refine WC.region ?_
                        refine WL.val rfl rfl rfl rfl (r_move rfl (ev_t rfl)) ?_
                        refine WL.cons (SO.call (open_ok (l := t) (ho1.rd (by omega)) (by omega)) rfl body_31 ⟨(ev_t rfl), trivial⟩ rfl rfl rfl rfl ?_)
                        rintro v w8 ⟨u1, rfl, ho2, hu8⟩
                        have hs8 := hu8.size
                        replace hU := hU.fresh hu8 (by first | exact (fun _ h => h.elim) | (intro k hk; simp only [At, New, Grow, From, No] at hk; omega))
                        replace hr1 := hr1.upd hu8 (by first | (with_reducible assumption) | exact (fun h => h) | exact (fun _ _ _ h => h) | (simp only [At]; omega) | (intro k hk hl hS; simp only [At] at hS; subst hS; contradiction) | (intro k hk hl hS; simp only [At] at hS; subst hS; exact Grow.old (by omega) (by assumption) hk) | (intro k hk hl hS; (try simp only [At, From, No, Grow, New] at hk hS); omega))
                        replace ho1 := ho1.upd hu8 (by first | (with_reducible assumption) | exact (fun h => h) | exact (fun _ _ _ h => h) | (simp only [At]; omega) | (intro k hk hl hS; simp only [At] at hS; subst hS; contradiction) | (intro k hk hl hS; simp only [At] at hS; subst hS; exact Grow.old (by omega) (by assumption) hk) | (intro k hk hl hS; (try simp only [At, From, No, Grow, New] at hk hS); omega))
                        refine WL.val rfl rfl rfl rfl (r_move rfl (ev_t rfl)) ?_
                        refine WL.val rfl rfl rfl rfl (r_extract rfl (ev_t rfl) rfl) ?_
                        refine WL.val rfl rfl rfl rfl (r_extract rfl (ev_t rfl) rfl) ?_
                        refine WL.val rfl rfl rfl rfl (r_assign rfl (ev_t rfl)) ?_
                        refine WL.val rfl rfl rfl rfl (r_assign rfl (ev_t rfl)) ?_
                        refine WL.nil ?_
                        refine WX.keep [(0, _), (7, _), (11, _)] ⟨rfl, rfl, rfl, trivial⟩ ?_
                        refine WX.next ?_
                        refine WC.seq ?_
                        -- region 11 law.go:130 DRAWS
                        refine WC.draws' (fun w0 w => Upd No w0 w) (fun j => [0, 0, 0, 0, 2, 0, 2, 2, 0, 0, 0].getD j 0) (.calm 0 (.calm 1 (.calm 2 (.calm 3 (.calm 5 (.two 4 6 (.one 6 (.one 7 (.calm 8 (.calm 9 (.calm 10 (.done)))))) (.two 4 7 (.one 7 (.calm 8 (.calm 9 (.calm 10 (.done))))) (.one 4 (.calm 8 (.calm 9 (.calm 10 (.done)))))))))))) mixed (by kernel_rfl) (by repeat (first | with_reducible exact Deaf.body | with_reducible apply Deaf.then | with_reducible apply Deaf.block)) ?_
                        intro w9 hu9
                        have hz9 := congrArg Array.size hu9.2.2.2
                        replace hu9 := Upd.of_draw hu9
                        have hs9 := hu9.size
                        replace hU := hU.fresh hu9 (by first | exact (fun _ h => h.elim) | (intro k hk; simp only [At, New, Grow, From, No] at hk; omega))
                        replace hr1 := hr1.upd hu9 (by first | (with_reducible assumption) | exact (fun h => h) | exact (fun _ _ _ h => h) | (simp only [At]; omega) | (intro k hk hl hS; simp only [At] at hS; subst hS; contradiction) | (intro k hk hl hS; simp only [At] at hS; subst hS; exact Grow.old (by omega) (by assumption) hk) | (intro k hk hl hS; (try simp only [At, From, No, Grow, New] at hk hS); omega))
                        replace ho1 := ho1.upd hu9 (by first | (with_reducible assumption) | exact (fun h => h) | exact (fun _ _ _ h => h) | (simp only [At]; omega) | (intro k hk hl hS; simp only [At] at hS; subst hS; contradiction) | (intro k hk hl hS; simp only [At] at hS; subst hS; exact Grow.old (by omega) (by assumption) hk) | (intro k hk hl hS; (try simp only [At, From, No, Grow, New] at hk hS); omega))
                        replace ho2 := ho2.upd hu9 (by first | (with_reducible assumption) | exact (fun h => h) | exact (fun _ _ _ h => h) | (simp only [At]; omega) | (intro k hk hl hS; simp only [At] at hS; subst hS; contradiction) | (intro k hk hl hS; simp only [At] at hS; subst hS; exact Grow.old (by omega) (by assumption) hk) | (intro k hk hl hS; (try simp only [At, From, No, Grow, New] at hk hS); omega))
                        refine WN.calm _ rfl rfl rfl rfl rfl (fun _ => r_move rfl (ev_t rfl)) ?_
                        refine WN.calm _ rfl rfl rfl rfl rfl (fun _ => r_eql rfl (ev_t rfl) ev_c) ?_
                        refine WN.calm _ rfl rfl rfl rfl rfl (fun _ => r_move rfl (ev_t rfl)) ?_
                        refine WN.cases 76 rfl (fun hb11_2 => ?_) (fun hb11_2 => ?_)
                        · try (exfalso; first | (simp at hb11_2; done) | (simp only [decide_eq_true_eq, decide_eq_false_iff_not, Bool.not_eq_true', Bool.not_eq_false', Bool.not_eq_true, Bool.not_eq_false] at hb11_2; omega) | omega)
                          all_goals
                            try simp only [decide_eq_true_eq, decide_eq_false_iff_not, Bool.not_eq_true', Bool.not_eq_false', Bool.not_eq_true, Bool.not_eq_false, Option.isNone_none, Option.isNone_some, Option.isSome_none, Option.isSome_some, ne_eq, Decidable.not_not] at hb11_2
                            refine WN.skip _ rfl rfl rfl rfl ?_
                            refine WN.skip _ rfl rfl rfl rfl ?_
                            refine WN.fork _ _ rfl rfl ?_ ?_
                            · refine SO.skip rfl rfl rfl ?_
                              refine ⟨trivial, ?_⟩
                              refine WN.step _ rfl (SO.skip rfl rfl rfl ?_)
                              refine ⟨trivial, ?_⟩
                              refine WN.step _ rfl (SO.skip rfl rfl rfl ?_)
                              refine ⟨trivial, ?_⟩
                              refine WN.skip _ rfl rfl rfl rfl ?_
                              refine WN.calm _ rfl rfl rfl rfl rfl (fun _ => r_pickT rfl (ev_t rfl) ev_c) ?_
                              refine WN.calm _ rfl rfl rfl rfl rfl (fun _ => r_assign rfl (ev_t rfl)) ?_
                              refine WN.done ?_
                              refine WX.keep [(6, _)] ⟨rfl, trivial⟩ ?_
                              refine WX.next ?_
                              refine WC.ret ?_
                              refine WX.retE1 rfl rfl ?_
                              first
                                | exact ⟨rfl, hU⟩
                                | (rw [mk_toList, mk_toList, hta]; exact ⟨by simp, hU⟩)
                            · refine SO.skip rfl rfl rfl ?_
                              refine ⟨trivial, ?_⟩
                              refine WN.fork _ _ rfl rfl ?_ ?_
                              · refine SO.skip rfl rfl rfl ?_
                                refine ⟨trivial, ?_⟩
                                refine WN.step _ rfl (SO.skip rfl rfl rfl ?_)
                                refine ⟨trivial, ?_⟩
                                refine WN.skip _ rfl rfl rfl rfl ?_
                                refine WN.calm _ rfl rfl rfl rfl rfl (fun _ => r_pickT rfl (ev_t rfl) ev_c) ?_
                                refine WN.calm _ rfl rfl rfl rfl rfl (fun _ => r_assign rfl (ev_t rfl)) ?_
                                refine WN.done ?_
                                refine WX.keep [(6, _)] ⟨rfl, trivial⟩ ?_
                                refine WX.next ?_
                                refine WC.ret ?_
                                refine WX.retE1 rfl rfl ?_
                                first
                                  | exact ⟨rfl, hU⟩
                                  | (rw [mk_toList, mk_toList, hta]; exact ⟨by simp, hU⟩)
                              · refine SO.skip rfl rfl rfl ?_
                                refine ⟨trivial, ?_⟩
                                refine WN.step _ rfl (SO.skip rfl rfl rfl ?_)
                                refine ⟨trivial, ?_⟩
                                refine WN.skip _ rfl rfl rfl rfl ?_
                                refine WN.calm _ rfl rfl rfl rfl rfl (fun _ => r_pickT rfl (ev_t rfl) ev_c) ?_
                                refine WN.calm _ rfl rfl rfl rfl rfl (fun _ => r_assign rfl (ev_t rfl)) ?_
                                refine WN.done ?_
                                refine WX.keep [(6, _)] ⟨rfl, trivial⟩ ?_
                                refine WX.next ?_
                                refine WC.ret ?_
                                refine WX.retE1 rfl rfl ?_
                                first
                                  | exact ⟨rfl, hU⟩
                                  | (rw [mk_toList, mk_toList, hta]; exact ⟨by simp, hU⟩)
                        · try (exfalso; first | (simp at hb11_2; done) | (simp only [decide_eq_true_eq, decide_eq_false_iff_not, Bool.not_eq_true', Bool.not_eq_false', Bool.not_eq_true, Bool.not_eq_false] at hb11_2; omega) | omega)
                          all_goals
                            try simp only [decide_eq_true_eq, decide_eq_false_iff_not, Bool.not_eq_true', Bool.not_eq_false', Bool.not_eq_true, Bool.not_eq_false, Option.isNone_none, Option.isNone_some, Option.isSome_none, Option.isSome_some, ne_eq, Decidable.not_not] at hb11_2
                            have hta : t = sealB a := hop.resolve_left (fun h => hb11_2 (by rw [h]; rfl))
                            refine WN.calm _ rfl rfl rfl rfl rfl (fun _ => r_move rfl (ev_t rfl)) ?_
                            refine WN.calm _ rfl rfl rfl rfl rfl (fun _ => r_move rfl (ev_t rfl)) ?_
                            refine WN.fork _ _ rfl rfl ?_ ?_
                            · refine SO.val rfl rfl rfl rfl (r_toStr rfl (ev_t rfl) (ho1.rd (by omega)) elem_37 int_5 str_9) ?_
                              refine ⟨trivial, ?_⟩
                              refine WN.step _ rfl (SO.call (seal_ok hr1 (by omega)) rfl body_30 ⟨(ev_t rfl), trivial⟩ rfl rfl rfl rfl ?_)
                              rintro v w10 ⟨ho5, hu10⟩
                              have hs10 := hu10.size
                              replace hU := hU.fresh hu10 (by first | exact (fun _ h => h.elim) | (intro k hk; simp only [At, New, Grow, From, No] at hk; omega))
                              replace hr1 := hr1.upd hu10 (by first | (with_reducible assumption) | exact (fun h => h) | exact (fun _ _ _ h => h) | (simp only [At]; omega) | (intro k hk hl hS; simp only [At] at hS; subst hS; contradiction) | (intro k hk hl hS; simp only [At] at hS; subst hS; exact Grow.old (by omega) (by assumption) hk) | (intro k hk hl hS; (try simp only [At, From, No, Grow, New] at hk hS); omega))
                              replace ho1 := ho1.upd hu10 (by first | (with_reducible assumption) | exact (fun h => h) | exact (fun _ _ _ h => h) | (simp only [At]; omega) | (intro k hk hl hS; simp only [At] at hS; subst hS; contradiction) | (intro k hk hl hS; simp only [At] at hS; subst hS; exact Grow.old (by omega) (by assumption) hk) | (intro k hk hl hS; (try simp only [At, From, No, Grow, New] at hk hS); omega))
                              replace ho2 := ho2.upd hu10 (by first | (with_reducible assumption) | exact (fun h => h) | exact (fun _ _ _ h => h) | (simp only [At]; omega) | (intro k hk hl hS; simp only [At] at hS; subst hS; contradiction) | (intro k hk hl hS; simp only [At] at hS; subst hS; exact Grow.old (by omega) (by assumption) hk) | (intro k hk hl hS; (try simp only [At, From, No, Grow, New] at hk hS); omega))
                              obtain ⟨B5, k5, rfl, hk5⟩ := Own.form ho5
                              refine ⟨trivial, ?_⟩
                              refine WN.step _ rfl (SO.val rfl rfl rfl rfl (r_toStr rfl (ev_t rfl) (ho5.rd (by omega)) elem_37 int_5 str_9) ?_)
                              refine ⟨trivial, ?_⟩
                              refine WN.calm _ rfl rfl rfl rfl rfl (fun _ => r_eqlStr rfl (ev_t rfl) (ev_t rfl)) ?_
                              refine WN.calm _ rfl rfl rfl rfl rfl (fun _ => r_pickF rfl (ev_t rfl) (ev_t rfl)) ?_
                              refine WN.calm _ rfl rfl rfl rfl rfl (fun _ => r_assign rfl (ev_t rfl)) ?_
                              refine WN.done ?_
                              refine WX.keep [(6, _)] ⟨rfl, trivial⟩ ?_
                              refine WX.next ?_
                              refine WC.ret ?_
                              refine WX.retE1 rfl rfl ?_
                              first
                                | exact ⟨rfl, hU⟩
                                | (rw [mk_toList, mk_toList, hta]; exact ⟨by simp, hU⟩)
                            · refine SO.call (seal_ok hr1 (by omega)) rfl body_30 ⟨(ev_t rfl), trivial⟩ rfl rfl rfl rfl ?_
                              rintro v w11 ⟨ho5, hu11⟩
                              have hs11 := hu11.size
                              replace hU := hU.fresh hu11 (by first | exact (fun _ h => h.elim) | (intro k hk; simp only [At, New, Grow, From, No] at hk; omega))
                              replace hr1 := hr1.upd hu11 (by first | (with_reducible assumption) | exact (fun h => h) | exact (fun _ _ _ h => h) | (simp only [At]; omega) | (intro k hk hl hS; simp only [At] at hS; subst hS; contradiction) | (intro k hk hl hS; simp only [At] at hS; subst hS; exact Grow.old (by omega) (by assumption) hk) | (intro k hk hl hS; (try simp only [At, From, No, Grow, New] at hk hS); omega))
                              replace ho1 := ho1.upd hu11 (by first | (with_reducible assumption) | exact (fun h => h) | exact (fun _ _ _ h => h) | (simp only [At]; omega) | (intro k hk hl hS; simp only [At] at hS; subst hS; contradiction) | (intro k hk hl hS; simp only [At] at hS; subst hS; exact Grow.old (by omega) (by assumption) hk) | (intro k hk hl hS; (try simp only [At, From, No, Grow, New] at hk hS); omega))
                              replace ho2 := ho2.upd hu11 (by first | (with_reducible assumption) | exact (fun h => h) | exact (fun _ _ _ h => h) | (simp only [At]; omega) | (intro k hk hl hS; simp only [At] at hS; subst hS; contradiction) | (intro k hk hl hS; simp only [At] at hS; subst hS; exact Grow.old (by omega) (by assumption) hk) | (intro k hk hl hS; (try simp only [At, From, No, Grow, New] at hk hS); omega))
                              obtain ⟨B5, k5, rfl, hk5⟩ := Own.form ho5
                              refine ⟨trivial, ?_⟩
                              refine WN.fork _ _ rfl rfl ?_ ?_
                              · refine SO.val rfl rfl rfl rfl (r_toStr rfl (ev_t rfl) (ho1.rd (by omega)) elem_37 int_5 str_9) ?_
                                refine ⟨trivial, ?_⟩
                                refine WN.step _ rfl (SO.val rfl rfl rfl rfl (r_toStr rfl (ev_t rfl) (ho5.rd (by omega)) elem_37 int_5 str_9) ?_)
                                refine ⟨trivial, ?_⟩
                                refine WN.calm _ rfl rfl rfl rfl rfl (fun _ => r_eqlStr rfl (ev_t rfl) (ev_t rfl)) ?_
                                refine WN.calm _ rfl rfl rfl rfl rfl (fun _ => r_pickF rfl (ev_t rfl) (ev_t rfl)) ?_
                                refine WN.calm _ rfl rfl rfl rfl rfl (fun _ => r_assign rfl (ev_t rfl)) ?_
                                refine WN.done ?_
                                refine WX.keep [(6, _)] ⟨rfl, trivial⟩ ?_
                                refine WX.next ?_
                                refine WC.ret ?_
                                refine WX.retE1 rfl rfl ?_
                                first
                                  | exact ⟨rfl, hU⟩
                                  | (rw [mk_toList, mk_toList, hta]; exact ⟨by simp, hU⟩)
                              · refine SO.val rfl rfl rfl rfl (r_toStr rfl (ev_t rfl) (ho5.rd (by omega)) elem_37 int_5 str_9) ?_
                                refine ⟨trivial, ?_⟩
                                refine WN.step _ rfl (SO.val rfl rfl rfl rfl (r_toStr rfl (ev_t rfl) (ho1.rd (by omega)) elem_37 int_5 str_9) ?_)
                                refine ⟨trivial, ?_⟩
                                refine WN.calm _ rfl rfl rfl rfl rfl (fun _ => r_eqlStr rfl (ev_t rfl) (ev_t rfl)) ?_
                                refine WN.calm _ rfl rfl rfl rfl rfl (fun _ => r_pickF rfl (ev_t rfl) (ev_t rfl)) ?_
                                refine WN.calm _ rfl rfl rfl rfl rfl (fun _ => r_assign rfl (ev_t rfl)) ?_
                                refine WN.done ?_
                                refine WX.keep [(6, _)] ⟨rfl, trivial⟩ ?_
                                refine WX.next ?_
                                refine WC.ret ?_
                                refine WX.retE1 rfl rfl ?_
                                first
                                  | exact ⟨rfl, hU⟩
                                  | (rw [mk_toList, mk_toList, hta]; exact ⟨by simp, hU⟩)
                · try (exfalso; first | (simp at hb6_2; done) | (simp only [decide_eq_true_eq, decide_eq_false_iff_not, Bool.not_eq_true', Bool.not_eq_false', Bool.not_eq_true, Bool.not_eq_false] at hb6_2; omega) | omega)
                  all_goals
                    try simp only [decide_eq_true_eq, decide_eq_false_iff_not, Bool.not_eq_true', Bool.not_eq_false', Bool.not_eq_true, Bool.not_eq_false, Option.isNone_none, Option.isNone_some, Option.isSome_none, Option.isSome_some, ne_eq, Decidable.not_not] at hb6_2
                    refine WL.skip rfl rfl rfl ?_
                    refine WL.skip rfl rfl rfl ?_
                    refine WL.skip rfl rfl rfl ?_
                    refine WL.skip rfl rfl rfl ?_
                    refine WL.skip rfl rfl rfl ?_
                    refine WL.skip rfl rfl rfl ?_
                    refine WL.skip rfl rfl rfl ?_
                    refine WL.val rfl rfl rfl rfl (r_pickF rfl (ev_t rfl) ev_c) ?_
                    refine WL.nil ?_
                    refine WX.keep [(0, _), (2, _), (7, _), (8, _), (9, _), (42, _)] ⟨rfl, rfl, rfl, rfl, rfl, rfl, trivial⟩ ?_
                    refine WX.next ?_
                    refine WC.cond_false rfl (ev_t rfl) ?_
                    refine WC.exit ?_
                    refine WX.thenExit ?_
                    refine WX.thenExit ?_
                    refine WX.blockHere ?_
                    refine WX.next ?_
                    refine WC.seq ?_
                    have hop : (openB t).2 = 14 ∨ t = sealB a := open_burst ht (q := pt % 2 ^ i) (by have := Nat.mod_le pt (2 ^ i); omega) (by omega) hle
                    have hobl := openB_length t
                    -- region 10 law.go:129
                    refine WC.region ?_
                    refine WL.val rfl rfl rfl rfl (r_move rfl (ev_t rfl)) ?_
                    refine WL.cons (SO.call (open_ok (l := t) (ho1.rd (by omega)) (by omega)) rfl body_31 ⟨(ev_t rfl), trivial⟩ rfl rfl rfl rfl ?_)
                    rintro v w12 ⟨u1, rfl, ho2, hu12⟩
                    have hs12 := hu12.size
                    replace hU := hU.fresh hu12 (by first | exact (fun _ h => h.elim) | (intro k hk; simp only [At, New, Grow, From, No] at hk; omega))
                    replace hr1 := hr1.upd hu12 (by first | (with_reducible assumption) | exact (fun h => h) | exact (fun _ _ _ h => h) | (simp only [At]; omega) | (intro k hk hl hS; simp only [At] at hS; subst hS; contradiction) | (intro k hk hl hS; simp only [At] at hS; subst hS; exact Grow.old (by omega) (by assumption) hk) | (intro k hk hl hS; (try simp only [At, From, No, Grow, New] at hk hS); omega))
                    replace ho1 := ho1.upd hu12 (by first | (with_reducible assumption) | exact (fun h => h) | exact (fun _ _ _ h => h) | (simp only [At]; omega) | (intro k hk hl hS; simp only [At] at hS; subst hS; contradiction) | (intro k hk hl hS; simp only [At] at hS; subst hS; exact Grow.old (by omega) (by assumption) hk) | (intro k hk hl hS; (try simp only [At, From, No, Grow, New] at hk hS); omega))
                    refine WL.val rfl rfl rfl rfl (r_move rfl (ev_t rfl)) ?_
                    refine WL.val rfl rfl rfl rfl (r_extract rfl (ev_t rfl) rfl) ?_
                    refine WL.val rfl rfl rfl rfl (r_extract rfl (ev_t rfl) rfl) ?_
                    refine WL.val rfl rfl rfl rfl (r_assign rfl (ev_t rfl)) ?_
                    refine WL.val rfl rfl rfl rfl (r_assign rfl (ev_t rfl)) ?_
                    refine WL.nil ?_
                    refine WX.keep [(0, _), (7, _), (11, _)] ⟨rfl, rfl, rfl, trivial⟩ ?_
                    refine WX.next ?_
                    refine WC.seq ?_
                    -- region 11 law.go:130 DRAWS
                    refine WC.draws' (fun w0 w => Upd No w0 w) (fun j => [0, 0, 0, 0, 2, 0, 2, 2, 0, 0, 0].getD j 0) (.calm 0 (.calm 1 (.calm 2 (.calm 3 (.calm 5 (.two 4 6 (.one 6 (.one 7 (.calm 8 (.calm 9 (.calm 10 (.done)))))) (.two 4 7 (.one 7 (.calm 8 (.calm 9 (.calm 10 (.done))))) (.one 4 (.calm 8 (.calm 9 (.calm 10 (.done)))))))))))) mixed (by kernel_rfl) (by repeat (first | with_reducible exact Deaf.body | with_reducible apply Deaf.then | with_reducible apply Deaf.block)) ?_
                    intro w13 hu13
                    have hz13 := congrArg Array.size hu13.2.2.2
                    replace hu13 := Upd.of_draw hu13
                    have hs13 := hu13.size
                    replace hU := hU.fresh hu13 (by first | exact (fun _ h => h.elim) | (intro k hk; simp only [At, New, Grow, From, No] at hk; omega))
                    replace hr1 := hr1.upd hu13 (by first | (with_reducible assumption) | exact (fun h => h) | exact (fun _ _ _ h => h) | (simp only [At]; omega) | (intro k hk hl hS; simp only [At] at hS; subst hS; contradiction) | (intro k hk hl hS; simp only [At] at hS; subst hS; exact Grow.old (by omega) (by assumption) hk) | (intro k hk hl hS; (try simp only [At, From, No, Grow, New] at hk hS); omega))
                    replace ho1 := ho1.upd hu13 (by first | (with_reducible assumption) | exact (fun h => h) | exact (fun _ _ _ h => h) | (simp only [At]; omega) | (intro k hk hl hS; simp only [At] at hS; subst hS; contradiction) | (intro k hk hl hS; simp only [At] at hS; subst hS; exact Grow.old (by omega) (by assumption) hk) | (intro k hk hl hS; (try simp only [At, From, No, Grow, New] at hk hS); omega))
                    replace ho2 := ho2.upd hu13 (by first | (with_reducible assumption) | exact (fun h => h) | exact (fun _ _ _ h => h) | (simp only [At]; omega) | (intro k hk hl hS; simp only [At] at hS; subst hS; contradiction) | (intro k hk hl hS; simp only [At] at hS; subst hS; exact Grow.old (by omega) (by assumption) hk) | (intro k hk hl hS; (try simp only [At, From, No, Grow, New] at hk hS); omega))
                    refine WN.calm _ rfl rfl rfl rfl rfl (fun _ => r_move rfl (ev_t rfl)) ?_
                    refine WN.calm _ rfl rfl rfl rfl rfl (fun _ => r_eql rfl (ev_t rfl) ev_c) ?_
                    refine WN.calm _ rfl rfl rfl rfl rfl (fun _ => r_move rfl (ev_t rfl)) ?_
                    refine WN.cases 76 rfl (fun hb11_2 => ?_) (fun hb11_2 => ?_)
                    · try (exfalso; first | (simp at hb11_2; done) | (simp only [decide_eq_true_eq, decide_eq_false_iff_not, Bool.not_eq_true', Bool.not_eq_false', Bool.not_eq_true, Bool.not_eq_false] at hb11_2; omega) | omega)
                      all_goals
                        try simp only [decide_eq_true_eq, decide_eq_false_iff_not, Bool.not_eq_true', Bool.not_eq_false', Bool.not_eq_true, Bool.not_eq_false, Option.isNone_none, Option.isNone_some, Option.isSome_none, Option.isSome_some, ne_eq, Decidable.not_not] at hb11_2
                        refine WN.skip _ rfl rfl rfl rfl ?_
                        refine WN.skip _ rfl rfl rfl rfl ?_
                        refine WN.fork _ _ rfl rfl ?_ ?_
                        · refine SO.skip rfl rfl rfl ?_
                          refine ⟨trivial, ?_⟩
                          refine WN.step _ rfl (SO.skip rfl rfl rfl ?_)
                          refine ⟨trivial, ?_⟩
                          refine WN.step _ rfl (SO.skip rfl rfl rfl ?_)
                          refine ⟨trivial, ?_⟩
                          refine WN.skip _ rfl rfl rfl rfl ?_
                          refine WN.calm _ rfl rfl rfl rfl rfl (fun _ => r_pickT rfl (ev_t rfl) ev_c) ?_
                          refine WN.calm _ rfl rfl rfl rfl rfl (fun _ => r_assign rfl (ev_t rfl)) ?_
                          refine WN.done ?_
                          refine WX.keep [(6, _)] ⟨rfl, trivial⟩ ?_
                          refine WX.next ?_
                          refine WC.ret ?_
                          refine WX.retE1 rfl rfl ?_
                          first
                            | exact ⟨rfl, hU⟩
                            | (rw [mk_toList, mk_toList, hta]; exact ⟨by simp, hU⟩)
                        · refine SO.skip rfl rfl rfl ?_
                          refine ⟨trivial, ?_⟩
                          refine WN.fork _ _ rfl rfl ?_ ?_
                          · refine SO.skip rfl rfl rfl ?_
                            refine ⟨trivial, ?_⟩
                            refine WN.step _ rfl (SO.skip rfl rfl rfl ?_)
                            refine ⟨trivial, ?_⟩
                            refine WN.skip _ rfl rfl rfl rfl ?_
                            refine WN.calm _ rfl rfl rfl rfl rfl (fun _ => r_pickT rfl (ev_t rfl) ev_c) ?_
                            refine WN.calm _ rfl rfl rfl rfl rfl (fun _ => r_assign rfl (ev_t rfl)) ?_
                            refine WN.done ?_
                            refine WX.keep [(6, _)] ⟨rfl, trivial⟩ ?_
                            refine WX.next ?_
                            refine WC.ret ?_
                            refine WX.retE1 rfl rfl ?_
                            first
                              | exact ⟨rfl, hU⟩
                              | (rw [mk_toList, mk_toList, hta]; exact ⟨by simp, hU⟩)
                          · refine SO.skip rfl rfl rfl ?_
                            refine ⟨trivial, ?_⟩
                            refine WN.step _ rfl (SO.skip rfl rfl rfl ?_)
                            refine ⟨trivial, ?_⟩
                            refine WN.skip _ rfl rfl rfl rfl ?_
                            refine WN.calm _ rfl rfl rfl rfl rfl (fun _ => r_pickT rfl (ev_t rfl) ev_c) ?_
                            refine WN.calm _ rfl rfl rfl rfl rfl (fun _ => r_assign rfl (ev_t rfl)) ?_
                            refine WN.done ?_
                            refine WX.keep [(6, _)] ⟨rfl, trivial⟩ ?_
                            refine WX.next ?_
                            refine WC.ret ?_
                            refine WX.retE1 rfl rfl ?_
                            first
                              | exact ⟨rfl, hU⟩
                              | (rw [mk_toList, mk_toList, hta]; exact ⟨by simp, hU⟩)
                    · try (exfalso; first | (simp at hb11_2; done) | (simp only [decide_eq_true_eq, decide_eq_false_iff_not, Bool.not_eq_true', Bool.not_eq_false', Bool.not_eq_true, Bool.not_eq_false] at hb11_2; omega) | omega)
                      all_goals
                        try simp only [decide_eq_true_eq, decide_eq_false_iff_not, Bool.not_eq_true', Bool.not_eq_false', Bool.not_eq_true, Bool.not_eq_false, Option.isNone_none, Option.isNone_some, Option.isSome_none, Option.isSome_some, ne_eq, Decidable.not_not] at hb11_2
                        have hta : t = sealB a := hop.resolve_left (fun h => hb11_2 (by rw [h]; rfl))
                        refine WN.calm _ rfl rfl rfl rfl rfl (fun _ => r_move rfl (ev_t rfl)) ?_
                        refine WN.calm _ rfl rfl rfl rfl rfl (fun _ => r_move rfl (ev_t rfl)) ?_
                        refine WN.fork _ _ rfl rfl ?_ ?_
                        · refine SO.val rfl rfl rfl rfl (r_toStr rfl (ev_t rfl) (ho1.rd (by omega)) elem_37 int_5 str_9) ?_
                          refine ⟨trivial, ?_⟩
                          refine WN.step _ rfl (SO.call (seal_ok hr1 (by omega)) rfl body_30 ⟨(ev_t rfl), trivial⟩ rfl rfl rfl rfl ?_)
                          rintro v w14 ⟨ho5, hu14⟩
                          have hs14 := hu14.size
                          replace hU := hU.fresh hu14 (by first | exact (fun _ h => h.elim) | (intro k hk; simp only [At, New, Grow, From, No] at hk; omega))
                          replace hr1 := hr1.upd hu14 (by first | (with_reducible assumption) | exact (fun h => h) | exact (fun _ _ _ h => h) | (simp only [At]; omega) | (intro k hk hl hS; simp only [At] at hS; subst hS; contradiction) | (intro k hk hl hS; simp only [At] at hS; subst hS; exact Grow.old (by omega) (by assumption) hk) | (intro k hk hl hS; (try simp only [At, From, No, Grow, New] at hk hS); omega))
                          replace ho1 := ho1.upd hu14 (by first | (with_reducible assumption) | exact (fun h => h) | exact (fun _ _ _ h => h) | (simp only [At]; omega) | (intro k hk hl hS; simp only [At] at hS; subst hS; contradiction) | (intro k hk hl hS; simp only [At] at hS; subst hS; exact Grow.old (by omega) (by assumption) hk) | (intro k hk hl hS; (try simp only [At, From, No, Grow, New] at hk hS); omega))
                          replace ho2 := ho2.upd hu14 (by first | (with_reducible assumption) | exact (fun h => h) | exact (fun _ _ _ h => h) | (simp only [At]; omega) | (intro k hk hl hS; simp only [At] at hS; subst hS; contradiction) | (intro k hk hl hS; simp only [At] at hS; subst hS; exact Grow.old (by omega) (by assumption) hk) | (intro k hk hl hS; (try simp only [At, From, No, Grow, New] at hk hS); omega))
                          obtain ⟨B5, k5, rfl, hk5⟩ := Own.form ho5
                          refine ⟨trivial, ?_⟩
                          refine WN.step _ rfl (SO.val rfl rfl rfl rfl (r_toStr rfl (ev_t rfl) (ho5.rd (by omega)) elem_37 int_5 str_9) ?_)
                          refine ⟨trivial, ?_⟩
                          refine WN.calm _ rfl rfl rfl rfl rfl (fun _ => r_eqlStr rfl (ev_t rfl) (ev_t rfl)) ?_
                          refine WN.calm _ rfl rfl rfl rfl rfl (fun _ => r_pickF rfl (ev_t rfl) (ev_t rfl)) ?_
                          refine WN.calm _ rfl rfl rfl rfl rfl (fun _ => r_assign rfl (ev_t rfl)) ?_
                          refine WN.done ?_
                          refine WX.keep [(6, _)] ⟨rfl, trivial⟩ ?_
                          refine WX.next ?_
                          refine WC.ret ?_
                          refine WX.retE1 rfl rfl ?_
                          first
                            | exact ⟨rfl, hU⟩
                            | (rw [mk_toList, mk_toList, hta]; exact ⟨by simp, hU⟩)
                        · refine SO.call (seal_ok hr1 (by omega)) rfl body_30 ⟨(ev_t rfl), trivial⟩ rfl rfl rfl rfl ?_
                          rintro v w15 ⟨ho5, hu15⟩
                          have hs15 := hu15.size
                          replace hU := hU.fresh hu15 (by first | exact (fun _ h => h.elim) | (intro k hk; simp only [At, New, Grow, From, No] at hk; omega))
                          replace hr1 := hr1.upd hu15 (by first | (with_reducible assumption) | exact (fun h => h) | exact (fun _ _ _ h => h) | (simp only [At]; omega) | (intro k hk hl hS; simp only [At] at hS; subst hS; contradiction) | (intro k hk hl hS; simp only [At] at hS; subst hS; exact Grow.old (by omega) (by assumption) hk) | (intro k hk hl hS; (try simp only [At, From, No, Grow, New] at hk hS); omega))
                          replace ho1 := ho1.upd hu15 (by first | (with_reducible assumption) | exact (fun h => h) | exact (fun _ _ _ h => h) | (simp only [At]; omega) | (intro k hk hl hS; simp only [At] at hS; subst hS; contradiction) | (intro k hk hl hS; simp only [At] at hS; subst hS; exact Grow.old (by omega) (by assumption) hk) | (intro k hk hl hS; (try simp only [At, From, No, Grow, New] at hk hS); omega))
                          replace ho2 := ho2.upd hu15 (by first | (with_reducible assumption) | exact (fun h => h) | exact (fun _ _ _ h => h) | (simp only [At]; omega) | (intro k hk hl hS; simp only [At] at hS; subst hS; contradiction) | (intro k hk hl hS; simp only [At] at hS; subst hS; exact Grow.old (by omega) (by assumption) hk) | (intro k hk hl hS; (try simp only [At, From, No, Grow, New] at hk hS); omega))
                          obtain ⟨B5, k5, rfl, hk5⟩ := Own.form ho5
                          refine ⟨trivial, ?_⟩
                          refine WN.fork _ _ rfl rfl ?_ ?_
                          · refine SO.val rfl rfl rfl rfl (r_toStr rfl (ev_t rfl) (ho1.rd (by omega)) elem_37 int_5 str_9) ?_
                            refine ⟨trivial, ?_⟩
                            refine WN.step _ rfl (SO.val rfl rfl rfl rfl (r_toStr rfl (ev_t rfl) (ho5.rd (by omega)) elem_37 int_5 str_9) ?_)
                            refine ⟨trivial, ?_⟩
                            refine WN.calm _ rfl rfl rfl rfl rfl (fun _ => r_eqlStr rfl (ev_t rfl) (ev_t rfl)) ?_
                            refine WN.calm _ rfl rfl rfl rfl rfl (fun _ => r_pickF rfl (ev_t rfl) (ev_t rfl)) ?_
                            refine WN.calm _ rfl rfl rfl rfl rfl (fun _ => r_assign rfl (ev_t rfl)) ?_
                            refine WN.done ?_
                            refine WX.keep [(6, _)] ⟨rfl, trivial⟩ ?_
                            refine WX.next ?_
                            refine WC.ret ?_
                            refine WX.retE1 rfl rfl ?_
                            first
                              | exact ⟨rfl, hU⟩
                              | (rw [mk_toList, mk_toList, hta]; exact ⟨by simp, hU⟩)
                          · refine SO.val rfl rfl rfl rfl (r_toStr rfl (ev_t rfl) (ho5.rd (by omega)) elem_37 int_5 str_9) ?_
                            refine ⟨trivial, ?_⟩
                            refine WN.step _ rfl (SO.val rfl rfl rfl rfl (r_toStr rfl (ev_t rfl) (ho1.rd (by omega)) elem_37 int_5 str_9) ?_)
                            refine ⟨trivial, ?_⟩
                            refine WN.calm _ rfl rfl rfl rfl rfl (fun _ => r_eqlStr rfl (ev_t rfl) (ev_t rfl)) ?_
                            refine WN.calm _ rfl rfl rfl rfl rfl (fun _ => r_pickF rfl (ev_t rfl) (ev_t rfl)) ?_
                            refine WN.calm _ rfl rfl rfl rfl rfl (fun _ => r_assign rfl (ev_t rfl)) ?_
                            refine WN.done ?_
                            refine WX.keep [(6, _)] ⟨rfl, trivial⟩ ?_
                            refine WX.next ?_
                            refine WC.ret ?_
                            refine WX.retE1 rfl rfl ?_
                            first
                              | exact ⟨rfl, hU⟩
                              | (rw [mk_toList, mk_toList, hta]; exact ⟨by simp, hU⟩)
end Go.Proofs.Ytjiafgnibhgfbaa
