/-
  turtle: path.
-/
import Derived.Test.YtjiafgnibhgfbaaTurP
import Derived.Test.YtjiafgnibhgfbaaTpl
import Derived.Test.YtjiafgnibhgfbaaSeal
namespace Go.Proofs.Ytjiafgnibhgfbaa
open Go
set_option linter.unusedSimpArgs false
set_option linter.unusedVariables false

/-- what path tells -/
def pathR (l : List Mv) : List (Int × Int) × (Int × Int) × Nat :=
  if 1000 < l.length then ([], (0, 0), 2) else match goM l ts0 with
  | none => ([], (0, 0), 1)
  | some s => (s.out, s.look, 0)

/-- values and what they are -/
def CIs : List Value → List (Int × Int) → Prop
  | [], [] => True
  | v :: vs, p :: ps => CI v p ∧ CIs vs ps
  | _, _ => False
theorem CIs.snoc : ∀ {vs : List Value} {ps : List (Int × Int)} {v : Value} {p : Int × Int}, CIs vs ps → CI v p → CIs (vs ++ [v]) (ps ++ [p])
  | [], [], _, _, _, h => ⟨h, trivial⟩
  | [], _ :: _, _, _, h, _ => h.elim
  | _ :: _, [], _, _, h, _ => h.elim
  | _ :: _, _ :: _, _, _, h, h' => ⟨h.1, CIs.snoc h.2 h'⟩
theorem CI.zero : CI (.complex .f64 0 0) (0, 0) := ⟨_, _, rfl, zero_FI, zero_FI⟩
theorem CI.one : ∀ {v : Value} {p : Int × Int}, CI v p → v.oneCell' = true := fun ⟨_, _, h, _⟩ => by subst h; rfl

theorem goM_none {l : List Mv} {i : Nat} {s0 : TS} (h : goM (l.take i) s0 = none) : goM l s0 = none := by
  have h1 := goM_append (l.take i) (l.drop i) s0
  rw [List.take_append_drop, h] at h1
  exact h1

theorem path_ok {w : World} {F : Nat → Prop} {lv : Value} {n : Nat} {l : List Mv} (hr : Rd w F lv n 2 (movC l)) (hN : ∀ m ∈ l, inK .i64 m.2) :
    Ret Try.prog 52 #[lv] w fun v' w' => ∃ u c vs, v' = .tuple #[u, c, .int .i64 ((pathR l).2.2 : Int)] ∧ CI c (pathR l).2.1 ∧ Own w' (New w w') 90 1 u (pathR l).1.length vs ∧ CIs vs (pathR l).1 ∧ Upd No w w' := by
  obtain ⟨A, c, rfl, hle⟩ := hr.slice_form
  have hn : l.length = n := by
    have h1 := hr.len
    rw [movC_length] at h1
    omega
  subst hn
  replace hr := hr.bound
  refine enterRet (vs := [_]) (N := 54) Try.func52 rfl rfl rfl ?_
  have hU := Upd.refl No w
  refine WC.keep [(0, _)] ⟨rfl, trivial⟩ ?_
  refine WC.seq ?_
  -- region 0 turtle.go:15
  refine WC.region ?_
  refine WL.val rfl rfl rfl rfl (r_assign rfl ev_c) ?_
  refine WL.val rfl rfl rfl rfl (r_assign rfl ev_c) ?_
  refine WL.val rfl rfl rfl rfl (r_assign rfl ev_c) ?_
  refine WL.nil ?_
  refine WX.keep [(0, _)] ⟨rfl, trivial⟩ ?_
  refine WX.next ?_
  refine WC.seq ?_
  refine WC.seq ?_
  -- region 1 turtle.go:16
  refine WC.region ?_
  refine WL.val rfl rfl rfl rfl (r_move rfl (ev_t rfl)) ?_
  refine WL.val rfl rfl rfl rfl (r_lenSlice (ts := #[]) rfl (ev_t rfl) elem_22) ?_
  refine WL.val rfl rfl rfl rfl (r_gtr rfl (ev_t rfl) ev_c) ?_
  refine WL.nil ?_
  refine WX.keep [(0, _), (12, _)] ⟨rfl, rfl, trivial⟩ ?_
  refine WX.next ?_
  refine WC.cond rfl (ev_t rfl) (fun hc1 => ?_) (fun hc1 => ?_)
  · try (exfalso; first | (simp at hc1; done) | (simp only [decide_eq_true_eq, decide_eq_false_iff_not, Bool.not_eq_true', Bool.not_eq_false', Bool.not_eq_true, Bool.not_eq_false] at hc1; omega) | omega)
    all_goals
      try simp only [decide_eq_true_eq, decide_eq_false_iff_not, Bool.not_eq_true', Bool.not_eq_false', Bool.not_eq_true, Bool.not_eq_false, Option.isNone_none, Option.isNone_some, Option.isSome_none, Option.isSome_some, ne_eq, Decidable.not_not] at hc1
      refine WC.seq ?_
      -- region 2 turtle.go:17
      refine WC.region ?_
      refine WL.val rfl rfl rfl rfl (r_assign rfl ev_c) ?_
      refine WL.val rfl rfl rfl rfl (r_assign rfl ev_c) ?_
      refine WL.val rfl rfl rfl rfl (r_assign rfl ev_c) ?_
      refine WL.nil ?_
      refine WX.keep [(2, _), (3, _), (4, _)] ⟨rfl, rfl, rfl, trivial⟩ ?_
      refine WX.next ?_
      refine WC.ret ?_
      refine WX.thenRet ?_
      refine WX.retE (l := [.tmp 2, .tmp 3, .tmp 4]) (vs := [_, _, _]) rfl ⟨rfl, rfl, rfl, trivial⟩ ?_
      have hp : pathR l = ([], (0, 0), 2) := by unfold pathR; rw [if_pos (by omega)]
      rw [hp]
      exact ⟨_, _, [], rfl, CI.zero, Own.nil _ _ _ _, trivial, hU⟩
  · try (exfalso; first | (simp at hc1; done) | (simp only [decide_eq_true_eq, decide_eq_false_iff_not, Bool.not_eq_true', Bool.not_eq_false', Bool.not_eq_true, Bool.not_eq_false] at hc1; omega) | omega)
    all_goals
      try simp only [decide_eq_true_eq, decide_eq_false_iff_not, Bool.not_eq_true', Bool.not_eq_false', Bool.not_eq_true, Bool.not_eq_false, Option.isNone_none, Option.isNone_some, Option.isSome_none, Option.isSome_some, ne_eq, Decidable.not_not] at hc1
      refine WC.skip ?_
      refine WX.next ?_
      refine WC.seq ?_
      -- region 3 turtle.go:19
      refine WC.region ?_
      refine WL.val rfl rfl rfl rfl (r_assign rfl ev_c) ?_
      refine WL.val rfl rfl rfl rfl (r_assign rfl ev_c) ?_
      refine WL.nil ?_
      refine WX.keep [(0, _), (5, _), (6, _)] ⟨rfl, rfl, rfl, trivial⟩ ?_
      refine WX.next ?_
      refine WC.seq ?_
      -- region 4 turtle.go:20
      refine WC.region ?_
      refine WL.val rfl rfl rfl rfl (r_move rfl (ev_t rfl)) ?_
      refine WL.cons (SO.alloc rfl rfl rfl rfl (r_buildSlice1 (vs := [_]) rfl ⟨(ev_t rfl), trivial⟩ rfl row_89 rfl rfl) ?_)
      intro w1 hu1 hB1 hz1
      have hs1 := hu1.size
      replace hU := hU.trans hu1 (by first | exact (fun _ _ h => h) | exact (fun _ _ h => h.elim) | (intro k hl hk; (try simp only [At, New, Grow, From, No] at hk ⊢); omega))
      replace hr := hr.upd hu1 (by first | (with_reducible assumption) | exact (fun h => h) | exact (fun _ _ _ h => h) | (simp only [At]; omega) | (simp only [At, New, Grow, From, No]; omega) | (intro k hk hl hS; simp only [At] at hS; subst hS; contradiction) | (intro k hk hl hS; simp only [At] at hS; subst hS; exact Grow.old (by omega) (by assumption) hk) | (intro k hk hl hS; (try simp only [At, From, No, Grow, New] at hk hS); omega))
      refine WL.val rfl rfl rfl rfl (r_assign rfl (ev_t rfl)) ?_
      refine WL.nil ?_
      refine WX.keep [(0, _), (5, _), (6, _), (7, _)] ⟨rfl, rfl, rfl, rfl, trivial⟩ ?_
      have ho := Own.of_blk (F := New w w1) (n := 1) (sz := 1) hB1 ⟨by omega, by omega⟩ rfl (le_maxLen (by omega))
      refine WX.next ?_
      refine WC.seq ?_
      refine WC.seq ?_
      -- region 5 turtle.go:21
      refine WC.region ?_
      refine WL.val rfl rfl rfl rfl (r_move rfl (ev_t rfl)) ?_
      refine WL.val rfl rfl rfl rfl (r_lenSlice (ts := #[]) rfl (ev_t rfl) elem_22) ?_
      refine WL.val rfl rfl rfl rfl (r_move rfl ev_c) ?_
      refine WL.nil ?_
      refine WX.keep [(5, _), (6, _), (7, _), (15, _), (16, _), (17, _)] ⟨rfl, rfl, rfl, rfl, rfl, rfl, trivial⟩ ?_
      refine WX.next ?_
      refine WC.block ?_
      -- loop 1: live [5, 6, 7, 15, 16, 17]
      refine WC.keep [(5, _), (6, _), (7, _), (15, _), (16, _), (17, _)] ⟨rfl, rfl, rfl, rfl, rfl, rfl, trivial⟩ ?_
      refine WC.loop (fun q E w' => ∃ (i : Nat) (s : TS) (va vl : Value) (vs : List Value) (A7 : Option Addr) (c7 L : Nat), i ≤ l.length ∧ q = l.length - i ∧ Upd No w w' ∧ goM (l.take i) ts0 = some s ∧ Fine i s ∧ CI va s.pos ∧ CI vl s.look ∧ L = s.out.length ∧ Own w' (New w w') 90 1 (.slice A7 L c7) L vs ∧ CIs vs s.out ∧   Rd w' (fun k => F k ∧ k < w.heap.size) (.slice A l.length c) l.length 2 (movC l) ∧ E = [(5, va), (6, vl), (7, .slice A7 L c7), (15, .slice A l.length c), (16, .int .i64 (l.length : Int)), (17, .int .i64 (i : Int))]) (l.length) ?_ ?_
      · exact ⟨0, ts0, _, _, _, _, _, 1, by omega, by omega, hU, rfl, fine0, CI.zero, ⟨_, _, rfl, zero_FI, one_FI⟩, rfl, ho, ⟨CI.zero, trivial⟩, hr, rfl⟩
      · rintro q E w' ⟨i, s, va, vl, vs, A7, c7, L, hi, rfl, hU, hg, hf, hva, hvl, hL, ho, hcs, hr, rfl⟩
        have hs0 := hU.size
        refine WC.seq ?_
        -- region 6 turtle.go:21
        refine WC.region ?_
        refine WL.val rfl rfl rfl rfl (r_lss rfl (ev_t rfl) (ev_t rfl)) ?_
        refine WL.nil ?_
        refine WX.keep [(5, _), (6, _), (7, _), (15, _), (16, _), (17, _), (18, _)] ⟨rfl, rfl, rfl, rfl, rfl, rfl, rfl, trivial⟩ ?_
        refine WX.next ?_
        refine WC.seq ?_
        refine WC.cond rfl (ev_t rfl) (fun hc6 => ?_) (fun hc6 => ?_)
        · try (exfalso; first | (simp at hc6; done) | (simp only [decide_eq_true_eq, decide_eq_false_iff_not, Bool.not_eq_true', Bool.not_eq_false', Bool.not_eq_true, Bool.not_eq_false] at hc6; omega) | omega)
          all_goals
            try simp only [decide_eq_true_eq, decide_eq_false_iff_not, Bool.not_eq_true', Bool.not_eq_false', Bool.not_eq_true, Bool.not_eq_false, Option.isNone_none, Option.isNone_some, Option.isSome_none, Option.isSome_some, ne_eq, Decidable.not_not] at hc6
            have hi' : i < l.length := by omega
            obtain ⟨b, off, rfl, _⟩ := hr.open (by omega)
            have hgs := goM_take_succ hi' ts0
            rw [hg, Option.bind_some] at hgs
            have hcm := movC_get (l := l) (i := i) (m := l[i]) (List.getElem?_eq_getElem hi')
            have hNn := hN l[i] (List.getElem_mem hi')
            generalize l[i] = m at hcm hNn hgs
            obtain ⟨tr, n⟩ := m
            simp only [inK] at hNn
            have hfu := hf.u
            have hfx := hf.x
            have hfy := hf.y
            have hfl := hf.len
            refine WC.skip ?_
            refine WX.next ?_
            refine WC.seq ?_
            refine WC.block ?_
            refine WC.seq ?_
            -- region 7 turtle.go:21
            refine WC.region ?_
            refine WL.val rfl rfl rfl rfl (r_indexAddr rfl (ev_t rfl) (ev_t rfl) elem_22 size_26 (by omega) (by omega)) ?_
            refine WL.val rfl rfl rfl rfl (r_loadAgg (vs := [_, _]) rfl (ev_t rfl) agg_26 size_26 (hr.cells2 (i := i) hcm.1 hcm.2 (by omega))) ?_
            refine WL.cons (SO.alloc rfl rfl rfl rfl (r_alloc rfl zero_26) ?_)
            intro w2 hu2 hB2 hz2
            have hs2 := hu2.size
            replace hU := hU.trans hu2 (by first | exact (fun _ _ h => h) | exact (fun _ _ h => h.elim) | (intro k hl hk; (try simp only [At, New, Grow, From, No] at hk ⊢); omega))
            replace hr := hr.upd hu2 (by first | (with_reducible assumption) | exact (fun h => h) | exact (fun _ _ _ h => h) | (simp only [At]; omega) | (simp only [At, New, Grow, From, No]; omega) | (intro k hk hl hS; simp only [At] at hS; subst hS; contradiction) | (intro k hk hl hS; simp only [At] at hS; subst hS; exact Grow.old (by omega) (by assumption) hk) | (intro k hk hl hS; (try simp only [At, From, No, Grow, New] at hk hS); omega))
            replace ho := ho.upd hu2 (by first | (with_reducible assumption) | exact (fun h => h) | exact (fun _ _ _ h => h) | (simp only [At]; omega) | (simp only [At, New, Grow, From, No]; omega) | (intro k hk hl hS; simp only [At] at hS; subst hS; contradiction) | (intro k hk hl hS; simp only [At] at hS; subst hS; exact Grow.old (by omega) (by assumption) hk) | (intro k hk hl hS; (try simp only [At, From, No, Grow, New] at hk hS); omega))
            refine WL.cons (SO.store2 rfl (ev_t rfl) (ev_t rfl) size_26 hB2 rfl rfl rfl rfl rfl rfl ?_)
            intro w3 hu3 hB2 hz3
            have hs3 := hu3.size
            replace hU := hU.trans hu3 (by first | exact (fun _ _ h => h) | exact (fun _ _ h => h.elim) | (intro k hl hk; (try simp only [At, New, Grow, From, No] at hk ⊢); omega))
            replace hr := hr.upd hu3 (by first | (with_reducible assumption) | exact (fun h => h) | exact (fun _ _ _ h => h) | (simp only [At]; omega) | (simp only [At, New, Grow, From, No]; omega) | (intro k hk hl hS; simp only [At] at hS; subst hS; contradiction) | (intro k hk hl hS; simp only [At] at hS; subst hS; exact Grow.old (by omega) (by assumption) hk) | (intro k hk hl hS; (try simp only [At, From, No, Grow, New] at hk hS); omega))
            replace ho := ho.upd hu3 (by first | (with_reducible assumption) | exact (fun h => h) | exact (fun _ _ _ h => h) | (simp only [At]; omega) | (simp only [At, New, Grow, From, No]; omega) | (intro k hk hl hS; simp only [At] at hS; subst hS; contradiction) | (intro k hk hl hS; simp only [At] at hS; subst hS; exact Grow.old (by omega) (by assumption) hk) | (intro k hk hl hS; (try simp only [At, From, No, Grow, New] at hk hS); omega))
            refine WL.nil ?_
            refine WX.keep [(5, _), (6, _), (7, _), (9, _), (15, _), (16, _), (17, _)] ⟨rfl, rfl, rfl, rfl, rfl, rfl, rfl, trivial⟩ ?_
            refine WX.next ?_
            refine WC.seq ?_
            refine WC.seq ?_
            -- region 8 turtle.go:22
            refine WC.region ?_
            first | refine WL.val rfl rfl rfl rfl (r_field0 rfl (ev_t rfl) fld_26_0) ?_ | refine WL.val rfl rfl rfl rfl (r_fieldAt rfl (ev_t rfl) fld_26_0) ?_
            refine WL.val rfl rfl rfl rfl (r_load rfl (ev_t rfl) flat_4 (Blk.cell hB2 rfl)) ?_
            refine WL.nil ?_
            refine WX.keep [(5, _), (6, _), (7, _), (9, _), (15, _), (16, _), (17, _), (22, _)] ⟨rfl, rfl, rfl, rfl, rfl, rfl, rfl, rfl, trivial⟩ ?_
            refine WX.next ?_
            refine WC.cond rfl (ev_t rfl) (fun hc8 => ?_) (fun hc8 => ?_)
            · try (exfalso; first | (simp at hc8; done) | (simp only [decide_eq_true_eq, decide_eq_false_iff_not, Bool.not_eq_true', Bool.not_eq_false', Bool.not_eq_true, Bool.not_eq_false] at hc8; omega) | omega)
              all_goals
                try simp only [decide_eq_true_eq, decide_eq_false_iff_not, Bool.not_eq_true', Bool.not_eq_false', Bool.not_eq_true, Bool.not_eq_false, Option.isNone_none, Option.isNone_some, Option.isSome_none, Option.isSome_some, ne_eq, Decidable.not_not] at hc8
                refine WC.seq ?_
                refine WC.seq ?_
                -- region 9 turtle.go:23
                refine WC.region ?_
                first | refine WL.val rfl rfl rfl rfl (r_field0 rfl (ev_t rfl) fld_26_1) ?_ | refine WL.val rfl rfl rfl rfl (r_fieldAt rfl (ev_t rfl) fld_26_1) ?_
                refine WL.val rfl rfl rfl rfl (r_load rfl (ev_t rfl) flat_2 (Blk.cell hB2 rfl)) ?_
                refine WL.val rfl rfl rfl rfl (r_and rfl (ev_t rfl) ev_c) ?_
                rw [bits_and3 hNn.1 hNn.2]
                refine WL.val rfl rfl rfl rfl (r_move rfl ev_c) ?_
                refine WL.nil ?_
                refine WX.keep [(5, _), (6, _), (7, _), (15, _), (16, _), (17, _), (25, _), (26, _)] ⟨rfl, rfl, rfl, rfl, rfl, rfl, rfl, rfl, trivial⟩ ?_
                refine WX.next ?_
                refine WC.block ?_
                -- loop 2: live [5, 6, 7, 15, 16, 17, 25, 26]
                refine WC.keep [(5, _), (6, _), (7, _), (15, _), (16, _), (17, _), (25, _), (26, _)] ⟨rfl, rfl, rfl, rfl, rfl, rfl, rfl, rfl, trivial⟩ ?_
                refine WC.loop (fun q2 E w2 => ∃ (j : Nat) (vl2 : Value), j ≤ (n % 4).toNat ∧ q2 = (n % 4).toNat - j ∧ w3 = w2 ∧ CI vl2 (rotN j s.look) ∧ E = [(5, va), (6, vl2), (7, .slice A7 L c7), (15, .slice (some ⟨b, off, none⟩) l.length c), (16, .int .i64 (l.length : Int)), (17, .int .i64 (i : Int)), (25, .int .i64 (n % 4)), (26, .int .i64 (j : Int))]) ((n % 4).toNat) ?_ ?_
                · exact ⟨0, vl, by omega, by omega, rfl, hvl, rfl⟩
                · rintro q2 E w2 ⟨j, vl2, hj, rfl, rfl, hvl2, rfl⟩
                  refine WC.seq ?_
                  -- region 10 turtle.go:23
                  refine WC.region ?_
                  refine WL.val rfl rfl rfl rfl (r_lss rfl (ev_t rfl) (ev_t rfl)) ?_
                  refine WL.nil ?_
                  refine WX.keep [(5, _), (6, _), (7, _), (15, _), (16, _), (17, _), (25, _), (26, _), (27, _)] ⟨rfl, rfl, rfl, rfl, rfl, rfl, rfl, rfl, rfl, trivial⟩ ?_
                  refine WX.next ?_
                  refine WC.seq ?_
                  refine WC.cond rfl (ev_t rfl) (fun hc10 => ?_) (fun hc10 => ?_)
                  · try (exfalso; first | (simp at hc10; done) | (simp only [decide_eq_true_eq, decide_eq_false_iff_not, Bool.not_eq_true', Bool.not_eq_false', Bool.not_eq_true, Bool.not_eq_false] at hc10; omega) | omega)
                    all_goals
                      try simp only [decide_eq_true_eq, decide_eq_false_iff_not, Bool.not_eq_true', Bool.not_eq_false', Bool.not_eq_true, Bool.not_eq_false, Option.isNone_none, Option.isNone_some, Option.isSome_none, Option.isSome_some, ne_eq, Decidable.not_not] at hc10
                      refine WC.skip ?_
                      refine WX.next ?_
                      refine WC.seq ?_
                      refine WC.block ?_
                      have hu2 := unit_rotN hfu j
                      unfold unit at hu2
                      obtain ⟨a2, b2, rfl, fa, fb⟩ := hvl2
                      obtain ⟨re, im, hmul, fre, fim⟩ := cMul_FI fa fb zero_FI one_FI (by omega) (by omega) (by omega) (by omega) (by omega) (by omega)
                      -- region 11 turtle.go:24
                      refine WC.region ?_
                      refine WL.val rfl rfl rfl rfl (r_move rfl (ev_t rfl)) ?_
                      refine WL.val rfl rfl rfl rfl (r_cmul rfl (ev_t rfl) ev_c hmul) ?_
                      refine WL.val rfl rfl rfl rfl (r_assign rfl (ev_t rfl)) ?_
                      refine WL.nil ?_
                      refine WX.keep [(5, _), (6, _), (7, _), (15, _), (16, _), (17, _), (25, _), (26, _)] ⟨rfl, rfl, rfl, rfl, rfl, rfl, rfl, rfl, trivial⟩ ?_
                      refine WX.blockNormal ?_
                      refine WX.next ?_
                      -- region 12 turtle.go:23
                      refine WC.region ?_
                      first | refine WL.val rfl rfl rfl rfl (r_addN rfl (ev_t rfl) ev_c (by simp only [inK]; omega)) ?_ | refine WL.val rfl rfl rfl rfl (r_add rfl (ev_t rfl) ev_c) ?_
                      refine WL.val rfl rfl rfl rfl (r_move rfl (ev_t rfl)) ?_
                      refine WL.nil ?_
                      refine WX.keep [(5, _), (6, _), (7, _), (15, _), (16, _), (17, _), (25, _), (26, _)] ⟨rfl, rfl, rfl, rfl, rfl, rfl, rfl, rfl, trivial⟩ ?_
                      refine WX.meet [(5, _), (6, _), (7, _), (15, _), (16, _), (17, _), (25, _), (26, _)] ⟨rfl, rfl, rfl, rfl, rfl, rfl, rfl, rfl, trivial⟩ ?_
                      rw [show (rotN j s.look).1 * 0 - (rotN j s.look).2 * 1 = -(rotN j s.look).2 by omega] at fre
                      rw [show (rotN j s.look).1 * 1 + (rotN j s.look).2 * 0 = (rotN j s.look).1 by omega] at fim
                      exact ⟨(n % 4).toNat - (j + 1), by omega, j + 1, _, by omega, rfl, rfl, ⟨_, _, rfl, fre, fim⟩, rfl⟩
                  · try (exfalso; first | (simp at hc10; done) | (simp only [decide_eq_true_eq, decide_eq_false_iff_not, Bool.not_eq_true', Bool.not_eq_false', Bool.not_eq_true, Bool.not_eq_false] at hc10; omega) | omega)
                    all_goals
                      try simp only [decide_eq_true_eq, decide_eq_false_iff_not, Bool.not_eq_true', Bool.not_eq_false', Bool.not_eq_true, Bool.not_eq_false, Option.isNone_none, Option.isNone_some, Option.isSome_none, Option.isSome_some, ne_eq, Decidable.not_not] at hc10
                      obtain rfl : j = (n % 4).toNat := by omega
                      have hst : stepM s (tr, n) = some { s with look := rotN (n % 4).toNat s.look } := by
                        unfold stepM
                        rw [if_pos hc8]
                      have hfin : ∃ s' : TS, stepM s (tr, n) = some s' ∧ CI va s'.pos ∧ CI vl2 s'.look ∧ L = s'.out.length ∧ Own w3 (New w w3) 90 1 (.slice A7 L c7) L vs ∧ CIs vs s'.out := ⟨_, hst, hva, hvl2, hL, ho.mono (fun k hk => ⟨hk.1, by have := hk.2; omega⟩), hcs⟩
                      refine WC.exit ?_
                      refine WX.thenExit ?_
                      refine WX.thenExit ?_
                      refine WX.blockHere ?_
                      refine WX.next ?_
                      refine WC.exit ?_
                      refine WX.thenExit ?_
                      refine WX.blockHere ?_
                      refine WX.next ?_
                      -- region 17 turtle.go:21
                      refine WC.region ?_
                      first | refine WL.val rfl rfl rfl rfl (r_addN rfl (ev_t rfl) ev_c (by simp only [inK]; omega)) ?_ | refine WL.val rfl rfl rfl rfl (r_add rfl (ev_t rfl) ev_c) ?_
                      refine WL.val rfl rfl rfl rfl (r_move rfl (ev_t rfl)) ?_
                      refine WL.nil ?_
                      refine WX.keep [(5, _), (6, _), (7, _), (15, _), (16, _), (17, _)] ⟨rfl, rfl, rfl, rfl, rfl, rfl, trivial⟩ ?_
                      refine WX.meet [(5, _), (6, _), (7, _), (15, _), (16, _), (17, _)] ⟨rfl, rfl, rfl, rfl, rfl, rfl, trivial⟩ ?_
                      obtain ⟨s', g1, g2, g3, g4, g5, g6⟩ := hfin
                      exact ⟨l.length - (i + 1), by omega, i + 1, s', _, _, _, _, _, _, by omega, rfl, hU, hgs.trans g1, fine_step hf g1, g2, g3, g4, g5, g6, hr, rfl⟩
            · try (exfalso; first | (simp at hc8; done) | (simp only [decide_eq_true_eq, decide_eq_false_iff_not, Bool.not_eq_true', Bool.not_eq_false', Bool.not_eq_true, Bool.not_eq_false] at hc8; omega) | omega)
              all_goals
                try simp only [decide_eq_true_eq, decide_eq_false_iff_not, Bool.not_eq_true', Bool.not_eq_false', Bool.not_eq_true, Bool.not_eq_false, Option.isNone_none, Option.isNone_some, Option.isSome_none, Option.isSome_some, ne_eq, Decidable.not_not] at hc8
                have hc8' : ¬ tr = true := by rw [hc8]; simp
                refine WC.skip ?_
                refine WX.next ?_
                refine WC.seq ?_
                refine WC.seq ?_
                -- region 13 turtle.go:28
                refine WC.region ?_
                first | refine WL.val rfl rfl rfl rfl (r_field0 rfl (ev_t rfl) fld_26_1) ?_ | refine WL.val rfl rfl rfl rfl (r_fieldAt rfl (ev_t rfl) fld_26_1) ?_
                refine WL.val rfl rfl rfl rfl (r_load rfl (ev_t rfl) flat_2 (Blk.cell hB2 rfl)) ?_
                refine WL.val rfl rfl rfl rfl (r_lss rfl (ev_t rfl) ev_c) ?_
                refine WL.val rfl rfl rfl rfl (r_move rfl (ev_t rfl)) ?_
                refine WL.cases 34 rfl (fun hb13_3 => ?_) (fun hb13_3 => ?_)
                · try (exfalso; first | (simp at hb13_3; done) | (simp only [decide_eq_true_eq, decide_eq_false_iff_not, Bool.not_eq_true', Bool.not_eq_false', Bool.not_eq_true, Bool.not_eq_false] at hb13_3; omega) | omega)
                  all_goals
                    try simp only [decide_eq_true_eq, decide_eq_false_iff_not, Bool.not_eq_true', Bool.not_eq_false', Bool.not_eq_true, Bool.not_eq_false, Option.isNone_none, Option.isNone_some, Option.isSome_none, Option.isSome_some, ne_eq, Decidable.not_not] at hb13_3
                    refine WL.skip rfl rfl rfl ?_
                    refine WL.skip rfl rfl rfl ?_
                    refine WL.skip rfl rfl rfl ?_
                    refine WL.val rfl rfl rfl rfl (r_pickT rfl (ev_t rfl) ev_c) ?_
                    refine WL.nil ?_
                    refine WX.keep [(5, _), (6, _), (7, _), (9, _), (15, _), (16, _), (17, _), (38, _)] ⟨rfl, rfl, rfl, rfl, rfl, rfl, rfl, rfl, trivial⟩ ?_
                    refine WX.next ?_
                    refine WC.cond_true rfl (ev_t rfl) ?_
                    refine WC.seq ?_
                    -- region 14 turtle.go:29
                    refine WC.region ?_
                    refine WL.val rfl rfl rfl rfl (r_assign rfl ev_c) ?_
                    refine WL.val rfl rfl rfl rfl (r_assign rfl ev_c) ?_
                    refine WL.val rfl rfl rfl rfl (r_assign rfl ev_c) ?_
                    refine WL.nil ?_
                    refine WX.keep [(2, _), (3, _), (4, _)] ⟨rfl, rfl, rfl, trivial⟩ ?_
                    refine WX.next ?_
                    refine WC.ret ?_
                    refine WX.thenRet ?_
                    refine WX.blockRet ?_
                    refine WX.thenRet ?_
                    refine WX.thenRet ?_
                    refine WX.blockRet ?_
                    refine WX.thenRet ?_
                    refine WX.retE (l := [.tmp 2, .tmp 3, .tmp 4]) (vs := [_, _, _]) rfl ⟨rfl, rfl, rfl, trivial⟩ ?_
                    have hst : stepM s (tr, n) = none := by
                      unfold stepM
                      rw [if_neg hc8', if_pos (by simp only; omega)]
                    have hp : pathR l = ([], (0, 0), 1) := by unfold pathR; rw [if_neg (by omega), goM_none (hgs.trans hst)]
                    rw [hp]
                    exact ⟨_, _, [], rfl, CI.zero, Own.nil _ _ _ _, trivial, hU⟩
                · try (exfalso; first | (simp at hb13_3; done) | (simp only [decide_eq_true_eq, decide_eq_false_iff_not, Bool.not_eq_true', Bool.not_eq_false', Bool.not_eq_true, Bool.not_eq_false] at hb13_3; omega) | omega)
                  all_goals
                    try simp only [decide_eq_true_eq, decide_eq_false_iff_not, Bool.not_eq_true', Bool.not_eq_false', Bool.not_eq_true, Bool.not_eq_false, Option.isNone_none, Option.isNone_some, Option.isSome_none, Option.isSome_some, ne_eq, Decidable.not_not] at hb13_3
                    first | refine WL.val rfl rfl rfl rfl (r_field0 rfl (ev_t rfl) fld_26_1) ?_ | refine WL.val rfl rfl rfl rfl (r_fieldAt rfl (ev_t rfl) fld_26_1) ?_
                    refine WL.val rfl rfl rfl rfl (r_load rfl (ev_t rfl) flat_2 (Blk.cell hB2 rfl)) ?_
                    refine WL.val rfl rfl rfl rfl (r_gtr rfl (ev_t rfl) ev_c) ?_
                    refine WL.val rfl rfl rfl rfl (r_pickF rfl (ev_t rfl) (ev_t rfl)) ?_
                    refine WL.nil ?_
                    refine WX.keep [(5, _), (6, _), (7, _), (9, _), (15, _), (16, _), (17, _), (38, _)] ⟨rfl, rfl, rfl, rfl, rfl, rfl, rfl, rfl, trivial⟩ ?_
                    refine WX.next ?_
                    refine WC.cond rfl (ev_t rfl) (fun hc13 => ?_) (fun hc13 => ?_)
                    · try (exfalso; first | (simp at hc13; done) | (simp only [decide_eq_true_eq, decide_eq_false_iff_not, Bool.not_eq_true', Bool.not_eq_false', Bool.not_eq_true, Bool.not_eq_false] at hc13; omega) | omega)
                      all_goals
                        try simp only [decide_eq_true_eq, decide_eq_false_iff_not, Bool.not_eq_true', Bool.not_eq_false', Bool.not_eq_true, Bool.not_eq_false, Option.isNone_none, Option.isNone_some, Option.isSome_none, Option.isSome_some, ne_eq, Decidable.not_not] at hc13
                        refine WC.seq ?_
                        -- region 14 turtle.go:29
                        refine WC.region ?_
                        refine WL.val rfl rfl rfl rfl (r_assign rfl ev_c) ?_
                        refine WL.val rfl rfl rfl rfl (r_assign rfl ev_c) ?_
                        refine WL.val rfl rfl rfl rfl (r_assign rfl ev_c) ?_
                        refine WL.nil ?_
                        refine WX.keep [(2, _), (3, _), (4, _)] ⟨rfl, rfl, rfl, trivial⟩ ?_
                        refine WX.next ?_
                        refine WC.ret ?_
                        refine WX.thenRet ?_
                        refine WX.blockRet ?_
                        refine WX.thenRet ?_
                        refine WX.thenRet ?_
                        refine WX.blockRet ?_
                        refine WX.thenRet ?_
                        refine WX.retE (l := [.tmp 2, .tmp 3, .tmp 4]) (vs := [_, _, _]) rfl ⟨rfl, rfl, rfl, trivial⟩ ?_
                        have hst : stepM s (tr, n) = none := by
                          unfold stepM
                          rw [if_neg hc8', if_pos (by simp only; omega)]
                        have hp : pathR l = ([], (0, 0), 1) := by unfold pathR; rw [if_neg (by omega), goM_none (hgs.trans hst)]
                        rw [hp]
                        exact ⟨_, _, [], rfl, CI.zero, Own.nil _ _ _ _, trivial, hU⟩
                    · try (exfalso; first | (simp at hc13; done) | (simp only [decide_eq_true_eq, decide_eq_false_iff_not, Bool.not_eq_true', Bool.not_eq_false', Bool.not_eq_true, Bool.not_eq_false] at hc13; omega) | omega)
                      all_goals
                        try simp only [decide_eq_true_eq, decide_eq_false_iff_not, Bool.not_eq_true', Bool.not_eq_false', Bool.not_eq_true, Bool.not_eq_false, Option.isNone_none, Option.isNone_some, Option.isSome_none, Option.isSome_some, ne_eq, Decidable.not_not] at hc13
                        refine WC.skip ?_
                        refine WX.next ?_
                        refine WC.seq ?_
                        obtain ⟨a1, b1, rfl, fa, fb⟩ := hvl
                        obtain ⟨a2, b2, rfl, ga, gb⟩ := hva
                        have hum := unit_mul hfu (n := n) (by omega) (by omega)
                        have fn := ofInt_FI (a := n) (by omega)
                        obtain ⟨re, im, hmul, fre, fim⟩ := cMul_FI fa fb fn zero_FI (by omega) (by omega) (by omega) (by omega) (by omega) (by omega)
                        obtain ⟨re2, im2, hsum, hre2, him2⟩ := cSum_FI ga gb fre fim (by omega) (by omega)
                        rw [show s.pos.1 + (s.look.1 * n - s.look.2 * 0) = s.pos.1 + s.look.1 * n by omega] at hre2
                        rw [show s.pos.2 + (s.look.1 * 0 + s.look.2 * n) = s.pos.2 + s.look.2 * n by omega] at him2
                        -- region 15 turtle.go:31
                        refine WC.region ?_
                        refine WL.val rfl rfl rfl rfl (r_move rfl (ev_t rfl)) ?_
                        refine WL.val rfl rfl rfl rfl (r_move rfl (ev_t rfl)) ?_
                        first | refine WL.val rfl rfl rfl rfl (r_field0 rfl (ev_t rfl) fld_26_1) ?_ | refine WL.val rfl rfl rfl rfl (r_fieldAt rfl (ev_t rfl) fld_26_1) ?_
                        refine WL.val rfl rfl rfl rfl (r_load rfl (ev_t rfl) flat_2 (Blk.cell hB2 rfl)) ?_
                        refine WL.val rfl rfl rfl rfl (r_itof rfl (ev_t rfl) (by kernel_rfl) Try.underlying97) ?_
                        refine WL.val rfl rfl rfl rfl (r_complexB rfl (ev_t rfl) ev_c) ?_
                        refine WL.val rfl rfl rfl rfl (r_cmul rfl (ev_t rfl) (ev_t rfl) hmul) ?_
                        refine WL.val rfl rfl rfl rfl (r_cadd rfl (ev_t rfl) (ev_t rfl) hsum) ?_
                        refine WL.val rfl rfl rfl rfl (r_assign rfl (ev_t rfl)) ?_
                        refine WL.nil ?_
                        refine WX.keep [(5, _), (6, _), (7, _), (15, _), (16, _), (17, _)] ⟨rfl, rfl, rfl, rfl, rfl, rfl, trivial⟩ ?_
                        refine WX.next ?_
                        -- region 16 turtle.go:32
                        refine WC.region ?_
                        refine WL.val rfl rfl rfl rfl (r_move rfl (ev_t rfl)) ?_
                        refine WL.val rfl rfl rfl rfl (r_move rfl (ev_t rfl)) ?_
                        refine WL.cons (SO.alloc rfl rfl rfl rfl (r_buildSlice1 (vs := [_]) rfl ⟨(ev_t rfl), trivial⟩ rfl row_89 rfl rfl) ?_)
                        intro w4 hu4 hB4 hz4
                        have hs4 := hu4.size
                        replace hU := hU.trans hu4 (by first | exact (fun _ _ h => h) | exact (fun _ _ h => h.elim) | (intro k hl hk; (try simp only [At, New, Grow, From, No] at hk ⊢); omega))
                        replace hr := hr.upd hu4 (by first | (with_reducible assumption) | exact (fun h => h) | exact (fun _ _ _ h => h) | (simp only [At]; omega) | (simp only [At, New, Grow, From, No]; omega) | (intro k hk hl hS; simp only [At] at hS; subst hS; contradiction) | (intro k hk hl hS; simp only [At] at hS; subst hS; exact Grow.old (by omega) (by assumption) hk) | (intro k hk hl hS; (try simp only [At, From, No, Grow, New] at hk hS); omega))
                        replace ho := ho.upd hu4 (by first | (with_reducible assumption) | exact (fun h => h) | exact (fun _ _ _ h => h) | (simp only [At]; omega) | (simp only [At, New, Grow, From, No]; omega) | (intro k hk hl hS; simp only [At] at hS; subst hS; contradiction) | (intro k hk hl hS; simp only [At] at hS; subst hS; exact Grow.old (by omega) (by assumption) hk) | (intro k hk hl hS; (try simp only [At, From, No, Grow, New] at hk hS); omega))
                        replace hB2 := hB2.upd hu4 (by first | (with_reducible assumption) | exact (fun h => h) | exact (fun _ _ _ h => h) | (simp only [At]; omega) | (simp only [At, New, Grow, From, No]; omega) | (intro k hk hl hS; simp only [At] at hS; subst hS; contradiction) | (intro k hk hl hS; simp only [At] at hS; subst hS; exact Grow.old (by omega) (by assumption) hk) | (intro k hk hl hS; (try simp only [At, From, No, Grow, New] at hk hS); omega))
                        refine WL.cons (SO.append ho (Rd.of_blk (F := At _) (n := 1) (sz := 1) hB4 rfl rfl (by omega)) row_89 (oneCell_one rfl) (le_maxLen (by omega)) (by omega) rfl (ev_t rfl) (ev_t rfl) rfl rfl rfl rfl ?_)
                        intro v5 w5 ho hu5
                        have hs5 := hu5.size
                        replace hU := hU.trans hu5 (by first | exact (fun _ _ h => h) | exact (fun _ _ h => h.elim) | (intro k hl hk; (try simp only [At, New, Grow, From, No] at hk ⊢); omega))
                        replace hr := hr.upd hu5 (by first | (with_reducible assumption) | exact (fun h => h) | exact (fun _ _ _ h => h) | (simp only [At]; omega) | (simp only [At, New, Grow, From, No]; omega) | (intro k hk hl hS; simp only [At] at hS; subst hS; contradiction) | (intro k hk hl hS; simp only [At] at hS; subst hS; exact Grow.old (by omega) (by assumption) hk) | (intro k hk hl hS; (try simp only [At, From, No, Grow, New] at hk hS); omega))
                        replace hB2 := hB2.upd hu5 (by first | (with_reducible assumption) | exact (fun h => h) | exact (fun _ _ _ h => h) | (simp only [At]; omega) | (simp only [At, New, Grow, From, No]; omega) | (intro k hk hl hS; simp only [At] at hS; subst hS; contradiction) | (intro k hk hl hS; simp only [At] at hS; subst hS; exact Grow.old (by omega) (by assumption) hk) | (intro k hk hl hS; (try simp only [At, From, No, Grow, New] at hk hS); omega))
                        obtain ⟨A5, c5, rfl, hc5⟩ := Own.form ho
                        refine WL.val rfl rfl rfl rfl (r_assign rfl (ev_t rfl)) ?_
                        refine WL.nil ?_
                        refine WX.keep [(5, _), (6, _), (7, _), (15, _), (16, _), (17, _)] ⟨rfl, rfl, rfl, rfl, rfl, rfl, trivial⟩ ?_
                        have hst : stepM s (tr, n) = some { out := s.out ++ [(s.pos.1 + s.look.1 * n, s.pos.2 + s.look.2 * n)], pos := (s.pos.1 + s.look.1 * n, s.pos.2 + s.look.2 * n), look := s.look } := by
                          unfold stepM
                          rw [if_neg hc8', if_neg (by simp only; omega)]
                        have hfin : ∃ s' : TS, stepM s (tr, n) = some s' ∧ CI (.complex .f64 re2 im2) s'.pos ∧ CI (.complex .f64 a1 b1) s'.look ∧ L + 1 = s'.out.length ∧ Own w5 (New w w5) 90 1 (.slice A5 (L + 1) c5) (L + 1) (vs ++ [.complex .f64 re2 im2]) ∧ CIs (vs ++ [.complex .f64 re2 im2]) s'.out :=
                          ⟨_, hst, ⟨_, _, rfl, hre2, him2⟩, ⟨_, _, rfl, fa, fb⟩, by simp [hL], ho.mono (fun k hk => New.of hk (by omega) (by omega)), hcs.snoc ⟨_, _, rfl, hre2, him2⟩⟩
                        refine WX.blockNormal ?_
                        refine WX.next ?_
                        -- region 17 turtle.go:21
                        refine WC.region ?_
                        first | refine WL.val rfl rfl rfl rfl (r_addN rfl (ev_t rfl) ev_c (by simp only [inK]; omega)) ?_ | refine WL.val rfl rfl rfl rfl (r_add rfl (ev_t rfl) ev_c) ?_
                        refine WL.val rfl rfl rfl rfl (r_move rfl (ev_t rfl)) ?_
                        refine WL.nil ?_
                        refine WX.keep [(5, _), (6, _), (7, _), (15, _), (16, _), (17, _)] ⟨rfl, rfl, rfl, rfl, rfl, rfl, trivial⟩ ?_
                        refine WX.meet [(5, _), (6, _), (7, _), (15, _), (16, _), (17, _)] ⟨rfl, rfl, rfl, rfl, rfl, rfl, trivial⟩ ?_
                        obtain ⟨s', g1, g2, g3, g4, g5, g6⟩ := hfin
                        exact ⟨l.length - (i + 1), by omega, i + 1, s', _, _, _, _, _, _, by omega, rfl, hU, hgs.trans g1, fine_step hf g1, g2, g3, g4, g5, g6, hr, rfl⟩
        · try (exfalso; first | (simp at hc6; done) | (simp only [decide_eq_true_eq, decide_eq_false_iff_not, Bool.not_eq_true', Bool.not_eq_false', Bool.not_eq_true, Bool.not_eq_false] at hc6; omega) | omega)
          all_goals
            try simp only [decide_eq_true_eq, decide_eq_false_iff_not, Bool.not_eq_true', Bool.not_eq_false', Bool.not_eq_true, Bool.not_eq_false, Option.isNone_none, Option.isNone_some, Option.isSome_none, Option.isSome_some, ne_eq, Decidable.not_not] at hc6
            obtain rfl : i = l.length := by omega
            rw [List.take_length] at hg
            have hp : pathR l = (s.out, s.look, 0) := by unfold pathR; rw [if_neg (by omega), hg]
            refine WC.exit ?_
            refine WX.thenExit ?_
            refine WX.thenExit ?_
            refine WX.blockHere ?_
            refine WX.next ?_
            refine WC.seq ?_
            -- region 18 turtle.go:34
            refine WC.region ?_
            refine WL.val rfl rfl rfl rfl (r_move rfl (ev_t rfl)) ?_
            refine WL.val rfl rfl rfl rfl (r_move rfl (ev_t rfl)) ?_
            refine WL.val rfl rfl rfl rfl (r_assign rfl (ev_t rfl)) ?_
            refine WL.val rfl rfl rfl rfl (r_assign rfl (ev_t rfl)) ?_
            refine WL.val rfl rfl rfl rfl (r_assign rfl ev_c) ?_
            refine WL.nil ?_
            refine WX.keep [(2, _), (3, _), (4, _)] ⟨rfl, rfl, rfl, trivial⟩ ?_
            refine WX.next ?_
            refine WC.ret ?_
            refine WX.retE (l := [.tmp 2, .tmp 3, .tmp 4]) (vs := [_, _, _]) rfl ⟨rfl, rfl, rfl, trivial⟩ ?_
            rw [hp]
            subst hL
            exact ⟨_, _, vs, rfl, hvl, ho, hcs, hU⟩
end Go.Proofs.Ytjiafgnibhgfbaa
