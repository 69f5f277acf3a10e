/-
  The reference's path.
-/
import Derived.Test.YtjiafgnibhgfbaaTfb
namespace Go.Proofs.Ytjiafgnibhgfbaa
open Go
set_option linter.unusedSimpArgs false
set_option linter.unusedVariables false

theorem dir_step {d : Int} {n : Int} (h0 : 0 ≤ d) (h4 : d < 4) : rotN (n % 4).toNat (rotN d.toNat (0, 1)) = rotN ((d + n.tmod 4 + 4) % 4).toNat (0, 1) := by
  rw [← rotN_add]
  have h1 := Int.tmod_def n 4
  exact rotN_same _ (by omega)
theorem tmod4_bd (z : Int) : -4 < z.tmod 4 ∧ z.tmod 4 < 4 := by
  have h1 := Int.tmod_lt_of_pos z (b := 4) (by omega)
  have h3 := Int.tmod_lt_of_pos (-z) (b := 4) (by omega)
  rw [Int.neg_tmod] at h3
  omega

def dirC : List Value := [.int .i64 0, .int .i64 1, .int .i64 (-1), .int .i64 0, .int .i64 0, .int .i64 (-1), .int .i64 1, .int .i64 0]
theorem dirC_get {d : Int} (h0 : 0 ≤ d) (h4 : d < 4) : dirC[d.toNat * 2]? = some (.int .i64 (rotN d.toNat (0, 1)).1) ∧ dirC[d.toNat * 2 + 1]? = some (.int .i64 (rotN d.toNat (0, 1)).2) := by
  obtain ⟨k, rfl⟩ : ∃ k : Nat, d = k := ⟨d.toNat, by omega⟩
  match k, h4 with
  | 0, _ => exact ⟨rfl, rfl⟩
  | 1, _ => exact ⟨rfl, rfl⟩
  | 2, _ => exact ⟨rfl, rfl⟩
  | 3, _ => exact ⟨rfl, rfl⟩
  | n + 4, h => omega

set_option maxHeartbeats 1000000 in
theorem refPath_ok {w : World} {F : Nat → Prop} {lv : Value} {n : Nat} {l : List Mv} (hr : Rd w F lv n 2 (movC l)) (hN : ∀ m ∈ l, inK .i64 m.2) :
    Ret Try.prog 27 #[lv] w fun v' w' => ∃ u, v' = .tuple #[u, .agg #[.int .i64 (pathR l).2.1.1, .int .i64 (pathR l).2.1.2], .int .i64 ((pathR l).2.2 : Int)] ∧ Own w' (New w w') 54 2 u (pathR l).1.length (plC (pathR l).1) ∧ Upd No w w' := by
  obtain ⟨A, c, rfl, hle⟩ := hr.slice_form
  have hm := hr.le
  have hn : l.length = n := by
    have h1 := hr.len
    rw [movC_length] at h1
    omega
  subst hn
  replace hr := hr.bound
  refine enterRet (vs := [_]) (N := 82) Try.func27 rfl rfl rfl ?_
  have hU := Upd.refl No w
  refine WC.keep [(0, _)] ⟨rfl, trivial⟩ ?_
  refine WC.seq ?_
  -- region 0 ref.go:7
  refine WC.region ?_
  refine WL.val rfl rfl rfl rfl (r_assign rfl ev_c) ?_
  refine WL.cons (SO.alloc rfl rfl rfl rfl (r_alloc rfl zero_54) ?_)
  intro w1 hu1 hB1 hz1
  have hs1 := hu1.size
  replace hU := hU.trans hu1 (by first | exact (fun _ _ h => h) | exact (fun _ _ h => h.elim) | (intro k hl hk; (try simp only [At, New, Grow, From, No] at hk ⊢); omega))
  replace hr := hr.upd hu1 (by first | exact (fun _ _ _ h => h) | (intro k hk hl hS; have := hk.2; simp only [At, New, Grow, From, No] at hS; omega))
  refine WL.val rfl rfl rfl rfl (r_assign rfl ev_c) ?_
  refine WL.nil ?_
  refine WX.keep [(0, _), (3, _)] ⟨rfl, rfl, trivial⟩ ?_
  refine WX.next ?_
  refine WC.seq ?_
  refine WC.seq ?_
  -- region 1 ref.go:8
  refine WC.region ?_
  refine WL.val rfl rfl rfl rfl (r_move rfl (ev_t rfl)) ?_
  refine WL.val rfl rfl rfl rfl (r_lenSlice (ts := #[]) rfl (ev_t rfl) elem_22) ?_
  refine WL.val rfl rfl rfl rfl (r_gtr rfl (ev_t rfl) ev_c) ?_
  refine WL.nil ?_
  refine WX.keep [(0, _), (3, _), (14, _)] ⟨rfl, rfl, rfl, trivial⟩ ?_
  refine WX.next ?_
  refine WC.cond rfl (ev_t rfl) (fun hc1 => ?_) (fun hc1 => ?_)
  · try (exfalso; first | (simp at hc1; done) | (simp only [decide_eq_true_eq, decide_eq_false_iff_not, Bool.not_eq_true', Bool.not_eq_false', Bool.not_eq_true, Bool.not_eq_false] at hc1; omega) | omega)
    all_goals
      try simp only [decide_eq_true_eq, decide_eq_false_iff_not, Bool.not_eq_true', Bool.not_eq_false', Bool.not_eq_true, Bool.not_eq_false, Option.isNone_none, Option.isNone_some, Option.isSome_none, Option.isSome_some, ne_eq, Decidable.not_not] at hc1
      refine WC.seq ?_
      -- region 2 ref.go:9
      refine WC.region ?_
      refine WL.val rfl rfl rfl rfl (r_buildA (cs := #[_, _]) (vs := []) rfl trivial arrz_54 zero_54 rfl) ?_
      refine WL.val rfl rfl rfl rfl (r_assign rfl ev_c) ?_
      refine WL.keep [(2, _), (3, _), (15, .agg #[.int .i64 0, .int .i64 0])] ⟨rfl, rfl, rfl, trivial⟩ ?_
      refine WL.cons (SO.store2 rfl (ev_t rfl) (ev_t rfl) size_54 hB1 rfl rfl rfl rfl rfl rfl ?_)
      intro w2 hu2 hB1 hz2
      have hs2 := hu2.size
      replace hU := hU.trans hu2 (by first | exact (fun _ _ h => h) | exact (fun _ _ h => h.elim) | (intro k hl hk; (try simp only [At, New, Grow, From, No] at hk ⊢); omega))
      replace hr := hr.upd hu2 (by first | exact (fun _ _ _ h => h) | (intro k hk hl hS; have := hk.2; simp only [At, New, Grow, From, No] at hS; omega))
      refine WL.val rfl rfl rfl rfl (r_assign rfl ev_c) ?_
      refine WL.nil ?_
      refine WX.keep [(2, _), (3, _), (4, _)] ⟨rfl, rfl, rfl, trivial⟩ ?_
      replace hB1 : Blk w2 _ #[.int .i64 0, .int .i64 0] 54 := hB1
      have hp : pathR l = ([], (0, 0), 2) := by unfold pathR; rw [if_pos (by omega)]
      refine WX.next ?_
      refine WC.ret ?_
      refine WX.thenRet ?_
      refine WX.retM (l := [.tmp 2, .cell 3 54, .tmp 4]) (vs := [_, _, _]) rfl ⟨rfl, ⟨⟨_, [_, _], rfl, agg_54, size_54, (Blk.cells2 hB1), rfl⟩, ⟨rfl, trivial⟩⟩⟩ ?_
      rw [hp]
      exact ⟨_, rfl, Own.nil _ _ _ _, hU⟩
  · try (exfalso; first | (simp at hc1; done) | (simp only [decide_eq_true_eq, decide_eq_false_iff_not, Bool.not_eq_true', Bool.not_eq_false', Bool.not_eq_true, Bool.not_eq_false] at hc1; omega) | omega)
    all_goals
      try simp only [decide_eq_true_eq, decide_eq_false_iff_not, Bool.not_eq_true', Bool.not_eq_false', Bool.not_eq_true, Bool.not_eq_false, Option.isNone_none, Option.isNone_some, Option.isSome_none, Option.isSome_some, ne_eq, Decidable.not_not] at hc1
      refine WC.skip ?_
      refine WX.next ?_
      refine WC.seq ?_
      -- region 3 ref.go:11
      refine WC.region ?_
      refine WL.val rfl rfl rfl rfl (r_assign rfl ev_c) ?_
      refine WL.nil ?_
      refine WX.keep [(0, _), (3, _), (5, _)] ⟨rfl, rfl, rfl, trivial⟩ ?_
      refine WX.next ?_
      refine WC.seq ?_
      -- region 4 ref.go:12
      refine WC.region ?_
      refine WL.val rfl rfl rfl rfl (r_assign rfl ev_c) ?_
      refine WL.nil ?_
      refine WX.keep [(0, _), (3, _), (5, _), (6, _)] ⟨rfl, rfl, rfl, rfl, trivial⟩ ?_
      refine WX.next ?_
      refine WC.seq ?_
      -- region 5 ref.go:13
      refine WC.region ?_
      refine WL.val rfl rfl rfl rfl (r_assign rfl ev_c) ?_
      refine WL.nil ?_
      refine WX.keep [(0, _), (3, _), (5, _), (6, _), (7, _)] ⟨rfl, rfl, rfl, rfl, rfl, trivial⟩ ?_
      refine WX.next ?_
      refine WC.seq ?_
      -- region 6 ref.go:14
      refine WC.region ?_
      refine WL.val rfl rfl rfl rfl (r_buildA (cs := #[_, _]) (vs := [(0, _), (1, _)]) rfl ⟨⟨rfl, ev_c⟩, ⟨rfl, ev_c⟩, trivial⟩ arrz_54 zero_54 rfl) ?_
      refine WL.keep [(0, _), (3, _), (5, _), (6, _), (7, _), (16, .agg #[.int .i64 0, .int .i64 0])] ⟨rfl, rfl, rfl, rfl, rfl, rfl, trivial⟩ ?_
      refine WL.cons (SO.alloc rfl rfl rfl rfl (r_buildSlice (cs := #[_, _]) (vs := [(0, _)]) rfl ⟨⟨rfl, (ev_t rfl)⟩, trivial⟩ row_53 rfl rfl) ?_)
      intro w3 hu3 hB3 hz3
      have hs3 := hu3.size
      replace hU := hU.trans hu3 (by first | exact (fun _ _ h => h) | exact (fun _ _ h => h.elim) | (intro k hl hk; (try simp only [At, New, Grow, From, No] at hk ⊢); omega))
      replace hr := hr.upd hu3 (by first | exact (fun _ _ _ h => h) | (intro k hk hl hS; have := hk.2; simp only [At, New, Grow, From, No] at hS; omega))
      replace hB1 := hB1.upd hu3 (by first | (with_reducible assumption) | exact (fun h => h) | exact (fun _ _ _ h => h) | (simp only [At]; omega) | (simp only [At, New, Grow, From, No]; omega) | (intro k hk hl hS; simp only [At] at hS; subst hS; contradiction) | (intro k hk hl hS; simp only [At] at hS; subst hS; exact Grow.old (by omega) (by assumption) hk) | (intro k hk hl hS; (try simp only [At, From, No, Grow, New] at hk hS); omega))
      refine WL.val rfl rfl rfl rfl (r_assign rfl (ev_t rfl)) ?_
      refine WL.nil ?_
      refine WX.keep [(0, _), (3, _), (5, _), (6, _), (7, _), (8, _)] ⟨rfl, rfl, rfl, rfl, rfl, rfl, trivial⟩ ?_
      replace hB3 : Blk w3 _ #[.int .i64 0, .int .i64 0] 54 := hB3
      have ho := Own.of_blk (F := New w1 w3) (n := 1) (sz := 2) hB3 ⟨by omega, by omega⟩ rfl (le_maxLen (by omega))
      refine WX.next ?_
      refine WC.seq ?_
      refine WC.seq ?_
      -- region 7 ref.go:15
      refine WC.region ?_
      refine WL.val rfl rfl rfl rfl (r_assign rfl ev_c) ?_
      refine WL.nil ?_
      refine WX.keep [(0, _), (3, _), (5, _), (6, _), (7, _), (8, _), (9, _)] ⟨rfl, rfl, rfl, rfl, rfl, rfl, rfl, trivial⟩ ?_
      refine WX.next ?_
      refine WC.block ?_
      -- loop 1: live [0, 3, 5, 6, 7, 8, 9]
      refine WC.keep [(0, _), (3, _), (5, _), (6, _), (7, _), (8, _), (9, _)] ⟨rfl, rfl, rfl, rfl, rfl, rfl, rfl, trivial⟩ ?_
      refine WC.loop (fun q E w' => ∃ (i : Nat) (s : TS) (d : Int) (A8 : Option Addr) (L c8 : Nat), i ≤ l.length ∧ q = l.length - i ∧ Upd No w w' ∧ w1.heap.size ≤ w'.heap.size ∧ goM (l.take i) ts0 = some s ∧ Fine i s ∧ 0 ≤ d ∧ d < 4 ∧ s.look = rotN d.toNat (0, 1) ∧ L = s.out.length ∧ Own w' (New w1 w') 54 2 (.slice A8 L c8) L (plC s.out) ∧ Blk w' w.heap.size #[.int .i64 0, .int .i64 0] 54 ∧   Rd w' (fun k => F k ∧ k < w.heap.size) (.slice A l.length c) l.length 2 (movC l) ∧ E = [(0, .slice A l.length c), (3, .pointer (some ⟨w.heap.size, 0, none⟩)), (5, .int .i64 s.pos.1), (6, .int .i64 s.pos.2), (7, .int .i64 d), (8, .slice A8 L c8), (9, .int .i64 (i : Int))]) (l.length) ?_ ?_
      · exact ⟨0, ts0, 0, _, 1, _, by omega, by omega, hU, by omega, rfl, fine0, by omega, by omega, rfl, rfl, ho, hB1, hr, rfl⟩
      · rintro q E w' ⟨i, s, d, A8, L, c8, hi, rfl, hU, hw1, hg, hf, hd0, hd4, hlk, hL, ho, hB1, hr, rfl⟩
        have hs0 := hU.size
        refine WC.seq ?_
        refine WC.seq ?_
        -- region 8 ref.go:15
        refine WC.region ?_
        refine WL.val rfl rfl rfl rfl (r_move rfl (ev_t rfl)) ?_
        refine WL.val rfl rfl rfl rfl (r_move rfl (ev_t rfl)) ?_
        refine WL.val rfl rfl rfl rfl (r_lenSlice (ts := #[]) rfl (ev_t rfl) elem_22) ?_
        refine WL.val rfl rfl rfl rfl (r_lss rfl (ev_t rfl) (ev_t rfl)) ?_
        refine WL.nil ?_
        refine WX.keep [(0, _), (3, _), (5, _), (6, _), (7, _), (8, _), (9, _), (21, _)] ⟨rfl, rfl, rfl, rfl, rfl, rfl, rfl, rfl, trivial⟩ ?_
        refine WX.next ?_
        refine WC.cond rfl (ev_t rfl) (fun hc8 => ?_) (fun hc8 => ?_)
        · try (exfalso; first | (simp at hc8; done) | (simp only [decide_eq_true_eq, decide_eq_false_iff_not, Bool.not_eq_true', Bool.not_eq_false', Bool.not_eq_true, Bool.not_eq_false] at hc8; omega) | omega)
          all_goals
            try simp only [decide_eq_true_eq, decide_eq_false_iff_not, Bool.not_eq_true', Bool.not_eq_false', Bool.not_eq_true, Bool.not_eq_false, Option.isNone_none, Option.isNone_some, Option.isSome_none, Option.isSome_some, ne_eq, Decidable.not_not] at hc8
            have hi' : i < l.length := by omega
            obtain ⟨b, off, rfl, _⟩ := hr.open (by omega)
            have hgs := goM_take_succ hi' ts0
            rw [hg, Option.bind_some] at hgs
            have hcm := movC_get (l := l) (i := i) (m := l[i]) (List.getElem?_eq_getElem hi')
            have hNn := hN l[i] (List.getElem_mem hi')
            generalize l[i] = m at hcm hNn hgs
            obtain ⟨tr, n⟩ := m
            dsimp only at hcm
            simp only [inK] at hNn
            have hfx := hf.x
            have hfy := hf.y
            have hfl := hf.len
            have htb := tmod4_bd n
            refine WC.skip ?_
            refine WX.next ?_
            refine WC.seq ?_
            refine WC.block ?_
            refine WC.seq ?_
            -- region 10 ref.go:16
            refine WC.region ?_
            refine WL.val rfl rfl rfl rfl (r_move rfl (ev_t rfl)) ?_
            refine WL.val rfl rfl rfl rfl (r_move rfl (ev_t rfl)) ?_
            refine WL.val rfl rfl rfl rfl (r_indexAddr rfl (ev_t rfl) (ev_t rfl) elem_22 size_26 (by omega) (by omega)) ?_
            first | refine WL.val rfl rfl rfl rfl (r_field0 rfl (ev_t rfl) fld_26_1) ?_ | refine WL.val rfl rfl rfl rfl (r_fieldAt rfl (ev_t rfl) fld_26_1) ?_
            refine WL.val rfl rfl rfl rfl (r_load rfl (ev_t rfl) flat_2 (hr.cell (j := i * 2 + 1) (by omega) hcm.2)) ?_
            refine WL.val rfl rfl rfl rfl (r_assign rfl (ev_t rfl)) ?_
            refine WL.nil ?_
            refine WX.keep [(0, _), (3, _), (5, _), (6, _), (7, _), (8, _), (9, _), (10, _)] ⟨rfl, rfl, rfl, rfl, rfl, rfl, rfl, rfl, trivial⟩ ?_
            refine WX.next ?_
            refine WC.seq ?_
            refine WC.seq ?_
            -- region 11 ref.go:17
            refine WC.region ?_
            refine WL.val rfl rfl rfl rfl (r_move rfl (ev_t rfl)) ?_
            refine WL.val rfl rfl rfl rfl (r_move rfl (ev_t rfl)) ?_
            refine WL.val rfl rfl rfl rfl (r_indexAddr rfl (ev_t rfl) (ev_t rfl) elem_22 size_26 (by omega) (by omega)) ?_
            first | refine WL.val rfl rfl rfl rfl (r_field0 rfl (ev_t rfl) fld_26_0) ?_ | refine WL.val rfl rfl rfl rfl (r_fieldAt rfl (ev_t rfl) fld_26_0) ?_
            refine WL.val rfl rfl rfl rfl (r_load rfl (ev_t rfl) flat_4 (hr.cell (j := i * 2) (by omega) hcm.1)) ?_
            refine WL.nil ?_
            refine WX.keep [(0, _), (3, _), (5, _), (6, _), (7, _), (8, _), (9, _), (10, _), (33, _)] ⟨rfl, rfl, rfl, rfl, rfl, rfl, rfl, rfl, rfl, trivial⟩ ?_
            refine WX.next ?_
            refine WC.cond rfl (ev_t rfl) (fun hc11 => ?_) (fun hc11 => ?_)
            · try (exfalso; first | (simp at hc11; done) | (simp only [decide_eq_true_eq, decide_eq_false_iff_not, Bool.not_eq_true', Bool.not_eq_false', Bool.not_eq_true, Bool.not_eq_false] at hc11; omega) | omega)
              all_goals
                try simp only [decide_eq_true_eq, decide_eq_false_iff_not, Bool.not_eq_true', Bool.not_eq_false', Bool.not_eq_true, Bool.not_eq_false, Option.isNone_none, Option.isNone_some, Option.isSome_none, Option.isSome_some, ne_eq, Decidable.not_not] at hc11
                have hst : stepM s (tr, n) = some { s with look := rotN (n % 4).toNat s.look } := by
                  unfold stepM
                  rw [if_pos hc11]
                have hfin : ∃ s' : TS, stepM s (tr, n) = some s' ∧ s'.look = rotN ((d + n.tmod 4 + 4) % 4).toNat (0, 1) ∧ s'.out = s.out ∧ s'.pos = s.pos := ⟨_, hst, by show rotN (n % 4).toNat s.look = _; rw [hlk]; exact dir_step hd0 hd4, rfl, rfl⟩
                obtain ⟨s', g1, g2, g3, g4⟩ := hfin
                refine WC.seq ?_
                -- region 12 ref.go:18
                refine WC.region ?_
                refine WL.val rfl rfl rfl rfl (r_move rfl (ev_t rfl)) ?_
                refine WL.val rfl rfl rfl rfl (r_move rfl (ev_t rfl)) ?_
                first | refine WL.val rfl rfl rfl rfl (r_remN rfl (ev_t rfl) ev_c (by omega) (by omega)) ?_ | refine WL.val rfl rfl rfl rfl (r_rem rfl (ev_t rfl) ev_c (by omega)) ?_
                first | refine WL.val rfl rfl rfl rfl (r_addN rfl (ev_t rfl) (ev_t rfl) (by simp only [inK]; omega)) ?_ | refine WL.val rfl rfl rfl rfl (r_add rfl (ev_t rfl) (ev_t rfl)) ?_
                first | refine WL.val rfl rfl rfl rfl (r_addN rfl (ev_t rfl) ev_c (by simp only [inK]; omega)) ?_ | refine WL.val rfl rfl rfl rfl (r_add rfl (ev_t rfl) ev_c) ?_
                first | refine WL.val rfl rfl rfl rfl (r_remN rfl (ev_t rfl) ev_c (by omega) (by omega)) ?_ | refine WL.val rfl rfl rfl rfl (r_rem rfl (ev_t rfl) ev_c (by omega)) ?_
                refine WL.val rfl rfl rfl rfl (r_assign rfl (ev_t rfl)) ?_
                refine WL.nil ?_
                refine WX.keep [(0, _), (3, _), (5, _), (6, _), (7, _), (8, _), (9, _)] ⟨rfl, rfl, rfl, rfl, rfl, rfl, rfl, trivial⟩ ?_
                rw [← g4]
                refine WX.next ?_
                refine WC.exit ?_
                refine WX.thenExit ?_
                refine WX.blockHere ?_
                refine WX.next ?_
                -- region 9 ref.go:15
                refine WC.region ?_
                refine WL.val rfl rfl rfl rfl (r_move rfl (ev_t rfl)) ?_
                first | refine WL.val rfl rfl rfl rfl (r_addN rfl (ev_t rfl) ev_c (by simp only [inK]; omega)) ?_ | refine WL.val rfl rfl rfl rfl (r_add rfl (ev_t rfl) ev_c) ?_
                refine WL.val rfl rfl rfl rfl (r_assign rfl (ev_t rfl)) ?_
                refine WL.nil ?_
                refine WX.keep [(0, _), (3, _), (5, _), (6, _), (7, _), (8, _), (9, _)] ⟨rfl, rfl, rfl, rfl, rfl, rfl, rfl, trivial⟩ ?_
                refine WX.meet [(0, _), (3, _), (5, _), (6, _), (7, _), (8, _), (9, _)] ⟨rfl, rfl, rfl, rfl, rfl, rfl, rfl, trivial⟩ ?_
                first
                  | exact ⟨l.length - (i + 1), by omega, i + 1, s', d, _, _, _, by omega, rfl, hU, by omega, hgs.trans g1, fine_step hf g1, hd0, hd4, g2, hL1, ho, hB1, hr, rfl⟩
                  | (rw [← g3] at ho hL
                     exact ⟨l.length - (i + 1), by omega, i + 1, s', _, _, _, _, by omega, rfl, hU, by omega, hgs.trans g1, fine_step hf g1, by omega, by omega, g2, hL, ho, hB1, hr, rfl⟩)
            · try (exfalso; first | (simp at hc11; done) | (simp only [decide_eq_true_eq, decide_eq_false_iff_not, Bool.not_eq_true', Bool.not_eq_false', Bool.not_eq_true, Bool.not_eq_false] at hc11; omega) | omega)
              all_goals
                try simp only [decide_eq_true_eq, decide_eq_false_iff_not, Bool.not_eq_true', Bool.not_eq_false', Bool.not_eq_true, Bool.not_eq_false, Option.isNone_none, Option.isNone_some, Option.isSome_none, Option.isSome_some, ne_eq, Decidable.not_not] at hc11
                have hc11' : ¬ tr = true := by rw [hc11]; simp
                refine WC.skip ?_
                refine WX.next ?_
                refine WC.seq ?_
                refine WC.seq ?_
                -- region 13 ref.go:21
                refine WC.region ?_
                refine WL.val rfl rfl rfl rfl (r_move rfl (ev_t rfl)) ?_
                refine WL.val rfl rfl rfl rfl (r_lss rfl (ev_t rfl) ev_c) ?_
                refine WL.val rfl rfl rfl rfl (r_move rfl (ev_t rfl)) ?_
                refine WL.cases 42 rfl (fun hb13_2 => ?_) (fun hb13_2 => ?_)
                · try (exfalso; first | (simp at hb13_2; done) | (simp only [decide_eq_true_eq, decide_eq_false_iff_not, Bool.not_eq_true', Bool.not_eq_false', Bool.not_eq_true, Bool.not_eq_false] at hb13_2; omega) | omega)
                  all_goals
                    try simp only [decide_eq_true_eq, decide_eq_false_iff_not, Bool.not_eq_true', Bool.not_eq_false', Bool.not_eq_true, Bool.not_eq_false, Option.isNone_none, Option.isNone_some, Option.isSome_none, Option.isSome_some, ne_eq, Decidable.not_not] at hb13_2
                    refine WL.skip rfl rfl rfl ?_
                    refine WL.skip rfl rfl rfl ?_
                    refine WL.val rfl rfl rfl rfl (r_pickT rfl (ev_t rfl) ev_c) ?_
                    refine WL.nil ?_
                    refine WX.keep [(0, _), (3, _), (5, _), (6, _), (7, _), (8, _), (9, _), (10, _), (45, _)] ⟨rfl, rfl, rfl, rfl, rfl, rfl, rfl, rfl, rfl, trivial⟩ ?_
                    refine WX.next ?_
                    refine WC.cond_true rfl (ev_t rfl) ?_
                    refine WC.seq ?_
                    -- region 14 ref.go:22
                    refine WC.region ?_
                    refine WL.val rfl rfl rfl rfl (r_buildA (cs := #[_, _]) (vs := []) rfl trivial arrz_54 zero_54 rfl) ?_
                    refine WL.val rfl rfl rfl rfl (r_assign rfl ev_c) ?_
                    refine WL.keep [(2, _), (3, _), (46, .agg #[.int .i64 0, .int .i64 0])] ⟨rfl, rfl, rfl, trivial⟩ ?_
                    refine WL.cons (SO.store2 rfl (ev_t rfl) (ev_t rfl) size_54 hB1 rfl rfl rfl rfl rfl rfl ?_)
                    intro w4 hu4 hB1 hz4
                    have hs4 := hu4.size
                    replace hU := hU.trans hu4 (by first | exact (fun _ _ h => h) | exact (fun _ _ h => h.elim) | (intro k hl hk; (try simp only [At, New, Grow, From, No] at hk ⊢); omega))
                    replace hr := hr.upd hu4 (by first | exact (fun _ _ _ h => h) | (intro k hk hl hS; have := hk.2; simp only [At, New, Grow, From, No] at hS; omega))
                    replace ho := ho.upd hu4 (by first | (with_reducible assumption) | exact (fun h => h) | exact (fun _ _ _ h => h) | (simp only [At]; omega) | (simp only [At, New, Grow, From, No]; omega) | (intro k hk hl hS; simp only [At] at hS; subst hS; contradiction) | (intro k hk hl hS; simp only [At] at hS; subst hS; exact Grow.old (by omega) (by assumption) hk) | (intro k hk hl hS; (try simp only [At, From, No, Grow, New] at hk hS); omega))
                    refine WL.val rfl rfl rfl rfl (r_assign rfl ev_c) ?_
                    refine WL.nil ?_
                    refine WX.keep [(2, _), (3, _), (4, _)] ⟨rfl, rfl, rfl, trivial⟩ ?_
                    replace hB1 : Blk w4 _ #[.int .i64 0, .int .i64 0] 54 := hB1
                    refine WX.next ?_
                    refine WC.ret ?_
                    refine WX.thenRet ?_
                    refine WX.blockRet ?_
                    refine WX.thenRet ?_
                    refine WX.thenRet ?_
                    refine WX.blockRet ?_
                    refine WX.thenRet ?_
                    refine WX.retM (l := [.tmp 2, .cell 3 54, .tmp 4]) (vs := [_, _, _]) rfl ⟨rfl, ⟨⟨_, [_, _], rfl, agg_54, size_54, (Blk.cells2 hB1), rfl⟩, ⟨rfl, trivial⟩⟩⟩ ?_
                    have hst : stepM s (tr, n) = none := by
                      unfold stepM
                      rw [if_neg hc11', if_pos (by simp only; omega)]
                    have hp : pathR l = ([], (0, 0), 1) := by unfold pathR; rw [if_neg (by omega), goM_none (hgs.trans hst)]
                    rw [hp]
                    exact ⟨_, rfl, Own.nil _ _ _ _, hU⟩
                · try (exfalso; first | (simp at hb13_2; done) | (simp only [decide_eq_true_eq, decide_eq_false_iff_not, Bool.not_eq_true', Bool.not_eq_false', Bool.not_eq_true, Bool.not_eq_false] at hb13_2; omega) | omega)
                  all_goals
                    try simp only [decide_eq_true_eq, decide_eq_false_iff_not, Bool.not_eq_true', Bool.not_eq_false', Bool.not_eq_true, Bool.not_eq_false, Option.isNone_none, Option.isNone_some, Option.isSome_none, Option.isSome_some, ne_eq, Decidable.not_not] at hb13_2
                    refine WL.val rfl rfl rfl rfl (r_move rfl (ev_t rfl)) ?_
                    refine WL.val rfl rfl rfl rfl (r_gtr rfl (ev_t rfl) ev_c) ?_
                    refine WL.val rfl rfl rfl rfl (r_pickF rfl (ev_t rfl) (ev_t rfl)) ?_
                    refine WL.nil ?_
                    refine WX.keep [(0, _), (3, _), (5, _), (6, _), (7, _), (8, _), (9, _), (10, _), (45, _)] ⟨rfl, rfl, rfl, rfl, rfl, rfl, rfl, rfl, rfl, trivial⟩ ?_
                    refine WX.next ?_
                    refine WC.cond rfl (ev_t rfl) (fun hc13 => ?_) (fun hc13 => ?_)
                    · try (exfalso; first | (simp at hc13; done) | (simp only [decide_eq_true_eq, decide_eq_false_iff_not, Bool.not_eq_true', Bool.not_eq_false', Bool.not_eq_true, Bool.not_eq_false] at hc13; omega) | omega)
                      all_goals
                        try simp only [decide_eq_true_eq, decide_eq_false_iff_not, Bool.not_eq_true', Bool.not_eq_false', Bool.not_eq_true, Bool.not_eq_false, Option.isNone_none, Option.isNone_some, Option.isSome_none, Option.isSome_some, ne_eq, Decidable.not_not] at hc13
                        refine WC.seq ?_
                        -- region 14 ref.go:22
                        refine WC.region ?_
                        refine WL.val rfl rfl rfl rfl (r_buildA (cs := #[_, _]) (vs := []) rfl trivial arrz_54 zero_54 rfl) ?_
                        refine WL.val rfl rfl rfl rfl (r_assign rfl ev_c) ?_
                        refine WL.keep [(2, _), (3, _), (46, .agg #[.int .i64 0, .int .i64 0])] ⟨rfl, rfl, rfl, trivial⟩ ?_
                        refine WL.cons (SO.store2 rfl (ev_t rfl) (ev_t rfl) size_54 hB1 rfl rfl rfl rfl rfl rfl ?_)
                        intro w5 hu5 hB1 hz5
                        have hs5 := hu5.size
                        replace hU := hU.trans hu5 (by first | exact (fun _ _ h => h) | exact (fun _ _ h => h.elim) | (intro k hl hk; (try simp only [At, New, Grow, From, No] at hk ⊢); omega))
                        replace hr := hr.upd hu5 (by first | exact (fun _ _ _ h => h) | (intro k hk hl hS; have := hk.2; simp only [At, New, Grow, From, No] at hS; omega))
                        replace ho := ho.upd hu5 (by first | (with_reducible assumption) | exact (fun h => h) | exact (fun _ _ _ h => h) | (simp only [At]; omega) | (simp only [At, New, Grow, From, No]; omega) | (intro k hk hl hS; simp only [At] at hS; subst hS; contradiction) | (intro k hk hl hS; simp only [At] at hS; subst hS; exact Grow.old (by omega) (by assumption) hk) | (intro k hk hl hS; (try simp only [At, From, No, Grow, New] at hk hS); omega))
                        refine WL.val rfl rfl rfl rfl (r_assign rfl ev_c) ?_
                        refine WL.nil ?_
                        refine WX.keep [(2, _), (3, _), (4, _)] ⟨rfl, rfl, rfl, trivial⟩ ?_
                        replace hB1 : Blk w5 _ #[.int .i64 0, .int .i64 0] 54 := hB1
                        refine WX.next ?_
                        refine WC.ret ?_
                        refine WX.thenRet ?_
                        refine WX.blockRet ?_
                        refine WX.thenRet ?_
                        refine WX.thenRet ?_
                        refine WX.blockRet ?_
                        refine WX.thenRet ?_
                        refine WX.retM (l := [.tmp 2, .cell 3 54, .tmp 4]) (vs := [_, _, _]) rfl ⟨rfl, ⟨⟨_, [_, _], rfl, agg_54, size_54, (Blk.cells2 hB1), rfl⟩, ⟨rfl, trivial⟩⟩⟩ ?_
                        have hst : stepM s (tr, n) = none := by
                          unfold stepM
                          rw [if_neg hc11', if_pos (by simp only; omega)]
                        have hp : pathR l = ([], (0, 0), 1) := by unfold pathR; rw [if_neg (by omega), goM_none (hgs.trans hst)]
                        rw [hp]
                        exact ⟨_, rfl, Own.nil _ _ _ _, hU⟩
                    · try (exfalso; first | (simp at hc13; done) | (simp only [decide_eq_true_eq, decide_eq_false_iff_not, Bool.not_eq_true', Bool.not_eq_false', Bool.not_eq_true, Bool.not_eq_false] at hc13; omega) | omega)
                      all_goals
                        try simp only [decide_eq_true_eq, decide_eq_false_iff_not, Bool.not_eq_true', Bool.not_eq_false', Bool.not_eq_true, Bool.not_eq_false, Option.isNone_none, Option.isNone_some, Option.isSome_none, Option.isSome_some, ne_eq, Decidable.not_not] at hc13
                        refine WC.skip ?_
                        refine WX.next ?_
                        refine WC.seq ?_
                        refine WC.seq ?_
                        have hst : stepM s (tr, n) = some { out := s.out ++ [(s.pos.1 + s.look.1 * n, s.pos.2 + s.look.2 * n)], pos := (s.pos.1 + s.look.1 * n, s.pos.2 + s.look.2 * n), look := s.look } := by
                          unfold stepM
                          rw [if_neg hc11', if_neg (by simp only; omega)]
                        have hfin : ∀ x y : Int, x = s.pos.1 + s.look.1 * n → y = s.pos.2 + s.look.2 * n → ∃ s' : TS, stepM s (tr, n) = some s' ∧ s'.look = rotN d.toNat (0, 1) ∧ s'.out = s.out ++ [(x, y)] ∧ s'.pos.1 = x ∧ s'.pos.2 = y := fun x y hx hy => ⟨_, hst, hlk, by rw [hx, hy], hx.symm, hy.symm⟩
                        -- region 15 ref.go:24
                        refine WC.region ?_
                        refine WL.val rfl rfl rfl rfl (r_move rfl (ev_t rfl)) ?_
                        refine WL.nil ?_
                        refine WX.keep [(0, _), (3, _), (5, _), (6, _), (7, _), (8, _), (9, _), (10, _), (47, _)] ⟨rfl, rfl, rfl, rfl, rfl, rfl, rfl, rfl, rfl, trivial⟩ ?_
                        refine WX.next ?_
                        refine WC.block ?_
                        refine WC.seq ?_
                        -- region 17 ref.go:25
                        refine WC.region ?_
                        refine WL.val rfl rfl rfl rfl (r_eql rfl (ev_t rfl) ev_c) ?_
                        refine WL.val rfl rfl rfl rfl (r_assign rfl (ev_t rfl)) ?_
                        refine WL.nil ?_
                        refine WX.keep [(0, _), (3, _), (5, _), (6, _), (7, _), (8, _), (9, _), (10, _), (47, _), (51, _)] ⟨rfl, rfl, rfl, rfl, rfl, rfl, rfl, rfl, rfl, rfl, trivial⟩ ?_
                        refine WX.next ?_
                        refine WC.cond rfl (ev_t rfl) (fun hc17 => ?_) (fun hc17 => ?_)
                        · try (exfalso; first | (simp at hc17; done) | (simp only [decide_eq_true_eq, decide_eq_false_iff_not, Bool.not_eq_true', Bool.not_eq_false', Bool.not_eq_true, Bool.not_eq_false] at hc17; omega) | omega)
                          all_goals
                            try simp only [decide_eq_true_eq, decide_eq_false_iff_not, Bool.not_eq_true', Bool.not_eq_false', Bool.not_eq_true, Bool.not_eq_false, Option.isNone_none, Option.isNone_some, Option.isSome_none, Option.isSome_some, ne_eq, Decidable.not_not] at hc17
                            rw [show d = 0 by omega] at hlk
                            obtain ⟨s', g1, g2, g3, g4, g5⟩ := hfin s.pos.1 (s.pos.2 + n) (by rw [hlk]; simp [rotN]) (by rw [hlk]; simp [rotN])
                            -- region 18 ref.go:26
                            refine WC.region ?_
                            refine WL.val rfl rfl rfl rfl (r_move rfl (ev_t rfl)) ?_
                            refine WL.val rfl rfl rfl rfl (r_move rfl (ev_t rfl)) ?_
                            first | refine WL.val rfl rfl rfl rfl (r_addN rfl (ev_t rfl) (ev_t rfl) (by simp only [inK]; omega)) ?_ | refine WL.val rfl rfl rfl rfl (r_add rfl (ev_t rfl) (ev_t rfl)) ?_
                            refine WL.val rfl rfl rfl rfl (r_assign rfl (ev_t rfl)) ?_
                            refine WL.nil ?_
                            refine WX.keep [(0, _), (3, _), (5, _), (6, _), (7, _), (8, _), (9, _)] ⟨rfl, rfl, rfl, rfl, rfl, rfl, rfl, trivial⟩ ?_
                            refine WX.blockNormal ?_
                            refine WX.next ?_
                            -- region 23 ref.go:34
                            refine WC.region ?_
                            refine WL.val rfl rfl rfl rfl (r_move rfl (ev_t rfl)) ?_
                            refine WL.val rfl rfl rfl rfl (r_move rfl (ev_t rfl)) ?_
                            refine WL.val rfl rfl rfl rfl (r_move rfl (ev_t rfl)) ?_
                            refine WL.val rfl rfl rfl rfl (r_buildA (cs := #[_, _]) (vs := [(0, _), (1, _)]) rfl ⟨⟨rfl, (ev_t rfl)⟩, ⟨rfl, (ev_t rfl)⟩, trivial⟩ arrz_54 zero_54 rfl) ?_
                            rw [← g4, ← g5]
                            refine WL.keep [(0, _), (3, _), (7, _), (9, _), (5, _), (6, _), (66, _), (69, .agg #[.int .i64 s'.pos.1, .int .i64 s'.pos.2])] ⟨rfl, rfl, rfl, rfl, rfl, rfl, rfl, rfl, trivial⟩ ?_
                            refine WL.cons (SO.alloc rfl rfl rfl rfl (r_buildSlice (cs := #[_, _]) (vs := [(0, _)]) rfl ⟨⟨rfl, (ev_t rfl)⟩, trivial⟩ row_53 rfl rfl) ?_)
                            intro w6 hu6 hB6 hz6
                            have hs6 := hu6.size
                            replace hU := hU.trans hu6 (by first | exact (fun _ _ h => h) | exact (fun _ _ h => h.elim) | (intro k hl hk; (try simp only [At, New, Grow, From, No] at hk ⊢); omega))
                            replace hr := hr.upd hu6 (by first | exact (fun _ _ _ h => h) | (intro k hk hl hS; have := hk.2; simp only [At, New, Grow, From, No] at hS; omega))
                            replace ho := ho.upd hu6 (by first | (with_reducible assumption) | exact (fun h => h) | exact (fun _ _ _ h => h) | (simp only [At]; omega) | (simp only [At, New, Grow, From, No]; omega) | (intro k hk hl hS; simp only [At] at hS; subst hS; contradiction) | (intro k hk hl hS; simp only [At] at hS; subst hS; exact Grow.old (by omega) (by assumption) hk) | (intro k hk hl hS; (try simp only [At, From, No, Grow, New] at hk hS); omega))
                            replace hB1 := hB1.upd hu6 (by first | (with_reducible assumption) | exact (fun h => h) | exact (fun _ _ _ h => h) | (simp only [At]; omega) | (simp only [At, New, Grow, From, No]; omega) | (intro k hk hl hS; simp only [At] at hS; subst hS; contradiction) | (intro k hk hl hS; simp only [At] at hS; subst hS; exact Grow.old (by omega) (by assumption) hk) | (intro k hk hl hS; (try simp only [At, From, No, Grow, New] at hk hS); omega))
                            replace hB6 : Blk w6 _ #[.int .i64 s'.pos.1, .int .i64 s'.pos.2] 54 := hB6
                            refine WL.cons (SO.append ho (Rd.of_blk (F := At _) (n := 1) (sz := 2) hB6 rfl rfl (by omega)) row_53 (by intro u hu; simp at hu; rcases hu with rfl | rfl <;> rfl) (le_maxLen (by omega)) (by omega) rfl (ev_t rfl) (ev_t rfl) rfl rfl rfl rfl ?_)
                            intro v7 w7 ho hu7
                            have hs7 := hu7.size
                            replace hU := hU.trans hu7 (by first | exact (fun _ _ h => h) | exact (fun _ _ h => h.elim) | (intro k hl hk; (try simp only [At, New, Grow, From, No] at hk ⊢); omega))
                            replace hr := hr.upd hu7 (by first | exact (fun _ _ _ h => h) | (intro k hk hl hS; have := hk.2; simp only [At, New, Grow, From, No] at hS; omega))
                            replace hB1 := hB1.upd hu7 (by first | (with_reducible assumption) | exact (fun h => h) | exact (fun _ _ _ h => h) | (simp only [At]; omega) | (simp only [At, New, Grow, From, No]; omega) | (intro k hk hl hS; simp only [At] at hS; subst hS; contradiction) | (intro k hk hl hS; simp only [At] at hS; subst hS; exact Grow.old (by omega) (by assumption) hk) | (intro k hk hl hS; (try simp only [At, From, No, Grow, New] at hk hS); omega))
                            obtain ⟨A7, c7, rfl, hc7⟩ := Own.form ho
                            refine WL.val rfl rfl rfl rfl (r_assign rfl (ev_t rfl)) ?_
                            refine WL.nil ?_
                            refine WX.keep [(0, _), (3, _), (5, _), (6, _), (7, _), (8, _), (9, _)] ⟨rfl, rfl, rfl, rfl, rfl, rfl, rfl, trivial⟩ ?_
                            replace ho : Own w7 (New w1 w7) 54 2 (.slice A7 (L + 1) c7) (L + 1) (plC s'.out) := by
                              rw [g3, plC_append, ← g4, ← g5]
                              exact ho.mono (fun k hk => New.of hk (by omega) (by omega))
                            have hL1 : L + 1 = s'.out.length := by rw [g3, hL]; simp
                            replace g2 : s'.look = rotN d.toNat (0, 1) := g2
                            refine WX.blockNormal ?_
                            refine WX.next ?_
                            -- region 9 ref.go:15
                            refine WC.region ?_
                            refine WL.val rfl rfl rfl rfl (r_move rfl (ev_t rfl)) ?_
                            first | refine WL.val rfl rfl rfl rfl (r_addN rfl (ev_t rfl) ev_c (by simp only [inK]; omega)) ?_ | refine WL.val rfl rfl rfl rfl (r_add rfl (ev_t rfl) ev_c) ?_
                            refine WL.val rfl rfl rfl rfl (r_assign rfl (ev_t rfl)) ?_
                            refine WL.nil ?_
                            refine WX.keep [(0, _), (3, _), (5, _), (6, _), (7, _), (8, _), (9, _)] ⟨rfl, rfl, rfl, rfl, rfl, rfl, rfl, trivial⟩ ?_
                            refine WX.meet [(0, _), (3, _), (5, _), (6, _), (7, _), (8, _), (9, _)] ⟨rfl, rfl, rfl, rfl, rfl, rfl, rfl, trivial⟩ ?_
                            first
                              | exact ⟨l.length - (i + 1), by omega, i + 1, s', d, _, _, _, by omega, rfl, hU, by omega, hgs.trans g1, fine_step hf g1, hd0, hd4, g2, hL1, ho, hB1, hr, rfl⟩
                              | (rw [← g3] at ho hL
                                 exact ⟨l.length - (i + 1), by omega, i + 1, s', _, _, _, _, by omega, rfl, hU, by omega, hgs.trans g1, fine_step hf g1, by omega, by omega, g2, hL, ho, hB1, hr, rfl⟩)
                        · try (exfalso; first | (simp at hc17; done) | (simp only [decide_eq_true_eq, decide_eq_false_iff_not, Bool.not_eq_true', Bool.not_eq_false', Bool.not_eq_true, Bool.not_eq_false] at hc17; omega) | omega)
                          all_goals
                            try simp only [decide_eq_true_eq, decide_eq_false_iff_not, Bool.not_eq_true', Bool.not_eq_false', Bool.not_eq_true, Bool.not_eq_false, Option.isNone_none, Option.isNone_some, Option.isSome_none, Option.isSome_some, ne_eq, Decidable.not_not] at hc17
                            refine WC.seq ?_
                            -- region 19 ref.go:27
                            refine WC.region ?_
                            refine WL.val rfl rfl rfl rfl (r_eql rfl (ev_t rfl) ev_c) ?_
                            refine WL.val rfl rfl rfl rfl (r_assign rfl (ev_t rfl)) ?_
                            refine WL.nil ?_
                            refine WX.keep [(0, _), (3, _), (5, _), (6, _), (7, _), (8, _), (9, _), (10, _), (47, _), (56, _)] ⟨rfl, rfl, rfl, rfl, rfl, rfl, rfl, rfl, rfl, rfl, trivial⟩ ?_
                            refine WX.next ?_
                            refine WC.cond rfl (ev_t rfl) (fun hc19 => ?_) (fun hc19 => ?_)
                            · try (exfalso; first | (simp at hc19; done) | (simp only [decide_eq_true_eq, decide_eq_false_iff_not, Bool.not_eq_true', Bool.not_eq_false', Bool.not_eq_true, Bool.not_eq_false] at hc19; omega) | omega)
                              all_goals
                                try simp only [decide_eq_true_eq, decide_eq_false_iff_not, Bool.not_eq_true', Bool.not_eq_false', Bool.not_eq_true, Bool.not_eq_false, Option.isNone_none, Option.isNone_some, Option.isSome_none, Option.isSome_some, ne_eq, Decidable.not_not] at hc19
                                rw [show d = 1 by omega] at hlk
                                obtain ⟨s', g1, g2, g3, g4, g5⟩ := hfin (s.pos.1 - n) s.pos.2 (by rw [hlk]; simp [rotN, rot]; omega) (by rw [hlk]; simp [rotN, rot])
                                -- region 20 ref.go:28
                                refine WC.region ?_
                                refine WL.val rfl rfl rfl rfl (r_move rfl (ev_t rfl)) ?_
                                refine WL.val rfl rfl rfl rfl (r_move rfl (ev_t rfl)) ?_
                                first | refine WL.val rfl rfl rfl rfl (r_subN rfl (ev_t rfl) (ev_t rfl) (by simp only [inK]; omega)) ?_ | refine WL.val rfl rfl rfl rfl (r_sub rfl (ev_t rfl) (ev_t rfl)) ?_
                                refine WL.val rfl rfl rfl rfl (r_assign rfl (ev_t rfl)) ?_
                                refine WL.nil ?_
                                refine WX.keep [(0, _), (3, _), (5, _), (6, _), (7, _), (8, _), (9, _)] ⟨rfl, rfl, rfl, rfl, rfl, rfl, rfl, trivial⟩ ?_
                                refine WX.blockNormal ?_
                                refine WX.next ?_
                                -- region 23 ref.go:34
                                refine WC.region ?_
                                refine WL.val rfl rfl rfl rfl (r_move rfl (ev_t rfl)) ?_
                                refine WL.val rfl rfl rfl rfl (r_move rfl (ev_t rfl)) ?_
                                refine WL.val rfl rfl rfl rfl (r_move rfl (ev_t rfl)) ?_
                                refine WL.val rfl rfl rfl rfl (r_buildA (cs := #[_, _]) (vs := [(0, _), (1, _)]) rfl ⟨⟨rfl, (ev_t rfl)⟩, ⟨rfl, (ev_t rfl)⟩, trivial⟩ arrz_54 zero_54 rfl) ?_
                                rw [← g4, ← g5]
                                refine WL.keep [(0, _), (3, _), (7, _), (9, _), (5, _), (6, _), (66, _), (69, .agg #[.int .i64 s'.pos.1, .int .i64 s'.pos.2])] ⟨rfl, rfl, rfl, rfl, rfl, rfl, rfl, rfl, trivial⟩ ?_
                                refine WL.cons (SO.alloc rfl rfl rfl rfl (r_buildSlice (cs := #[_, _]) (vs := [(0, _)]) rfl ⟨⟨rfl, (ev_t rfl)⟩, trivial⟩ row_53 rfl rfl) ?_)
                                intro w8 hu8 hB8 hz8
                                have hs8 := hu8.size
                                replace hU := hU.trans hu8 (by first | exact (fun _ _ h => h) | exact (fun _ _ h => h.elim) | (intro k hl hk; (try simp only [At, New, Grow, From, No] at hk ⊢); omega))
                                replace hr := hr.upd hu8 (by first | exact (fun _ _ _ h => h) | (intro k hk hl hS; have := hk.2; simp only [At, New, Grow, From, No] at hS; omega))
                                replace ho := ho.upd hu8 (by first | (with_reducible assumption) | exact (fun h => h) | exact (fun _ _ _ h => h) | (simp only [At]; omega) | (simp only [At, New, Grow, From, No]; omega) | (intro k hk hl hS; simp only [At] at hS; subst hS; contradiction) | (intro k hk hl hS; simp only [At] at hS; subst hS; exact Grow.old (by omega) (by assumption) hk) | (intro k hk hl hS; (try simp only [At, From, No, Grow, New] at hk hS); omega))
                                replace hB1 := hB1.upd hu8 (by first | (with_reducible assumption) | exact (fun h => h) | exact (fun _ _ _ h => h) | (simp only [At]; omega) | (simp only [At, New, Grow, From, No]; omega) | (intro k hk hl hS; simp only [At] at hS; subst hS; contradiction) | (intro k hk hl hS; simp only [At] at hS; subst hS; exact Grow.old (by omega) (by assumption) hk) | (intro k hk hl hS; (try simp only [At, From, No, Grow, New] at hk hS); omega))
                                replace hB8 : Blk w8 _ #[.int .i64 s'.pos.1, .int .i64 s'.pos.2] 54 := hB8
                                refine WL.cons (SO.append ho (Rd.of_blk (F := At _) (n := 1) (sz := 2) hB8 rfl rfl (by omega)) row_53 (by intro u hu; simp at hu; rcases hu with rfl | rfl <;> rfl) (le_maxLen (by omega)) (by omega) rfl (ev_t rfl) (ev_t rfl) rfl rfl rfl rfl ?_)
                                intro v9 w9 ho hu9
                                have hs9 := hu9.size
                                replace hU := hU.trans hu9 (by first | exact (fun _ _ h => h) | exact (fun _ _ h => h.elim) | (intro k hl hk; (try simp only [At, New, Grow, From, No] at hk ⊢); omega))
                                replace hr := hr.upd hu9 (by first | exact (fun _ _ _ h => h) | (intro k hk hl hS; have := hk.2; simp only [At, New, Grow, From, No] at hS; omega))
                                replace hB1 := hB1.upd hu9 (by first | (with_reducible assumption) | exact (fun h => h) | exact (fun _ _ _ h => h) | (simp only [At]; omega) | (simp only [At, New, Grow, From, No]; omega) | (intro k hk hl hS; simp only [At] at hS; subst hS; contradiction) | (intro k hk hl hS; simp only [At] at hS; subst hS; exact Grow.old (by omega) (by assumption) hk) | (intro k hk hl hS; (try simp only [At, From, No, Grow, New] at hk hS); omega))
                                obtain ⟨A9, c9, rfl, hc9⟩ := Own.form ho
                                refine WL.val rfl rfl rfl rfl (r_assign rfl (ev_t rfl)) ?_
                                refine WL.nil ?_
                                refine WX.keep [(0, _), (3, _), (5, _), (6, _), (7, _), (8, _), (9, _)] ⟨rfl, rfl, rfl, rfl, rfl, rfl, rfl, trivial⟩ ?_
                                replace ho : Own w9 (New w1 w9) 54 2 (.slice A9 (L + 1) c9) (L + 1) (plC s'.out) := by
                                  rw [g3, plC_append, ← g4, ← g5]
                                  exact ho.mono (fun k hk => New.of hk (by omega) (by omega))
                                have hL1 : L + 1 = s'.out.length := by rw [g3, hL]; simp
                                replace g2 : s'.look = rotN d.toNat (0, 1) := g2
                                refine WX.blockNormal ?_
                                refine WX.next ?_
                                -- region 9 ref.go:15
                                refine WC.region ?_
                                refine WL.val rfl rfl rfl rfl (r_move rfl (ev_t rfl)) ?_
                                first | refine WL.val rfl rfl rfl rfl (r_addN rfl (ev_t rfl) ev_c (by simp only [inK]; omega)) ?_ | refine WL.val rfl rfl rfl rfl (r_add rfl (ev_t rfl) ev_c) ?_
                                refine WL.val rfl rfl rfl rfl (r_assign rfl (ev_t rfl)) ?_
                                refine WL.nil ?_
                                refine WX.keep [(0, _), (3, _), (5, _), (6, _), (7, _), (8, _), (9, _)] ⟨rfl, rfl, rfl, rfl, rfl, rfl, rfl, trivial⟩ ?_
                                refine WX.meet [(0, _), (3, _), (5, _), (6, _), (7, _), (8, _), (9, _)] ⟨rfl, rfl, rfl, rfl, rfl, rfl, rfl, trivial⟩ ?_
                                first
                                  | exact ⟨l.length - (i + 1), by omega, i + 1, s', d, _, _, _, by omega, rfl, hU, by omega, hgs.trans g1, fine_step hf g1, hd0, hd4, g2, hL1, ho, hB1, hr, rfl⟩
                                  | (rw [← g3] at ho hL
                                     exact ⟨l.length - (i + 1), by omega, i + 1, s', _, _, _, _, by omega, rfl, hU, by omega, hgs.trans g1, fine_step hf g1, by omega, by omega, g2, hL, ho, hB1, hr, rfl⟩)
                            · try (exfalso; first | (simp at hc19; done) | (simp only [decide_eq_true_eq, decide_eq_false_iff_not, Bool.not_eq_true', Bool.not_eq_false', Bool.not_eq_true, Bool.not_eq_false] at hc19; omega) | omega)
                              all_goals
                                try simp only [decide_eq_true_eq, decide_eq_false_iff_not, Bool.not_eq_true', Bool.not_eq_false', Bool.not_eq_true, Bool.not_eq_false, Option.isNone_none, Option.isNone_some, Option.isSome_none, Option.isSome_some, ne_eq, Decidable.not_not] at hc19
                                refine WC.seq ?_
                                -- region 21 ref.go:29
                                refine WC.region ?_
                                refine WL.val rfl rfl rfl rfl (r_eql rfl (ev_t rfl) ev_c) ?_
                                refine WL.val rfl rfl rfl rfl (r_assign rfl (ev_t rfl)) ?_
                                refine WL.nil ?_
                                refine WX.keep [(0, _), (3, _), (5, _), (6, _), (7, _), (8, _), (9, _), (10, _), (61, _)] ⟨rfl, rfl, rfl, rfl, rfl, rfl, rfl, rfl, rfl, trivial⟩ ?_
                                refine WX.next ?_
                                refine WC.cond rfl (ev_t rfl) (fun hc21 => ?_) (fun hc21 => ?_)
                                · try (exfalso; first | (simp at hc21; done) | (simp only [decide_eq_true_eq, decide_eq_false_iff_not, Bool.not_eq_true', Bool.not_eq_false', Bool.not_eq_true, Bool.not_eq_false] at hc21; omega) | omega)
                                  all_goals
                                    try simp only [decide_eq_true_eq, decide_eq_false_iff_not, Bool.not_eq_true', Bool.not_eq_false', Bool.not_eq_true, Bool.not_eq_false, Option.isNone_none, Option.isNone_some, Option.isSome_none, Option.isSome_some, ne_eq, Decidable.not_not] at hc21
                                    rw [show d = 2 by omega] at hlk
                                    obtain ⟨s', g1, g2, g3, g4, g5⟩ := hfin s.pos.1 (s.pos.2 - n) (by rw [hlk]; simp [rotN, rot]) (by rw [hlk]; simp [rotN, rot]; omega)
                                    -- region 22 ref.go:30
                                    refine WC.region ?_
                                    refine WL.val rfl rfl rfl rfl (r_move rfl (ev_t rfl)) ?_
                                    refine WL.val rfl rfl rfl rfl (r_move rfl (ev_t rfl)) ?_
                                    first | refine WL.val rfl rfl rfl rfl (r_subN rfl (ev_t rfl) (ev_t rfl) (by simp only [inK]; omega)) ?_ | refine WL.val rfl rfl rfl rfl (r_sub rfl (ev_t rfl) (ev_t rfl)) ?_
                                    refine WL.val rfl rfl rfl rfl (r_assign rfl (ev_t rfl)) ?_
                                    refine WL.nil ?_
                                    refine WX.keep [(0, _), (3, _), (5, _), (6, _), (7, _), (8, _), (9, _)] ⟨rfl, rfl, rfl, rfl, rfl, rfl, rfl, trivial⟩ ?_
                                    refine WX.blockNormal ?_
                                    refine WX.next ?_
                                    -- region 23 ref.go:34
                                    refine WC.region ?_
                                    refine WL.val rfl rfl rfl rfl (r_move rfl (ev_t rfl)) ?_
                                    refine WL.val rfl rfl rfl rfl (r_move rfl (ev_t rfl)) ?_
                                    refine WL.val rfl rfl rfl rfl (r_move rfl (ev_t rfl)) ?_
                                    refine WL.val rfl rfl rfl rfl (r_buildA (cs := #[_, _]) (vs := [(0, _), (1, _)]) rfl ⟨⟨rfl, (ev_t rfl)⟩, ⟨rfl, (ev_t rfl)⟩, trivial⟩ arrz_54 zero_54 rfl) ?_
                                    rw [← g4, ← g5]
                                    refine WL.keep [(0, _), (3, _), (7, _), (9, _), (5, _), (6, _), (66, _), (69, .agg #[.int .i64 s'.pos.1, .int .i64 s'.pos.2])] ⟨rfl, rfl, rfl, rfl, rfl, rfl, rfl, rfl, trivial⟩ ?_
                                    refine WL.cons (SO.alloc rfl rfl rfl rfl (r_buildSlice (cs := #[_, _]) (vs := [(0, _)]) rfl ⟨⟨rfl, (ev_t rfl)⟩, trivial⟩ row_53 rfl rfl) ?_)
                                    intro w10 hu10 hB10 hz10
                                    have hs10 := hu10.size
                                    replace hU := hU.trans hu10 (by first | exact (fun _ _ h => h) | exact (fun _ _ h => h.elim) | (intro k hl hk; (try simp only [At, New, Grow, From, No] at hk ⊢); omega))
                                    replace hr := hr.upd hu10 (by first | exact (fun _ _ _ h => h) | (intro k hk hl hS; have := hk.2; simp only [At, New, Grow, From, No] at hS; omega))
                                    replace ho := ho.upd hu10 (by first | (with_reducible assumption) | exact (fun h => h) | exact (fun _ _ _ h => h) | (simp only [At]; omega) | (simp only [At, New, Grow, From, No]; omega) | (intro k hk hl hS; simp only [At] at hS; subst hS; contradiction) | (intro k hk hl hS; simp only [At] at hS; subst hS; exact Grow.old (by omega) (by assumption) hk) | (intro k hk hl hS; (try simp only [At, From, No, Grow, New] at hk hS); omega))
                                    replace hB1 := hB1.upd hu10 (by first | (with_reducible assumption) | exact (fun h => h) | exact (fun _ _ _ h => h) | (simp only [At]; omega) | (simp only [At, New, Grow, From, No]; omega) | (intro k hk hl hS; simp only [At] at hS; subst hS; contradiction) | (intro k hk hl hS; simp only [At] at hS; subst hS; exact Grow.old (by omega) (by assumption) hk) | (intro k hk hl hS; (try simp only [At, From, No, Grow, New] at hk hS); omega))
                                    replace hB10 : Blk w10 _ #[.int .i64 s'.pos.1, .int .i64 s'.pos.2] 54 := hB10
                                    refine WL.cons (SO.append ho (Rd.of_blk (F := At _) (n := 1) (sz := 2) hB10 rfl rfl (by omega)) row_53 (by intro u hu; simp at hu; rcases hu with rfl | rfl <;> rfl) (le_maxLen (by omega)) (by omega) rfl (ev_t rfl) (ev_t rfl) rfl rfl rfl rfl ?_)
                                    intro v11 w11 ho hu11
                                    have hs11 := hu11.size
                                    replace hU := hU.trans hu11 (by first | exact (fun _ _ h => h) | exact (fun _ _ h => h.elim) | (intro k hl hk; (try simp only [At, New, Grow, From, No] at hk ⊢); omega))
                                    replace hr := hr.upd hu11 (by first | exact (fun _ _ _ h => h) | (intro k hk hl hS; have := hk.2; simp only [At, New, Grow, From, No] at hS; omega))
                                    replace hB1 := hB1.upd hu11 (by first | (with_reducible assumption) | exact (fun h => h) | exact (fun _ _ _ h => h) | (simp only [At]; omega) | (simp only [At, New, Grow, From, No]; omega) | (intro k hk hl hS; simp only [At] at hS; subst hS; contradiction) | (intro k hk hl hS; simp only [At] at hS; subst hS; exact Grow.old (by omega) (by assumption) hk) | (intro k hk hl hS; (try simp only [At, From, No, Grow, New] at hk hS); omega))
                                    obtain ⟨A11, c11, rfl, hc11⟩ := Own.form ho
                                    refine WL.val rfl rfl rfl rfl (r_assign rfl (ev_t rfl)) ?_
                                    refine WL.nil ?_
                                    refine WX.keep [(0, _), (3, _), (5, _), (6, _), (7, _), (8, _), (9, _)] ⟨rfl, rfl, rfl, rfl, rfl, rfl, rfl, trivial⟩ ?_
                                    replace ho : Own w11 (New w1 w11) 54 2 (.slice A11 (L + 1) c11) (L + 1) (plC s'.out) := by
                                      rw [g3, plC_append, ← g4, ← g5]
                                      exact ho.mono (fun k hk => New.of hk (by omega) (by omega))
                                    have hL1 : L + 1 = s'.out.length := by rw [g3, hL]; simp
                                    replace g2 : s'.look = rotN d.toNat (0, 1) := g2
                                    refine WX.blockNormal ?_
                                    refine WX.next ?_
                                    -- region 9 ref.go:15
                                    refine WC.region ?_
                                    refine WL.val rfl rfl rfl rfl (r_move rfl (ev_t rfl)) ?_
                                    first | refine WL.val rfl rfl rfl rfl (r_addN rfl (ev_t rfl) ev_c (by simp only [inK]; omega)) ?_ | refine WL.val rfl rfl rfl rfl (r_add rfl (ev_t rfl) ev_c) ?_
                                    refine WL.val rfl rfl rfl rfl (r_assign rfl (ev_t rfl)) ?_
                                    refine WL.nil ?_
                                    refine WX.keep [(0, _), (3, _), (5, _), (6, _), (7, _), (8, _), (9, _)] ⟨rfl, rfl, rfl, rfl, rfl, rfl, rfl, trivial⟩ ?_
                                    refine WX.meet [(0, _), (3, _), (5, _), (6, _), (7, _), (8, _), (9, _)] ⟨rfl, rfl, rfl, rfl, rfl, rfl, rfl, trivial⟩ ?_
                                    first
                                      | exact ⟨l.length - (i + 1), by omega, i + 1, s', d, _, _, _, by omega, rfl, hU, by omega, hgs.trans g1, fine_step hf g1, hd0, hd4, g2, hL1, ho, hB1, hr, rfl⟩
                                      | (rw [← g3] at ho hL
                                         exact ⟨l.length - (i + 1), by omega, i + 1, s', _, _, _, _, by omega, rfl, hU, by omega, hgs.trans g1, fine_step hf g1, by omega, by omega, g2, hL, ho, hB1, hr, rfl⟩)
                                · try (exfalso; first | (simp at hc21; done) | (simp only [decide_eq_true_eq, decide_eq_false_iff_not, Bool.not_eq_true', Bool.not_eq_false', Bool.not_eq_true, Bool.not_eq_false] at hc21; omega) | omega)
                                  all_goals
                                    try simp only [decide_eq_true_eq, decide_eq_false_iff_not, Bool.not_eq_true', Bool.not_eq_false', Bool.not_eq_true, Bool.not_eq_false, Option.isNone_none, Option.isNone_some, Option.isSome_none, Option.isSome_some, ne_eq, Decidable.not_not] at hc21
                                    rw [show d = 3 by omega] at hlk
                                    obtain ⟨s', g1, g2, g3, g4, g5⟩ := hfin (s.pos.1 + n) s.pos.2 (by rw [hlk]; simp [rotN, rot]) (by rw [hlk]; simp [rotN, rot])
                                    -- region 16 ref.go:32
                                    refine WC.region ?_
                                    refine WL.val rfl rfl rfl rfl (r_move rfl (ev_t rfl)) ?_
                                    refine WL.val rfl rfl rfl rfl (r_move rfl (ev_t rfl)) ?_
                                    first | refine WL.val rfl rfl rfl rfl (r_addN rfl (ev_t rfl) (ev_t rfl) (by simp only [inK]; omega)) ?_ | refine WL.val rfl rfl rfl rfl (r_add rfl (ev_t rfl) (ev_t rfl)) ?_
                                    refine WL.val rfl rfl rfl rfl (r_assign rfl (ev_t rfl)) ?_
                                    refine WL.nil ?_
                                    refine WX.keep [(0, _), (3, _), (5, _), (6, _), (7, _), (8, _), (9, _)] ⟨rfl, rfl, rfl, rfl, rfl, rfl, rfl, trivial⟩ ?_
                                    refine WX.blockNormal ?_
                                    refine WX.next ?_
                                    -- region 23 ref.go:34
                                    refine WC.region ?_
                                    refine WL.val rfl rfl rfl rfl (r_move rfl (ev_t rfl)) ?_
                                    refine WL.val rfl rfl rfl rfl (r_move rfl (ev_t rfl)) ?_
                                    refine WL.val rfl rfl rfl rfl (r_move rfl (ev_t rfl)) ?_
                                    refine WL.val rfl rfl rfl rfl (r_buildA (cs := #[_, _]) (vs := [(0, _), (1, _)]) rfl ⟨⟨rfl, (ev_t rfl)⟩, ⟨rfl, (ev_t rfl)⟩, trivial⟩ arrz_54 zero_54 rfl) ?_
                                    rw [← g4, ← g5]
                                    refine WL.keep [(0, _), (3, _), (7, _), (9, _), (5, _), (6, _), (66, _), (69, .agg #[.int .i64 s'.pos.1, .int .i64 s'.pos.2])] ⟨rfl, rfl, rfl, rfl, rfl, rfl, rfl, rfl, trivial⟩ ?_
                                    refine WL.cons (SO.alloc rfl rfl rfl rfl (r_buildSlice (cs := #[_, _]) (vs := [(0, _)]) rfl ⟨⟨rfl, (ev_t rfl)⟩, trivial⟩ row_53 rfl rfl) ?_)
                                    intro w12 hu12 hB12 hz12
                                    have hs12 := hu12.size
                                    replace hU := hU.trans hu12 (by first | exact (fun _ _ h => h) | exact (fun _ _ h => h.elim) | (intro k hl hk; (try simp only [At, New, Grow, From, No] at hk ⊢); omega))
                                    replace hr := hr.upd hu12 (by first | exact (fun _ _ _ h => h) | (intro k hk hl hS; have := hk.2; simp only [At, New, Grow, From, No] at hS; omega))
                                    replace ho := ho.upd hu12 (by first | (with_reducible assumption) | exact (fun h => h) | exact (fun _ _ _ h => h) | (simp only [At]; omega) | (simp only [At, New, Grow, From, No]; omega) | (intro k hk hl hS; simp only [At] at hS; subst hS; contradiction) | (intro k hk hl hS; simp only [At] at hS; subst hS; exact Grow.old (by omega) (by assumption) hk) | (intro k hk hl hS; (try simp only [At, From, No, Grow, New] at hk hS); omega))
                                    replace hB1 := hB1.upd hu12 (by first | (with_reducible assumption) | exact (fun h => h) | exact (fun _ _ _ h => h) | (simp only [At]; omega) | (simp only [At, New, Grow, From, No]; omega) | (intro k hk hl hS; simp only [At] at hS; subst hS; contradiction) | (intro k hk hl hS; simp only [At] at hS; subst hS; exact Grow.old (by omega) (by assumption) hk) | (intro k hk hl hS; (try simp only [At, From, No, Grow, New] at hk hS); omega))
                                    replace hB12 : Blk w12 _ #[.int .i64 s'.pos.1, .int .i64 s'.pos.2] 54 := hB12
                                    refine WL.cons (SO.append ho (Rd.of_blk (F := At _) (n := 1) (sz := 2) hB12 rfl rfl (by omega)) row_53 (by intro u hu; simp at hu; rcases hu with rfl | rfl <;> rfl) (le_maxLen (by omega)) (by omega) rfl (ev_t rfl) (ev_t rfl) rfl rfl rfl rfl ?_)
                                    intro v13 w13 ho hu13
                                    have hs13 := hu13.size
                                    replace hU := hU.trans hu13 (by first | exact (fun _ _ h => h) | exact (fun _ _ h => h.elim) | (intro k hl hk; (try simp only [At, New, Grow, From, No] at hk ⊢); omega))
                                    replace hr := hr.upd hu13 (by first | exact (fun _ _ _ h => h) | (intro k hk hl hS; have := hk.2; simp only [At, New, Grow, From, No] at hS; omega))
                                    replace hB1 := hB1.upd hu13 (by first | (with_reducible assumption) | exact (fun h => h) | exact (fun _ _ _ h => h) | (simp only [At]; omega) | (simp only [At, New, Grow, From, No]; omega) | (intro k hk hl hS; simp only [At] at hS; subst hS; contradiction) | (intro k hk hl hS; simp only [At] at hS; subst hS; exact Grow.old (by omega) (by assumption) hk) | (intro k hk hl hS; (try simp only [At, From, No, Grow, New] at hk hS); omega))
                                    obtain ⟨A13, c13, rfl, hc13⟩ := Own.form ho
                                    refine WL.val rfl rfl rfl rfl (r_assign rfl (ev_t rfl)) ?_
                                    refine WL.nil ?_
                                    refine WX.keep [(0, _), (3, _), (5, _), (6, _), (7, _), (8, _), (9, _)] ⟨rfl, rfl, rfl, rfl, rfl, rfl, rfl, trivial⟩ ?_
                                    replace ho : Own w13 (New w1 w13) 54 2 (.slice A13 (L + 1) c13) (L + 1) (plC s'.out) := by
                                      rw [g3, plC_append, ← g4, ← g5]
                                      exact ho.mono (fun k hk => New.of hk (by omega) (by omega))
                                    have hL1 : L + 1 = s'.out.length := by rw [g3, hL]; simp
                                    replace g2 : s'.look = rotN d.toNat (0, 1) := g2
                                    refine WX.blockNormal ?_
                                    refine WX.next ?_
                                    -- region 9 ref.go:15
                                    refine WC.region ?_
                                    refine WL.val rfl rfl rfl rfl (r_move rfl (ev_t rfl)) ?_
                                    first | refine WL.val rfl rfl rfl rfl (r_addN rfl (ev_t rfl) ev_c (by simp only [inK]; omega)) ?_ | refine WL.val rfl rfl rfl rfl (r_add rfl (ev_t rfl) ev_c) ?_
                                    refine WL.val rfl rfl rfl rfl (r_assign rfl (ev_t rfl)) ?_
                                    refine WL.nil ?_
                                    refine WX.keep [(0, _), (3, _), (5, _), (6, _), (7, _), (8, _), (9, _)] ⟨rfl, rfl, rfl, rfl, rfl, rfl, rfl, trivial⟩ ?_
                                    refine WX.meet [(0, _), (3, _), (5, _), (6, _), (7, _), (8, _), (9, _)] ⟨rfl, rfl, rfl, rfl, rfl, rfl, rfl, trivial⟩ ?_
                                    first
                                      | exact ⟨l.length - (i + 1), by omega, i + 1, s', d, _, _, _, by omega, rfl, hU, by omega, hgs.trans g1, fine_step hf g1, hd0, hd4, g2, hL1, ho, hB1, hr, rfl⟩
                                      | (rw [← g3] at ho hL
                                         exact ⟨l.length - (i + 1), by omega, i + 1, s', _, _, _, _, by omega, rfl, hU, by omega, hgs.trans g1, fine_step hf g1, by omega, by omega, g2, hL, ho, hB1, hr, rfl⟩)
        · try (exfalso; first | (simp at hc8; done) | (simp only [decide_eq_true_eq, decide_eq_false_iff_not, Bool.not_eq_true', Bool.not_eq_false', Bool.not_eq_true, Bool.not_eq_false] at hc8; omega) | omega)
          all_goals
            try simp only [decide_eq_true_eq, decide_eq_false_iff_not, Bool.not_eq_true', Bool.not_eq_false', Bool.not_eq_true, Bool.not_eq_false, Option.isNone_none, Option.isNone_some, Option.isSome_none, Option.isSome_some, ne_eq, Decidable.not_not] at hc8
            obtain rfl : i = l.length := by omega
            rw [List.take_length] at hg
            have hp : pathR l = (s.out, s.look, 0) := by unfold pathR; rw [if_neg (by omega), hg]
            refine WC.exit ?_
            refine WX.thenExit ?_
            refine WX.thenExit ?_
            refine WX.blockHere ?_
            refine WX.next ?_
            refine WC.seq ?_
            -- region 24 ref.go:36
            refine WC.region ?_
            refine WL.val rfl rfl rfl rfl (r_buildA (cs := #[_, _]) (vs := [(0, _), (1, _)]) rfl ⟨⟨rfl, ev_c⟩, ⟨rfl, ev_c⟩, trivial⟩ arrz_54 zero_54 rfl) ?_
            refine WL.val rfl rfl rfl rfl (r_buildA (cs := #[_, _]) (vs := [(0, _), (1, _)]) rfl ⟨⟨rfl, ev_c⟩, ⟨rfl, ev_c⟩, trivial⟩ arrz_54 zero_54 rfl) ?_
            refine WL.val rfl rfl rfl rfl (r_buildA (cs := #[_, _]) (vs := [(0, _), (1, _)]) rfl ⟨⟨rfl, ev_c⟩, ⟨rfl, ev_c⟩, trivial⟩ arrz_54 zero_54 rfl) ?_
            refine WL.val rfl rfl rfl rfl (r_buildA (cs := #[_, _]) (vs := [(0, _), (1, _)]) rfl ⟨⟨rfl, ev_c⟩, ⟨rfl, ev_c⟩, trivial⟩ arrz_54 zero_54 rfl) ?_
            refine WL.keep [(3, _), (7, _), (8, _), (72, .agg #[.int .i64 0, .int .i64 1]), (73, .agg #[.int .i64 (-1), .int .i64 0]), (74, .agg #[.int .i64 0, .int .i64 (-1)]), (75, .agg #[.int .i64 1, .int .i64 0])] ⟨rfl, rfl, rfl, rfl, rfl, rfl, rfl, trivial⟩ ?_
            refine WL.cons (SO.alloc rfl rfl rfl rfl (r_buildSlice (cs := #[_, _, _, _, _, _, _, _]) (vs := [(0, _), (1, _), (2, _), (3, _)]) rfl ⟨⟨rfl, (ev_t rfl)⟩, ⟨rfl, (ev_t rfl)⟩, ⟨rfl, (ev_t rfl)⟩, ⟨rfl, (ev_t rfl)⟩, trivial⟩ row_53 rfl rfl) ?_)
            intro w14 hu14 hB14 hz14
            have hs14 := hu14.size
            replace hU := hU.trans hu14 (by first | exact (fun _ _ h => h) | exact (fun _ _ h => h.elim) | (intro k hl hk; (try simp only [At, New, Grow, From, No] at hk ⊢); omega))
            replace hr := hr.upd hu14 (by first | exact (fun _ _ _ h => h) | (intro k hk hl hS; have := hk.2; simp only [At, New, Grow, From, No] at hS; omega))
            replace ho := ho.upd hu14 (by first | (with_reducible assumption) | exact (fun h => h) | exact (fun _ _ _ h => h) | (simp only [At]; omega) | (simp only [At, New, Grow, From, No]; omega) | (intro k hk hl hS; simp only [At] at hS; subst hS; contradiction) | (intro k hk hl hS; simp only [At] at hS; subst hS; exact Grow.old (by omega) (by assumption) hk) | (intro k hk hl hS; (try simp only [At, From, No, Grow, New] at hk hS); omega))
            replace hB1 := hB1.upd hu14 (by first | (with_reducible assumption) | exact (fun h => h) | exact (fun _ _ _ h => h) | (simp only [At]; omega) | (simp only [At, New, Grow, From, No]; omega) | (intro k hk hl hS; simp only [At] at hS; subst hS; contradiction) | (intro k hk hl hS; simp only [At] at hS; subst hS; exact Grow.old (by omega) (by assumption) hk) | (intro k hk hl hS; (try simp only [At, From, No, Grow, New] at hk hS); omega))
            refine WL.val rfl rfl rfl rfl (r_assign rfl (ev_t rfl)) ?_
            refine WL.nil ?_
            refine WX.keep [(3, _), (7, _), (8, _), (11, _)] ⟨rfl, rfl, rfl, rfl, trivial⟩ ?_
            replace hB14 : Blk w14 _ dirC.toArray 54 := hB14
            have hdir := dirC_get hd0 hd4
            rw [← hlk] at hdir
            refine WX.next ?_
            refine WC.seq ?_
            -- region 25 ref.go:37 DRAWS
            refine WC.draws' (fun u0_ u1_ => Upd No u0_ u1_) (fun j => [0, 0, 0, 0, 2, 0, 2, 0].getD j 0) (.calm 0 (.calm 1 (.calm 2 (.calm 3 (.calm 5 (.one 4 (.one 6 (.calm 7 (.done))))))))) mixed (by kernel_rfl) (by repeat (first | with_reducible exact Deaf.body | with_reducible apply Deaf.then | with_reducible apply Deaf.block)) ?_
            intro w15 hu15
            have hz15 := congrArg Array.size hu15.2.2.2
            replace hu15 := Upd.of_draw hu15
            have hs15 := hu15.size
            replace hU := hU.trans hu15 (by first | exact (fun _ _ h => h) | exact (fun _ _ h => h.elim) | (intro k hl hk; (try simp only [At, New, Grow, From, No] at hk ⊢); omega))
            replace hr := hr.upd hu15 (by first | exact (fun _ _ _ h => h) | (intro k hk hl hS; have := hk.2; simp only [At, New, Grow, From, No] at hS; omega))
            replace ho := ho.upd hu15 (by first | (with_reducible assumption) | exact (fun h => h) | exact (fun _ _ _ h => h) | (simp only [At]; omega) | (simp only [At, New, Grow, From, No]; omega) | (intro k hk hl hS; simp only [At] at hS; subst hS; contradiction) | (intro k hk hl hS; simp only [At] at hS; subst hS; exact Grow.old (by omega) (by assumption) hk) | (intro k hk hl hS; (try simp only [At, From, No, Grow, New] at hk hS); omega))
            replace hB1 := hB1.upd hu15 (by first | (with_reducible assumption) | exact (fun h => h) | exact (fun _ _ _ h => h) | (simp only [At]; omega) | (simp only [At, New, Grow, From, No]; omega) | (intro k hk hl hS; simp only [At] at hS; subst hS; contradiction) | (intro k hk hl hS; simp only [At] at hS; subst hS; exact Grow.old (by omega) (by assumption) hk) | (intro k hk hl hS; (try simp only [At, From, No, Grow, New] at hk hS); omega))
            replace hB14 := hB14.upd hu15 (by first | (with_reducible assumption) | exact (fun h => h) | exact (fun _ _ _ h => h) | (simp only [At]; omega) | (simp only [At, New, Grow, From, No]; omega) | (intro k hk hl hS; simp only [At] at hS; subst hS; contradiction) | (intro k hk hl hS; simp only [At] at hS; subst hS; exact Grow.old (by omega) (by assumption) hk) | (intro k hk hl hS; (try simp only [At, From, No, Grow, New] at hk hS); omega))
            refine WN.calm _ rfl rfl rfl rfl rfl (fun _ => r_move rfl (ev_t rfl)) ?_
            refine WN.calm _ rfl rfl rfl rfl rfl (fun _ => r_move rfl (ev_t rfl)) ?_
            refine WN.calm _ rfl rfl rfl rfl rfl (fun _ => r_move rfl (ev_t rfl)) ?_
            refine WN.calm _ rfl rfl rfl rfl rfl (fun _ => r_indexAddr rfl (ev_t rfl) (ev_t rfl) elem_53 size_54 (by omega) (by omega)) ?_
            refine WN.calm _ rfl rfl rfl rfl rfl (fun _ => r_assign rfl (ev_t rfl)) ?_
            refine WN.step _ rfl (SO.val rfl rfl rfl rfl (r_loadAgg (vs := [_, _]) rfl (ev_t rfl) agg_54 size_54 ((Rd.of_blk (F := At _) (n := 4) (sz := 2) hB14 rfl rfl (by omega)).cells2 (i := d.toNat) hdir.1 hdir.2 (by omega))) ?_)
            refine ⟨trivial, ?_⟩
            refine WN.step _ rfl (SO.store2 rfl (ev_t rfl) (ev_t rfl) size_54 hB1 rfl rfl rfl rfl rfl rfl ?_)
            intro w16 hu16 hB1 hz16
            have hs16 := hu16.size
            replace hU := hU.trans hu16 (by first | exact (fun _ _ h => h) | exact (fun _ _ h => h.elim) | (intro k hl hk; (try simp only [At, New, Grow, From, No] at hk ⊢); omega))
            replace hr := hr.upd hu16 (by first | exact (fun _ _ _ h => h) | (intro k hk hl hS; have := hk.2; simp only [At, New, Grow, From, No] at hS; omega))
            replace ho := ho.upd hu16 (by first | (with_reducible assumption) | exact (fun h => h) | exact (fun _ _ _ h => h) | (simp only [At]; omega) | (simp only [At, New, Grow, From, No]; omega) | (intro k hk hl hS; simp only [At] at hS; subst hS; contradiction) | (intro k hk hl hS; simp only [At] at hS; subst hS; exact Grow.old (by omega) (by assumption) hk) | (intro k hk hl hS; (try simp only [At, From, No, Grow, New] at hk hS); omega))
            replace hB14 := hB14.upd hu16 (by first | (with_reducible assumption) | exact (fun h => h) | exact (fun _ _ _ h => h) | (simp only [At]; omega) | (simp only [At, New, Grow, From, No]; omega) | (intro k hk hl hS; simp only [At] at hS; subst hS; contradiction) | (intro k hk hl hS; simp only [At] at hS; subst hS; exact Grow.old (by omega) (by assumption) hk) | (intro k hk hl hS; (try simp only [At, From, No, Grow, New] at hk hS); omega))
            refine ⟨trivial, ?_⟩
            replace hB1 : Blk w16 _ #[.int .i64 s.look.1, .int .i64 s.look.2] 54 := hB1
            refine WN.calm _ rfl rfl rfl rfl rfl (fun _ => r_assign rfl ev_c) ?_
            refine WN.done ?_
            refine WX.keep [(2, _), (3, _), (4, _)] ⟨rfl, rfl, rfl, trivial⟩ ?_
            refine WX.next ?_
            refine WC.ret ?_
            refine WX.retM (l := [.tmp 2, .cell 3 54, .tmp 4]) (vs := [_, _, _]) rfl ⟨rfl, ⟨⟨_, [_, _], rfl, agg_54, size_54, (Blk.cells2 hB1), rfl⟩, ⟨rfl, trivial⟩⟩⟩ ?_
            rw [hp]
            subst hL
            exact ⟨_, rfl, ho.mono (fun k hk => ⟨by have := hk.1; omega, by have := hk.2; omega⟩), hU⟩
end Go.Proofs.Ytjiafgnibhgfbaa
