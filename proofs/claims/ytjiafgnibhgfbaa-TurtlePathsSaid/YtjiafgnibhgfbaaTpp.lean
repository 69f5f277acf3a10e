/-
  turtle: Path, Look.
-/
import Derived.Test.YtjiafgnibhgfbaaTpa
namespace Go.Proofs.Ytjiafgnibhgfbaa
open Go
set_option linter.unusedSimpArgs false
set_option linter.unusedVariables false

theorem pathR_bound {l : List Mv} : (∀ p ∈ (pathR l).1, p.1.natAbs ≤ 1000000000 ∧ p.2.natAbs ≤ 1000000000) ∧ (pathR l).1.length ≤ 1001 ∧ (pathR l).2.1.1.natAbs ≤ 1 ∧ (pathR l).2.1.2.natAbs ≤ 1 := by
  by_cases hl : 1000 < l.length
  · have hp : pathR l = ([], (0, 0), 2) := by unfold pathR; rw [if_pos hl]
    rw [hp]
    exact ⟨(fun p hp => by cases hp), by simp, by decide, by decide⟩
  · cases h : goM l ts0 with
    | none =>
      have hp : pathR l = ([], (0, 0), 1) := by unfold pathR; rw [if_neg hl, h]
      rw [hp]
      exact ⟨(fun p hp => by cases hp), by simp, by decide, by decide⟩
    | some s =>
      have hp : pathR l = (s.out, s.look, 0) := by unfold pathR; rw [if_neg hl, h]
      rw [hp]
      have hf := fine_go fine0 h
      rw [Nat.zero_add] at hf
      have hu := hf.u
      have hlen := hf.len
      unfold unit at hu
      refine ⟨fun p hp => ?_, by simp only; omega, by simp only; omega, by simp only; omega⟩
      have := hf.out p hp
      omega

theorem CIs.get : ∀ {vs : List Value} {ps : List (Int × Int)}, CIs vs ps → ∀ {i : Nat} {p : Int × Int}, ps[i]? = some p → ∃ v, vs[i]? = some v ∧ CI v p
  | [], [], _, i, p, h => by simp at h
  | [], _ :: _, h, _, _, _ => h.elim
  | _ :: _, [], h, _, _, _ => h.elim
  | v :: vs, q :: ps, h, 0, p, hp => by
    simp only [List.getElem?_cons_zero, Option.some.injEq] at hp
    subst hp
    exact ⟨v, rfl, h.1⟩
  | v :: vs, q :: ps, h, i + 1, p, hp => CIs.get h.2 (i := i) (by simpa using hp)

/-- the cells of places -/
def plC (l : List (Int × Int)) : List Value := l.flatMap fun p => [.int .i64 p.1, .int .i64 p.2]
theorem plC_append (a b : List (Int × Int)) : plC (a ++ b) = plC a ++ plC b := by simp [plC]

theorem Path_ok {w : World} {F : Nat → Prop} {lv : Value} {n : Nat} {l : List Mv} (hr : Rd w F lv n 2 (movC l)) (hN : ∀ m ∈ l, inK .i64 m.2) :
    Ret Try.prog 18 #[lv] w fun v' w' => ∃ u, v' = .tuple #[u, .int .i64 ((pathR l).2.2 : Int)] ∧ Own w' (New w w') 32 2 u (pathR l).1.length (plC (pathR l).1) ∧ Upd No w w' := by
  obtain ⟨hpb, hpl, _, _⟩ := pathR_bound (l := l)
  refine enterRet (vs := [_]) (N := 30) Try.func18 rfl rfl rfl ?_
  have hU := Upd.refl No w
  refine WC.keep [(0, _)] ⟨rfl, trivial⟩ ?_
  refine WC.seq ?_
  -- region 0 turtle.go:41
  refine WC.region ?_
  refine WL.val rfl rfl rfl rfl (r_assign rfl ev_c) ?_
  refine WL.val rfl rfl rfl rfl (r_assign rfl ev_c) ?_
  refine WL.nil ?_
  refine WX.keep [(0, _)] ⟨rfl, trivial⟩ ?_
  refine WX.next ?_
  refine WC.seq ?_
  -- region 1 turtle.go:42
  refine WC.region ?_
  refine WL.val rfl rfl rfl rfl (r_move rfl (ev_t rfl)) ?_
  refine WL.cons (SO.call (path_ok hr hN) rfl body_52 ⟨(ev_t rfl), trivial⟩ rfl rfl rfl rfl ?_)
  rintro v w1 ⟨u, cc, vs, rfl, hci, ho, hcs, hu1⟩
  have hs1 := hu1.size
  replace hU := hU.trans hu1 (by first | exact (fun _ _ h => h) | exact (fun _ _ h => h.elim) | (intro k hl hk; (try simp only [At, New, Grow, From, No] at hk ⊢); omega))
  obtain ⟨A4, c4, rfl, hc4⟩ := Own.form ho
  generalize (pathR l).1 = out at *
  generalize (pathR l).2.2 = er at *
  refine WL.val rfl rfl rfl rfl (r_move rfl (ev_t rfl)) ?_
  refine WL.val rfl rfl rfl rfl (r_extract rfl (ev_t rfl) rfl) ?_
  refine WL.val rfl rfl rfl rfl (r_extract rfl (ev_t rfl) rfl) ?_
  refine WL.val rfl rfl rfl rfl (r_extract rfl (ev_t rfl) rfl) ?_
  refine WL.val rfl rfl rfl rfl (r_assign rfl (ev_t rfl)) ?_
  refine WL.val rfl rfl rfl rfl (r_assign rfl (ev_t rfl)) ?_
  refine WL.val rfl rfl rfl rfl (r_assign rfl (ev_t rfl)) ?_
  refine WL.nil ?_
  refine WX.keep [(4, _), (6, _)] ⟨rfl, rfl, trivial⟩ ?_
  refine WX.next ?_
  refine WC.seq ?_
  -- region 2 turtle.go:43
  refine WC.region ?_
  refine WL.val rfl rfl rfl rfl (r_assign rfl ev_c) ?_
  refine WL.nil ?_
  refine WX.keep [(4, _), (6, _), (7, _)] ⟨rfl, rfl, rfl, trivial⟩ ?_
  refine WX.next ?_
  refine WC.seq ?_
  refine WC.seq ?_
  -- region 3 turtle.go:44
  refine WC.region ?_
  refine WL.val rfl rfl rfl rfl (r_move rfl (ev_t rfl)) ?_
  refine WL.val rfl rfl rfl rfl (r_lenSlice (ts := #[]) rfl (ev_t rfl) elem_89) ?_
  refine WL.val rfl rfl rfl rfl (r_move rfl ev_c) ?_
  refine WL.nil ?_
  refine WX.keep [(6, _), (7, _), (16, _), (17, _), (18, _)] ⟨rfl, rfl, rfl, rfl, rfl, trivial⟩ ?_
  refine WX.next ?_
  refine WC.block ?_
  -- loop 1: live [6, 7, 16, 17, 18]
  refine WC.keep [(6, _), (7, _), (16, _), (17, _), (18, _)] ⟨rfl, rfl, rfl, rfl, rfl, trivial⟩ ?_
  refine WC.loop (fun q E w' => ∃ (i : Nat) (A7 : Option Addr) (c7 : Nat), i ≤ out.length ∧ q = out.length - i ∧ Upd No w w' ∧ w1.heap.size ≤ w'.heap.size ∧ Own w' (New w w1) 90 1 (.slice A4 out.length c4) out.length vs ∧ Own w' (New w1 w') 32 2 (.slice A7 i c7) i (plC (out.take i)) ∧   E = [(6, .int .i64 (er : Int)), (7, .slice A7 i c7), (16, .slice A4 out.length c4), (17, .int .i64 (out.length : Int)), (18, .int .i64 (i : Int))]) (out.length) ?_ ?_
  · exact ⟨0, none, 0, by omega, by omega, hU, by omega, ho, Own.nil _ _ _ _, rfl⟩
  · rintro q E w' ⟨i, A7, c7, hi, rfl, hU, hw1, ho, hp, rfl⟩
    have hs0 := hU.size
    refine WC.seq ?_
    -- region 4 turtle.go:44
    refine WC.region ?_
    refine WL.val rfl rfl rfl rfl (r_lss rfl (ev_t rfl) (ev_t rfl)) ?_
    refine WL.nil ?_
    refine WX.keep [(6, _), (7, _), (16, _), (17, _), (18, _), (19, _)] ⟨rfl, rfl, rfl, rfl, rfl, rfl, trivial⟩ ?_
    refine WX.next ?_
    refine WC.seq ?_
    refine WC.cond rfl (ev_t rfl) (fun hc4 => ?_) (fun hc4 => ?_)
    · try (exfalso; first | (simp at hc4; done) | (simp only [decide_eq_true_eq, decide_eq_false_iff_not, Bool.not_eq_true', Bool.not_eq_false', Bool.not_eq_true, Bool.not_eq_false] at hc4; omega) | omega)
      all_goals
        try simp only [decide_eq_true_eq, decide_eq_false_iff_not, Bool.not_eq_true', Bool.not_eq_false', Bool.not_eq_true, Bool.not_eq_false, Option.isNone_none, Option.isNone_some, Option.isSome_none, Option.isSome_some, ne_eq, Decidable.not_not] at hc4
        have hi' : i < out.length := by omega
        obtain ⟨b, off, rfl, _⟩ := (ho.rd (by omega)).open (by omega)
        obtain ⟨v, hv, hcv⟩ := hcs.get (List.getElem?_eq_getElem hi')
        have hpi := hpb out[i] (List.getElem_mem hi')
        refine WC.skip ?_
        refine WX.next ?_
        refine WC.seq ?_
        refine WC.block ?_
        refine WC.seq ?_
        -- region 5 turtle.go:44
        refine WC.region ?_
        refine WL.val rfl rfl rfl rfl (r_indexAddr rfl (ev_t rfl) (ev_t rfl) elem_89 size_90 (by omega) (by omega)) ?_
        refine WL.val rfl rfl rfl rfl (r_load rfl (ev_t rfl) flat_90 ((ho.rd (by omega)).cell (j := i) (by omega) hv)) ?_
        refine WL.val rfl rfl rfl rfl (r_assign rfl (ev_t rfl)) ?_
        refine WL.nil ?_
        refine WX.keep [(6, _), (7, _), (9, _), (16, _), (17, _), (18, _)] ⟨rfl, rfl, rfl, rfl, rfl, rfl, trivial⟩ ?_
        refine WX.next ?_
        -- region 6 turtle.go:45
        refine WC.region ?_
        refine WL.val rfl rfl rfl rfl (r_move rfl (ev_t rfl)) ?_
        refine WL.val rfl rfl rfl rfl (r_move rfl (ev_t rfl)) ?_
        refine WL.cons (SO.call (place_ok hcv (by omega) (by omega)) rfl body_53 ⟨(ev_t rfl), trivial⟩ rfl rfl rfl rfl ?_)
        rintro v2 w2 ⟨rfl, hu2⟩
        have hs2 := hu2.size
        replace hU := hU.trans hu2 (by first | exact (fun _ _ h => h) | exact (fun _ _ h => h.elim) | (intro k hl hk; (try simp only [At, New, Grow, From, No] at hk ⊢); omega))
        replace ho := ho.upd hu2 (by first | (with_reducible assumption) | exact (fun h => h) | exact (fun _ _ _ h => h) | (simp only [At]; omega) | (simp only [At, New, Grow, From, No]; omega) | (intro k hk hl hS; simp only [At] at hS; subst hS; contradiction) | (intro k hk hl hS; simp only [At] at hS; subst hS; exact Grow.old (by omega) (by assumption) hk) | (intro k hk hl hS; (try simp only [At, From, No, Grow, New] at hk hS); omega))
        replace hp := hp.upd hu2 (by first | (with_reducible assumption) | exact (fun h => h) | exact (fun _ _ _ h => h) | (simp only [At]; omega) | (simp only [At, New, Grow, From, No]; omega) | (intro k hk hl hS; simp only [At] at hS; subst hS; contradiction) | (intro k hk hl hS; simp only [At] at hS; subst hS; exact Grow.old (by omega) (by assumption) hk) | (intro k hk hl hS; (try simp only [At, From, No, Grow, New] at hk hS); omega))
        refine WL.cons (SO.alloc rfl rfl rfl rfl (r_buildSlice (cs := #[_, _]) (vs := [(0, _)]) rfl ⟨⟨rfl, (ev_t rfl)⟩, trivial⟩ row_27 rfl rfl) ?_)
        intro w3 hu3 hB3 hz3
        have hs3 := hu3.size
        replace hU := hU.trans hu3 (by first | exact (fun _ _ h => h) | exact (fun _ _ h => h.elim) | (intro k hl hk; (try simp only [At, New, Grow, From, No] at hk ⊢); omega))
        replace ho := ho.upd hu3 (by first | (with_reducible assumption) | exact (fun h => h) | exact (fun _ _ _ h => h) | (simp only [At]; omega) | (simp only [At, New, Grow, From, No]; omega) | (intro k hk hl hS; simp only [At] at hS; subst hS; contradiction) | (intro k hk hl hS; simp only [At] at hS; subst hS; exact Grow.old (by omega) (by assumption) hk) | (intro k hk hl hS; (try simp only [At, From, No, Grow, New] at hk hS); omega))
        replace hp := hp.upd hu3 (by first | (with_reducible assumption) | exact (fun h => h) | exact (fun _ _ _ h => h) | (simp only [At]; omega) | (simp only [At, New, Grow, From, No]; omega) | (intro k hk hl hS; simp only [At] at hS; subst hS; contradiction) | (intro k hk hl hS; simp only [At] at hS; subst hS; exact Grow.old (by omega) (by assumption) hk) | (intro k hk hl hS; (try simp only [At, From, No, Grow, New] at hk hS); omega))
        refine WL.cons (SO.append hp (Rd.of_blk (F := At _) (n := 1) (sz := 2) hB3 rfl rfl (by omega)) row_27 (by intro u hu; simp at hu; rcases hu with rfl | rfl <;> rfl) (le_maxLen (by omega)) (by omega) rfl (ev_t rfl) (ev_t rfl) rfl rfl rfl rfl ?_)
        intro v4 w4 hp hu4
        have hs4 := hu4.size
        replace hU := hU.trans hu4 (by first | exact (fun _ _ h => h) | exact (fun _ _ h => h.elim) | (intro k hl hk; (try simp only [At, New, Grow, From, No] at hk ⊢); omega))
        replace ho := ho.upd hu4 (by first | (with_reducible assumption) | exact (fun h => h) | exact (fun _ _ _ h => h) | (simp only [At]; omega) | (simp only [At, New, Grow, From, No]; omega) | (intro k hk hl hS; simp only [At] at hS; subst hS; contradiction) | (intro k hk hl hS; simp only [At] at hS; subst hS; exact Grow.old (by omega) (by assumption) hk) | (intro k hk hl hS; (try simp only [At, From, No, Grow, New] at hk hS); omega))
        obtain ⟨A4, c4, rfl, hc4⟩ := Own.form hp
        refine WL.val rfl rfl rfl rfl (r_assign rfl (ev_t rfl)) ?_
        refine WL.nil ?_
        refine WX.keep [(6, _), (7, _), (16, _), (17, _), (18, _)] ⟨rfl, rfl, rfl, rfl, rfl, trivial⟩ ?_
        refine WX.blockNormal ?_
        refine WX.next ?_
        -- region 7 turtle.go:44
        refine WC.region ?_
        first | refine WL.val rfl rfl rfl rfl (r_addN rfl (ev_t rfl) ev_c (by simp only [inK]; omega)) ?_ | refine WL.val rfl rfl rfl rfl (r_add rfl (ev_t rfl) ev_c) ?_
        refine WL.val rfl rfl rfl rfl (r_move rfl (ev_t rfl)) ?_
        refine WL.nil ?_
        refine WX.keep [(6, _), (7, _), (16, _), (17, _), (18, _)] ⟨rfl, rfl, rfl, rfl, rfl, trivial⟩ ?_
        refine WX.meet [(6, _), (7, _), (16, _), (17, _), (18, _)] ⟨rfl, rfl, rfl, rfl, rfl, trivial⟩ ?_
        have h1 : Own w4 (New w1 w4) 32 2 (.slice A4 (i + 1) c4) (i + 1) (plC (out.take (i + 1))) := by
          rw [List.take_succ_eq_append_getElem hi', plC_append]
          exact hp.mono (fun k hk => New.of hk (by omega) (by omega))
        exact ⟨out.length - (i + 1), by omega, i + 1, _, _, by omega, rfl, hU, by omega, ho, h1, rfl⟩
    · try (exfalso; first | (simp at hc4; done) | (simp only [decide_eq_true_eq, decide_eq_false_iff_not, Bool.not_eq_true', Bool.not_eq_false', Bool.not_eq_true, Bool.not_eq_false] at hc4; omega) | omega)
      all_goals
        try simp only [decide_eq_true_eq, decide_eq_false_iff_not, Bool.not_eq_true', Bool.not_eq_false', Bool.not_eq_true, Bool.not_eq_false, Option.isNone_none, Option.isNone_some, Option.isSome_none, Option.isSome_some, ne_eq, Decidable.not_not] at hc4
        obtain rfl : i = out.length := by omega
        rw [List.take_length] at hp
        refine WC.exit ?_
        refine WX.thenExit ?_
        refine WX.thenExit ?_
        refine WX.blockHere ?_
        refine WX.next ?_
        refine WC.seq ?_
        -- region 8 turtle.go:47
        refine WC.region ?_
        refine WL.val rfl rfl rfl rfl (r_move rfl (ev_t rfl)) ?_
        refine WL.val rfl rfl rfl rfl (r_move rfl (ev_t rfl)) ?_
        refine WL.val rfl rfl rfl rfl (r_assign rfl (ev_t rfl)) ?_
        refine WL.val rfl rfl rfl rfl (r_assign rfl (ev_t rfl)) ?_
        refine WL.nil ?_
        refine WX.keep [(2, _), (3, _)] ⟨rfl, rfl, trivial⟩ ?_
        refine WX.next ?_
        refine WC.ret ?_
        refine WX.retE2 rfl rfl rfl ?_
        exact ⟨_, rfl, hp.mono (fun k hk => ⟨by have := hk.1; omega, hk.2⟩), hU⟩
end Go.Proofs.Ytjiafgnibhgfbaa
