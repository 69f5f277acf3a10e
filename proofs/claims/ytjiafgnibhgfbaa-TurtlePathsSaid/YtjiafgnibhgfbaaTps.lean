/-
  any moves: where the turtle stood, and looks, the least rectangle about that, the area: the walk.
-/
import Derived.Test.YtjiafgnibhgfbaaTrf
import Derived.Test.YtjiafgnibhgfbaaFm
namespace Go.Proofs.Ytjiafgnibhgfbaa
open Go
set_option linter.unusedSimpArgs false
set_option linter.unusedVariables false

theorem pathR_bad {l : List Mv} {out : List (Int × Int)} {lk : Int × Int} {e : Nat} (h : pathR l = (out, lk, e)) (he : e ≠ 0) : out = [] ∧ lk = (0, 0) := by
  unfold pathR at h
  split at h
  · injection h with h1 h2
    injection h2 with h2 h3
    exact ⟨h1.symm, h2.symm⟩
  · split at h
    · injection h with h1 h2
      injection h2 with h2 h3
      exact ⟨h1.symm, h2.symm⟩
    · injection h with h1 h2
      injection h2 with h2 h3
      omega
/-- one of two -/
def comp (p : Int × Int) (j : Nat) : Int := if j = 0 then p.1 else p.2
theorem comp_get {p : Int × Int} {j : Nat} (h : j < 2) : (#[.int .i64 p.1, .int .i64 p.2] : Array Value)[j]? = some (.int .i64 (comp p j)) := by
  match j, h with
  | 0, _ => rfl
  | 1, _ => rfl
theorem comp_set {p : Int × Int} {j : Nat} {v : Int} (h : j < 2) : (#[.int .i64 p.1, .int .i64 p.2] : Array Value).setIfInBounds j (.int .i64 v) = #[.int .i64 (if j = 0 then v else p.1), .int .i64 (if j = 0 then p.2 else v)] := by
  match j, h with
  | 0, _ => rfl
  | 1, _ => rfl
theorem comp_plC {l : List (Int × Int)} {i j : Nat} {p : Int × Int} (h : l[i]? = some p) (hj : j < 2) : (plC l)[i * 2 + j]? = some (.int .i64 (comp p j)) := by
  have := movP_get h
  match j, hj with
  | 0, _ => exact this.1
  | 1, _ => exact this.2
def minK (lo p : Int × Int) (j : Nat) : Int × Int := (if 0 < j then (minP lo p).1 else lo.1, if 1 < j then (minP lo p).2 else lo.2)
def maxK (lo p : Int × Int) (j : Nat) : Int × Int := (if 0 < j then (maxP lo p).1 else lo.1, if 1 < j then (maxP lo p).2 else lo.2)
theorem minK_step {lo p : Int × Int} {j : Nat} (h : j < 2) : (comp p j < comp (minK lo p j) j → minK lo p (j + 1) = (if j = 0 then comp p j else (minK lo p j).1, if j = 0 then (minK lo p j).2 else comp p j)) ∧ (¬ comp p j < comp (minK lo p j) j → minK lo p (j + 1) = minK lo p j) := by
  match j, h with
  | 0, _ => constructor <;> intro h <;> simp [comp, minK, minP] at h ⊢ <;> omega
  | 1, _ => constructor <;> intro h <;> simp [comp, minK, minP] at h ⊢ <;> omega
theorem maxK_step {lo p : Int × Int} {j : Nat} (h : j < 2) : (comp (maxK lo p j) j < comp p j → maxK lo p (j + 1) = (if j = 0 then comp p j else (maxK lo p j).1, if j = 0 then (maxK lo p j).2 else comp p j)) ∧ (¬ comp (maxK lo p j) j < comp p j → maxK lo p (j + 1) = maxK lo p j) := by
  match j, h with
  | 0, _ => constructor <;> intro h <;> simp [comp, maxK, maxP] at h ⊢ <;> omega
  | 1, _ => constructor <;> intro h <;> simp [comp, maxK, maxP] at h ⊢ <;> omega
theorem areaP_one (l : List (Int × Int)) : areaP (l.take 1) = 0 := by
  match l with
  | [] => rfl
  | [_] => rfl
  | _ :: _ :: _ => rfl
theorem Blk.comp {w : World} {g : Nat} {p : Int × Int} {T : TypeId} (h : Blk w g #[.int .i64 p.1, .int .i64 p.2] T) {j q : Nat} (hj : j < 2) (hq : q = j) : w.cell? ⟨g, q, none⟩ = some (.int .i64 (comp p j)) := by
  subst hq
  exact h.cell (comp_get hj)

theorem blt_of {a b : Nat} (h : a < b) : Nat.blt a b = true := Eq.mpr Nat.blt_eq h

set_option maxHeartbeats 4000000 in
theorem turtlePaths.walk {w : World} {lv : Value} {len : Nat} {l : List Mv} (hr : Rd w (fun k => k < w.heap.size) lv len 2 (movC l)) (hN : ∀ m ∈ l, inK .i64 m.2) :
    Ret Try.prog 10 #[lv] w fun v w' => v = .bool true ∧ Upd No w w' := by
  obtain ⟨f0, f1, hpair⟩ := pairPlace
  obtain ⟨A, c, rfl, hle⟩ := hr.slice_form
  have hn : l.length = len := by
    have h1 := hr.len
    rw [movC_length] at h1
    omega
  subst hn
  obtain ⟨out, lk, er, hpr⟩ : ∃ out lk er, pathR l = (out, lk, er) := ⟨_, _, _, rfl⟩
  have hbad := pathR_bad hpr
  obtain ⟨hpb, hpl, _, _⟩ := pathR_bd hpr
  have hlast := pathR_last (l := l)
  have hcl : closedR l = decide (er = 0 ∧ out[out.length - 1]? = some (0, 0)) := by unfold closedR; rw [hpr]
  rw [hpr] at hlast
  dsimp only at hlast
  refine enterRet (vs := [_]) (N := 270) Try.func10 rfl rfl rfl ?_
  have hU := Upd.refl No w
  refine WC.keep [(0, _)] ⟨rfl, trivial⟩ ?_
  refine WC.seq ?_
  -- region 0 law.go:17
  refine WC.region ?_
  refine WL.val rfl rfl rfl rfl (r_assign rfl ev_c) ?_
  refine WL.nil ?_
  refine WX.keep [(0, _)] ⟨rfl, trivial⟩ ?_
  refine WX.next ?_
  refine WC.seq ?_
  refine WC.seq ?_
  -- region 1 law.go:18
  refine WC.region ?_
  refine WL.cons (SO.call (awake2_ok _) rfl body_16 trivial rfl rfl rfl rfl ?_)
  rintro v w1 ⟨rfl, hu1⟩
  have hs1 := hu1.size
  replace hU := hU.trans hu1 (by first | exact (fun _ _ h => h) | exact (fun _ _ h => h.elim) | (intro k hl hk; (try simp only [At, New, Grow, From, No] at hk ⊢); omega))
  replace hr := hr.upd hu1 (by first | exact (fun _ _ _ h => h) | (intro k hk hl hS; have : k < w.heap.size := hk; simp only [At, New, Grow, From, No] at hS; omega))
  refine WL.val rfl rfl rfl rfl (r_not rfl (ev_t rfl)) ?_
  refine WL.val rfl rfl rfl rfl (r_move rfl (ev_t rfl)) ?_
  first | refine WL.val rfl rfl rfl rfl (r_pickT rfl (ev_t rfl) ev_c) ?_ | refine WL.val rfl rfl rfl rfl (r_pickF rfl (ev_t rfl) ev_c) ?_
  refine WL.val rfl rfl rfl rfl (r_move rfl (ev_t rfl)) ?_
  refine WL.cases 25 rfl (fun hb1_4 => ?_) (fun hb1_4 => ?_)
  · try (exfalso; first | (simp at hb1_4; done) | (simp only [decide_eq_true_eq, decide_eq_false_iff_not, Bool.not_eq_true', Bool.not_eq_false', Bool.not_eq_true, Bool.not_eq_false] at hb1_4; omega) | omega)
    all_goals
      try simp only [decide_eq_true_eq, decide_eq_false_iff_not, Bool.not_eq_true', Bool.not_eq_false', Bool.not_eq_true, Bool.not_eq_false, Option.isNone_none, Option.isNone_some, Option.isSome_none, Option.isSome_some, ne_eq, Decidable.not_not] at hb1_4
      refine WL.skip rfl rfl rfl ?_
      refine WL.skip rfl rfl rfl ?_
      refine WL.skip rfl rfl rfl ?_
      refine WL.val rfl rfl rfl rfl (r_pickT rfl (ev_t rfl) ev_c) ?_
      refine WL.nil ?_
      refine WX.keep [(0, _), (29, _)] ⟨rfl, rfl, trivial⟩ ?_
      refine WX.next ?_
      refine WC.cond_true rfl (ev_t rfl) ?_
      refine WC.seq ?_
      -- region 2 law.go:19
      refine WC.region ?_
      refine WL.cons (SO.call (awake2_ok _) rfl body_16 trivial rfl rfl rfl rfl ?_)
      rintro v w2 ⟨rfl, hu2⟩
      have hs2 := hu2.size
      replace hU := hU.trans hu2 (by first | exact (fun _ _ h => h) | exact (fun _ _ h => h.elim) | (intro k hl hk; (try simp only [At, New, Grow, From, No] at hk ⊢); omega))
      replace hr := hr.upd hu2 (by first | exact (fun _ _ _ h => h) | (intro k hk hl hS; have : k < w.heap.size := hk; simp only [At, New, Grow, From, No] at hS; omega))
      refine WL.val rfl rfl rfl rfl (r_assign rfl (ev_t rfl)) ?_
      refine WL.nil ?_
      refine WX.keep [(2, _)] ⟨rfl, trivial⟩ ?_
      refine WX.next ?_
      refine WC.ret ?_
      refine WX.thenRet ?_
      refine WX.retE1 rfl rfl ?_
      first
        | exact ⟨rfl, hU⟩
        | (refine ⟨?_, hU⟩
           obtain ⟨z1, z2⟩ := z0
           rw [Value.bool.injEq, beq_iff_eq]
           simp at *
           simp [*])
        | (refine ⟨?_, hU⟩; simp; done)
  · try (exfalso; first | (simp at hb1_4; done) | (simp only [decide_eq_true_eq, decide_eq_false_iff_not, Bool.not_eq_true', Bool.not_eq_false', Bool.not_eq_true, Bool.not_eq_false] at hb1_4; omega) | omega)
    all_goals
      try simp only [decide_eq_true_eq, decide_eq_false_iff_not, Bool.not_eq_true', Bool.not_eq_false', Bool.not_eq_true, Bool.not_eq_false, Option.isNone_none, Option.isNone_some, Option.isSome_none, Option.isSome_some, ne_eq, Decidable.not_not] at hb1_4
      refine WL.val rfl rfl rfl rfl (r_move rfl (ev_t rfl)) ?_
      refine WL.val rfl rfl rfl rfl (r_lenSlice (ts := #[]) rfl (ev_t rfl) elem_22) ?_
      refine WL.val rfl rfl rfl rfl (r_gtr rfl (ev_t rfl) ev_c) ?_
      refine WL.val rfl rfl rfl rfl (r_pickF rfl (ev_t rfl) (ev_t rfl)) ?_
      refine WL.nil ?_
      refine WX.keep [(0, _), (29, _)] ⟨rfl, rfl, trivial⟩ ?_
      refine WX.next ?_
      refine WC.cond rfl (ev_t rfl) (fun hc1 => ?_) (fun hc1 => ?_)
      · try (exfalso; first | (simp at hc1; done) | (simp only [decide_eq_true_eq, decide_eq_false_iff_not, Bool.not_eq_true', Bool.not_eq_false', Bool.not_eq_true, Bool.not_eq_false] at hc1; omega) | omega)
        all_goals
          try simp only [decide_eq_true_eq, decide_eq_false_iff_not, Bool.not_eq_true', Bool.not_eq_false', Bool.not_eq_true, Bool.not_eq_false, Option.isNone_none, Option.isNone_some, Option.isSome_none, Option.isSome_some, ne_eq, Decidable.not_not] at hc1
          refine WC.seq ?_
          -- region 2 law.go:19
          refine WC.region ?_
          refine WL.cons (SO.call (awake2_ok _) rfl body_16 trivial rfl rfl rfl rfl ?_)
          rintro v w3 ⟨rfl, hu3⟩
          have hs3 := hu3.size
          replace hU := hU.trans hu3 (by first | exact (fun _ _ h => h) | exact (fun _ _ h => h.elim) | (intro k hl hk; (try simp only [At, New, Grow, From, No] at hk ⊢); omega))
          replace hr := hr.upd hu3 (by first | exact (fun _ _ _ h => h) | (intro k hk hl hS; have : k < w.heap.size := hk; simp only [At, New, Grow, From, No] at hS; omega))
          refine WL.val rfl rfl rfl rfl (r_assign rfl (ev_t rfl)) ?_
          refine WL.nil ?_
          refine WX.keep [(2, _)] ⟨rfl, trivial⟩ ?_
          refine WX.next ?_
          refine WC.ret ?_
          refine WX.thenRet ?_
          refine WX.retE1 rfl rfl ?_
          first
            | exact ⟨rfl, hU⟩
            | (refine ⟨?_, hU⟩
               obtain ⟨z1, z2⟩ := z0
               rw [Value.bool.injEq, beq_iff_eq]
               simp at *
               simp [*])
            | (refine ⟨?_, hU⟩; simp; done)
      · try (exfalso; first | (simp at hc1; done) | (simp only [decide_eq_true_eq, decide_eq_false_iff_not, Bool.not_eq_true', Bool.not_eq_false', Bool.not_eq_true, Bool.not_eq_false] at hc1; omega) | omega)
        all_goals
          try simp only [decide_eq_true_eq, decide_eq_false_iff_not, Bool.not_eq_true', Bool.not_eq_false', Bool.not_eq_true, Bool.not_eq_false, Option.isNone_none, Option.isNone_some, Option.isSome_none, Option.isSome_some, ne_eq, Decidable.not_not] at hc1
          refine WC.skip ?_
          refine WX.next ?_
          refine WC.seq ?_
          -- region 3 law.go:21
          refine WC.region ?_
          refine WL.val rfl rfl rfl rfl (r_move rfl (ev_t rfl)) ?_
          refine WL.cons (SO.call (Path_ok hr hN) rfl body_18 ⟨(ev_t rfl), trivial⟩ rfl rfl rfl rfl ?_)
          rintro v w4 ⟨up, rfl, hp, hu4⟩
          rw [hpr] at hp ⊢
          dsimp only at hp
          have hs4 := hu4.size
          replace hU := hU.trans hu4 (by first | exact (fun _ _ h => h) | exact (fun _ _ h => h.elim) | (intro k hl hk; (try simp only [At, New, Grow, From, No] at hk ⊢); omega))
          replace hr := hr.upd hu4 (by first | exact (fun _ _ _ h => h) | (intro k hk hl hS; have : k < w.heap.size := hk; simp only [At, New, Grow, From, No] at hS; omega))
          refine WL.val rfl rfl rfl rfl (r_move rfl (ev_t rfl)) ?_
          refine WL.val rfl rfl rfl rfl (r_extract rfl (ev_t rfl) rfl) ?_
          refine WL.val rfl rfl rfl rfl (r_extract rfl (ev_t rfl) rfl) ?_
          refine WL.val rfl rfl rfl rfl (r_assign rfl (ev_t rfl)) ?_
          refine WL.val rfl rfl rfl rfl (r_assign rfl (ev_t rfl)) ?_
          refine WL.nil ?_
          refine WX.keep [(0, _), (3, _), (4, _)] ⟨rfl, rfl, rfl, trivial⟩ ?_
          refine WX.next ?_
          refine WC.seq ?_
          -- region 4 law.go:22
          refine WC.region ?_
          refine WL.val rfl rfl rfl rfl (r_move rfl (ev_t rfl)) ?_
          refine WL.cons (SO.call (Look_ok hr hN) rfl body_22 ⟨(ev_t rfl), trivial⟩ rfl rfl rfl rfl ?_)
          rintro v w5 ⟨rfl, hu5⟩
          rw [hpr]
          have hs5 := hu5.size
          replace hU := hU.trans hu5 (by first | exact (fun _ _ h => h) | exact (fun _ _ h => h.elim) | (intro k hl hk; (try simp only [At, New, Grow, From, No] at hk ⊢); omega))
          replace hr := hr.upd hu5 (by first | exact (fun _ _ _ h => h) | (intro k hk hl hS; have : k < w.heap.size := hk; simp only [At, New, Grow, From, No] at hS; omega))
          replace hp := hp.upd hu5 (by first | (with_reducible assumption) | exact (fun h => h) | exact (fun _ _ _ h => h) | (simp only [At]; omega) | (simp only [At, New, Grow, From, No]; omega) | (intro k hk hl hS; simp only [At] at hS; subst hS; contradiction) | (intro k hk hl hS; simp only [At] at hS; subst hS; exact Grow.old (by omega) (by assumption) hk) | (intro k hk hl hS; (try simp only [At, From, No, Grow, New] at hk hS); omega))
          refine WL.val rfl rfl rfl rfl (r_move rfl (ev_t rfl)) ?_
          refine WL.val rfl rfl rfl rfl (r_extract rfl (ev_t rfl) rfl) ?_
          refine WL.val rfl rfl rfl rfl (r_extract rfl (ev_t rfl) rfl) ?_
          refine WL.cons (SO.alloc rfl rfl rfl rfl (r_alloc rfl zero_32) ?_)
          intro w6 hu6 hB6 hz6
          have hs6 := hu6.size
          replace hU := hU.trans hu6 (by first | exact (fun _ _ h => h) | exact (fun _ _ h => h.elim) | (intro k hl hk; (try simp only [At, New, Grow, From, No] at hk ⊢); omega))
          replace hr := hr.upd hu6 (by first | exact (fun _ _ _ h => h) | (intro k hk hl hS; have : k < w.heap.size := hk; simp only [At, New, Grow, From, No] at hS; omega))
          replace hp := hp.upd hu6 (by first | (with_reducible assumption) | exact (fun h => h) | exact (fun _ _ _ h => h) | (simp only [At]; omega) | (simp only [At, New, Grow, From, No]; omega) | (intro k hk hl hS; simp only [At] at hS; subst hS; contradiction) | (intro k hk hl hS; simp only [At] at hS; subst hS; exact Grow.old (by omega) (by assumption) hk) | (intro k hk hl hS; (try simp only [At, From, No, Grow, New] at hk hS); omega))
          refine WL.cons (SO.store2 rfl (ev_t rfl) (ev_t rfl) size_32 hB6 rfl rfl rfl rfl rfl rfl ?_)
          intro w7 hu7 hB6 hz7
          have hs7 := hu7.size
          replace hU := hU.trans hu7 (by first | exact (fun _ _ h => h) | exact (fun _ _ h => h.elim) | (intro k hl hk; (try simp only [At, New, Grow, From, No] at hk ⊢); omega))
          replace hr := hr.upd hu7 (by first | exact (fun _ _ _ h => h) | (intro k hk hl hS; have : k < w.heap.size := hk; simp only [At, New, Grow, From, No] at hS; omega))
          replace hp := hp.upd hu7 (by first | (with_reducible assumption) | exact (fun h => h) | exact (fun _ _ _ h => h) | (simp only [At]; omega) | (simp only [At, New, Grow, From, No]; omega) | (intro k hk hl hS; simp only [At] at hS; subst hS; contradiction) | (intro k hk hl hS; simp only [At] at hS; subst hS; exact Grow.old (by omega) (by assumption) hk) | (intro k hk hl hS; (try simp only [At, From, No, Grow, New] at hk hS); omega))
          refine WL.val rfl rfl rfl rfl (r_assign rfl (ev_t rfl)) ?_
          refine WL.nil ?_
          refine WX.keep [(0, _), (3, _), (4, _), (5, _), (6, _)] ⟨rfl, rfl, rfl, rfl, rfl, trivial⟩ ?_
          replace hB6 : Blk w7 _ #[.int .i64 lk.1, .int .i64 lk.2] 32 := hB6
          refine WX.next ?_
          refine WC.seq ?_
          -- region 5 law.go:23
          refine WC.region ?_
          refine WL.val rfl rfl rfl rfl (r_move rfl (ev_t rfl)) ?_
          refine WL.cons (SO.call (Box_ok hr hN) rfl body_26 ⟨(ev_t rfl), trivial⟩ rfl rfl rfl rfl ?_)
          rintro v w8 ⟨rfl, hu8⟩
          rw [hpr]
          have hs8 := hu8.size
          replace hU := hU.trans hu8 (by first | exact (fun _ _ h => h) | exact (fun _ _ h => h.elim) | (intro k hl hk; (try simp only [At, New, Grow, From, No] at hk ⊢); omega))
          replace hr := hr.upd hu8 (by first | exact (fun _ _ _ h => h) | (intro k hk hl hS; have : k < w.heap.size := hk; simp only [At, New, Grow, From, No] at hS; omega))
          replace hp := hp.upd hu8 (by first | (with_reducible assumption) | exact (fun h => h) | exact (fun _ _ _ h => h) | (simp only [At]; omega) | (simp only [At, New, Grow, From, No]; omega) | (intro k hk hl hS; simp only [At] at hS; subst hS; contradiction) | (intro k hk hl hS; simp only [At] at hS; subst hS; exact Grow.old (by omega) (by assumption) hk) | (intro k hk hl hS; (try simp only [At, From, No, Grow, New] at hk hS); omega))
          replace hB6 := hB6.upd hu8 (by first | (with_reducible assumption) | exact (fun h => h) | exact (fun _ _ _ h => h) | (simp only [At]; omega) | (simp only [At, New, Grow, From, No]; omega) | (intro k hk hl hS; simp only [At] at hS; subst hS; contradiction) | (intro k hk hl hS; simp only [At] at hS; subst hS; exact Grow.old (by omega) (by assumption) hk) | (intro k hk hl hS; (try simp only [At, From, No, Grow, New] at hk hS); omega))
          refine WL.val rfl rfl rfl rfl (r_move rfl (ev_t rfl)) ?_
          refine WL.val rfl rfl rfl rfl (r_extract rfl (ev_t rfl) rfl) ?_
          refine WL.val rfl rfl rfl rfl (r_extract rfl (ev_t rfl) rfl) ?_
          refine WL.val rfl rfl rfl rfl (r_extract rfl (ev_t rfl) rfl) ?_
          refine WL.cons (SO.alloc rfl rfl rfl rfl (r_alloc rfl zero_32) ?_)
          intro w9 hu9 hB9 hz9
          have hs9 := hu9.size
          replace hU := hU.trans hu9 (by first | exact (fun _ _ h => h) | exact (fun _ _ h => h.elim) | (intro k hl hk; (try simp only [At, New, Grow, From, No] at hk ⊢); omega))
          replace hr := hr.upd hu9 (by first | exact (fun _ _ _ h => h) | (intro k hk hl hS; have : k < w.heap.size := hk; simp only [At, New, Grow, From, No] at hS; omega))
          replace hp := hp.upd hu9 (by first | (with_reducible assumption) | exact (fun h => h) | exact (fun _ _ _ h => h) | (simp only [At]; omega) | (simp only [At, New, Grow, From, No]; omega) | (intro k hk hl hS; simp only [At] at hS; subst hS; contradiction) | (intro k hk hl hS; simp only [At] at hS; subst hS; exact Grow.old (by omega) (by assumption) hk) | (intro k hk hl hS; (try simp only [At, From, No, Grow, New] at hk hS); omega))
          replace hB6 := hB6.upd hu9 (by first | (with_reducible assumption) | exact (fun h => h) | exact (fun _ _ _ h => h) | (simp only [At]; omega) | (simp only [At, New, Grow, From, No]; omega) | (intro k hk hl hS; simp only [At] at hS; subst hS; contradiction) | (intro k hk hl hS; simp only [At] at hS; subst hS; exact Grow.old (by omega) (by assumption) hk) | (intro k hk hl hS; (try simp only [At, From, No, Grow, New] at hk hS); omega))
          refine WL.cons (SO.alloc rfl rfl rfl rfl (r_alloc rfl zero_32) ?_)
          intro w10 hu10 hB10 hz10
          have hs10 := hu10.size
          replace hU := hU.trans hu10 (by first | exact (fun _ _ h => h) | exact (fun _ _ h => h.elim) | (intro k hl hk; (try simp only [At, New, Grow, From, No] at hk ⊢); omega))
          replace hr := hr.upd hu10 (by first | exact (fun _ _ _ h => h) | (intro k hk hl hS; have : k < w.heap.size := hk; simp only [At, New, Grow, From, No] at hS; omega))
          replace hp := hp.upd hu10 (by first | (with_reducible assumption) | exact (fun h => h) | exact (fun _ _ _ h => h) | (simp only [At]; omega) | (simp only [At, New, Grow, From, No]; omega) | (intro k hk hl hS; simp only [At] at hS; subst hS; contradiction) | (intro k hk hl hS; simp only [At] at hS; subst hS; exact Grow.old (by omega) (by assumption) hk) | (intro k hk hl hS; (try simp only [At, From, No, Grow, New] at hk hS); omega))
          replace hB6 := hB6.upd hu10 (by first | (with_reducible assumption) | exact (fun h => h) | exact (fun _ _ _ h => h) | (simp only [At]; omega) | (simp only [At, New, Grow, From, No]; omega) | (intro k hk hl hS; simp only [At] at hS; subst hS; contradiction) | (intro k hk hl hS; simp only [At] at hS; subst hS; exact Grow.old (by omega) (by assumption) hk) | (intro k hk hl hS; (try simp only [At, From, No, Grow, New] at hk hS); omega))
          replace hB9 := hB9.upd hu10 (by first | (with_reducible assumption) | exact (fun h => h) | exact (fun _ _ _ h => h) | (simp only [At]; omega) | (simp only [At, New, Grow, From, No]; omega) | (intro k hk hl hS; simp only [At] at hS; subst hS; contradiction) | (intro k hk hl hS; simp only [At] at hS; subst hS; exact Grow.old (by omega) (by assumption) hk) | (intro k hk hl hS; (try simp only [At, From, No, Grow, New] at hk hS); omega))
          refine WL.cons (SO.store2 rfl (ev_t rfl) (ev_t rfl) size_32 hB9 rfl rfl rfl rfl rfl rfl ?_)
          intro w11 hu11 hB9 hz11
          have hs11 := hu11.size
          replace hU := hU.trans hu11 (by first | exact (fun _ _ h => h) | exact (fun _ _ h => h.elim) | (intro k hl hk; (try simp only [At, New, Grow, From, No] at hk ⊢); omega))
          replace hr := hr.upd hu11 (by first | exact (fun _ _ _ h => h) | (intro k hk hl hS; have : k < w.heap.size := hk; simp only [At, New, Grow, From, No] at hS; omega))
          replace hp := hp.upd hu11 (by first | (with_reducible assumption) | exact (fun h => h) | exact (fun _ _ _ h => h) | (simp only [At]; omega) | (simp only [At, New, Grow, From, No]; omega) | (intro k hk hl hS; simp only [At] at hS; subst hS; contradiction) | (intro k hk hl hS; simp only [At] at hS; subst hS; exact Grow.old (by omega) (by assumption) hk) | (intro k hk hl hS; (try simp only [At, From, No, Grow, New] at hk hS); omega))
          replace hB6 := hB6.upd hu11 (by first | (with_reducible assumption) | exact (fun h => h) | exact (fun _ _ _ h => h) | (simp only [At]; omega) | (simp only [At, New, Grow, From, No]; omega) | (intro k hk hl hS; simp only [At] at hS; subst hS; contradiction) | (intro k hk hl hS; simp only [At] at hS; subst hS; exact Grow.old (by omega) (by assumption) hk) | (intro k hk hl hS; (try simp only [At, From, No, Grow, New] at hk hS); omega))
          replace hB10 := hB10.upd hu11 (by first | (with_reducible assumption) | exact (fun h => h) | exact (fun _ _ _ h => h) | (simp only [At]; omega) | (simp only [At, New, Grow, From, No]; omega) | (intro k hk hl hS; simp only [At] at hS; subst hS; contradiction) | (intro k hk hl hS; simp only [At] at hS; subst hS; exact Grow.old (by omega) (by assumption) hk) | (intro k hk hl hS; (try simp only [At, From, No, Grow, New] at hk hS); omega))
          refine WL.cons (SO.store2 rfl (ev_t rfl) (ev_t rfl) size_32 hB10 rfl rfl rfl rfl rfl rfl ?_)
          intro w12 hu12 hB10 hz12
          have hs12 := hu12.size
          replace hU := hU.trans hu12 (by first | exact (fun _ _ h => h) | exact (fun _ _ h => h.elim) | (intro k hl hk; (try simp only [At, New, Grow, From, No] at hk ⊢); omega))
          replace hr := hr.upd hu12 (by first | exact (fun _ _ _ h => h) | (intro k hk hl hS; have : k < w.heap.size := hk; simp only [At, New, Grow, From, No] at hS; omega))
          replace hp := hp.upd hu12 (by first | (with_reducible assumption) | exact (fun h => h) | exact (fun _ _ _ h => h) | (simp only [At]; omega) | (simp only [At, New, Grow, From, No]; omega) | (intro k hk hl hS; simp only [At] at hS; subst hS; contradiction) | (intro k hk hl hS; simp only [At] at hS; subst hS; exact Grow.old (by omega) (by assumption) hk) | (intro k hk hl hS; (try simp only [At, From, No, Grow, New] at hk hS); omega))
          replace hB6 := hB6.upd hu12 (by first | (with_reducible assumption) | exact (fun h => h) | exact (fun _ _ _ h => h) | (simp only [At]; omega) | (simp only [At, New, Grow, From, No]; omega) | (intro k hk hl hS; simp only [At] at hS; subst hS; contradiction) | (intro k hk hl hS; simp only [At] at hS; subst hS; exact Grow.old (by omega) (by assumption) hk) | (intro k hk hl hS; (try simp only [At, From, No, Grow, New] at hk hS); omega))
          replace hB9 := hB9.upd hu12 (by first | (with_reducible assumption) | exact (fun h => h) | exact (fun _ _ _ h => h) | (simp only [At]; omega) | (simp only [At, New, Grow, From, No]; omega) | (intro k hk hl hS; simp only [At] at hS; subst hS; contradiction) | (intro k hk hl hS; simp only [At] at hS; subst hS; exact Grow.old (by omega) (by assumption) hk) | (intro k hk hl hS; (try simp only [At, From, No, Grow, New] at hk hS); omega))
          refine WL.val rfl rfl rfl rfl (r_assign rfl (ev_t rfl)) ?_
          refine WL.nil ?_
          refine WX.keep [(0, _), (3, _), (4, _), (5, _), (6, _), (7, _), (8, _), (9, _)] ⟨rfl, rfl, rfl, rfl, rfl, rfl, rfl, rfl, trivial⟩ ?_
          replace hB9 : Blk w12 _ #[.int .i64 (lowP out).1, .int .i64 (lowP out).2] 32 := hB9
          replace hB10 : Blk w12 _ #[.int .i64 (highP out).1, .int .i64 (highP out).2] 32 := hB10
          refine WX.next ?_
          refine WC.seq ?_
          -- region 6 law.go:24
          refine WC.region ?_
          refine WL.val rfl rfl rfl rfl (r_move rfl (ev_t rfl)) ?_
          refine WL.cons (SO.call (Area_ok hr hN) rfl body_25 ⟨(ev_t rfl), trivial⟩ rfl rfl rfl rfl ?_)
          rintro v w13 ⟨rfl, hu13⟩
          rw [hpr]
          dsimp only
          obtain ⟨ar, har⟩ : ∃ ar, ar = IntKind.i64.wrap (areaP out) := ⟨_, rfl⟩
          rw [← har]
          have hs13 := hu13.size
          replace hU := hU.trans hu13 (by first | exact (fun _ _ h => h) | exact (fun _ _ h => h.elim) | (intro k hl hk; (try simp only [At, New, Grow, From, No] at hk ⊢); omega))
          replace hr := hr.upd hu13 (by first | exact (fun _ _ _ h => h) | (intro k hk hl hS; have : k < w.heap.size := hk; simp only [At, New, Grow, From, No] at hS; omega))
          replace hp := hp.upd hu13 (by first | (with_reducible assumption) | exact (fun h => h) | exact (fun _ _ _ h => h) | (simp only [At]; omega) | (simp only [At, New, Grow, From, No]; omega) | (intro k hk hl hS; simp only [At] at hS; subst hS; contradiction) | (intro k hk hl hS; simp only [At] at hS; subst hS; exact Grow.old (by omega) (by assumption) hk) | (intro k hk hl hS; (try simp only [At, From, No, Grow, New] at hk hS); omega))
          replace hB6 := hB6.upd hu13 (by first | (with_reducible assumption) | exact (fun h => h) | exact (fun _ _ _ h => h) | (simp only [At]; omega) | (simp only [At, New, Grow, From, No]; omega) | (intro k hk hl hS; simp only [At] at hS; subst hS; contradiction) | (intro k hk hl hS; simp only [At] at hS; subst hS; exact Grow.old (by omega) (by assumption) hk) | (intro k hk hl hS; (try simp only [At, From, No, Grow, New] at hk hS); omega))
          replace hB9 := hB9.upd hu13 (by first | (with_reducible assumption) | exact (fun h => h) | exact (fun _ _ _ h => h) | (simp only [At]; omega) | (simp only [At, New, Grow, From, No]; omega) | (intro k hk hl hS; simp only [At] at hS; subst hS; contradiction) | (intro k hk hl hS; simp only [At] at hS; subst hS; exact Grow.old (by omega) (by assumption) hk) | (intro k hk hl hS; (try simp only [At, From, No, Grow, New] at hk hS); omega))
          replace hB10 := hB10.upd hu13 (by first | (with_reducible assumption) | exact (fun h => h) | exact (fun _ _ _ h => h) | (simp only [At]; omega) | (simp only [At, New, Grow, From, No]; omega) | (intro k hk hl hS; simp only [At] at hS; subst hS; contradiction) | (intro k hk hl hS; simp only [At] at hS; subst hS; exact Grow.old (by omega) (by assumption) hk) | (intro k hk hl hS; (try simp only [At, From, No, Grow, New] at hk hS); omega))
          refine WL.val rfl rfl rfl rfl (r_move rfl (ev_t rfl)) ?_
          refine WL.val rfl rfl rfl rfl (r_extract rfl (ev_t rfl) rfl) ?_
          refine WL.val rfl rfl rfl rfl (r_extract rfl (ev_t rfl) rfl) ?_
          refine WL.val rfl rfl rfl rfl (r_assign rfl (ev_t rfl)) ?_
          refine WL.val rfl rfl rfl rfl (r_assign rfl (ev_t rfl)) ?_
          refine WL.nil ?_
          refine WX.keep [(0, _), (3, _), (4, _), (5, _), (6, _), (7, _), (8, _), (9, _), (10, _), (11, _)] ⟨rfl, rfl, rfl, rfl, rfl, rfl, rfl, rfl, rfl, rfl, trivial⟩ ?_
          refine WX.next ?_
          refine WC.seq ?_
          -- region 7 law.go:25
          refine WC.region ?_
          refine WL.val rfl rfl rfl rfl (r_move rfl (ev_t rfl)) ?_
          refine WL.cons (SO.call (refPath_ok hr hN) rfl body_27 ⟨(ev_t rfl), trivial⟩ rfl rfl rfl rfl ?_)
          rintro v w14 ⟨uq, rfl, hq, hu14⟩
          rw [hpr] at hq ⊢
          dsimp only at hq
          have hs14 := hu14.size
          replace hU := hU.trans hu14 (by first | exact (fun _ _ h => h) | exact (fun _ _ h => h.elim) | (intro k hl hk; (try simp only [At, New, Grow, From, No] at hk ⊢); omega))
          replace hr := hr.upd hu14 (by first | exact (fun _ _ _ h => h) | (intro k hk hl hS; have : k < w.heap.size := hk; simp only [At, New, Grow, From, No] at hS; omega))
          replace hp := hp.upd hu14 (by first | (with_reducible assumption) | exact (fun h => h) | exact (fun _ _ _ h => h) | (simp only [At]; omega) | (simp only [At, New, Grow, From, No]; omega) | (intro k hk hl hS; simp only [At] at hS; subst hS; contradiction) | (intro k hk hl hS; simp only [At] at hS; subst hS; exact Grow.old (by omega) (by assumption) hk) | (intro k hk hl hS; (try simp only [At, From, No, Grow, New] at hk hS); omega))
          replace hB6 := hB6.upd hu14 (by first | (with_reducible assumption) | exact (fun h => h) | exact (fun _ _ _ h => h) | (simp only [At]; omega) | (simp only [At, New, Grow, From, No]; omega) | (intro k hk hl hS; simp only [At] at hS; subst hS; contradiction) | (intro k hk hl hS; simp only [At] at hS; subst hS; exact Grow.old (by omega) (by assumption) hk) | (intro k hk hl hS; (try simp only [At, From, No, Grow, New] at hk hS); omega))
          replace hB9 := hB9.upd hu14 (by first | (with_reducible assumption) | exact (fun h => h) | exact (fun _ _ _ h => h) | (simp only [At]; omega) | (simp only [At, New, Grow, From, No]; omega) | (intro k hk hl hS; simp only [At] at hS; subst hS; contradiction) | (intro k hk hl hS; simp only [At] at hS; subst hS; exact Grow.old (by omega) (by assumption) hk) | (intro k hk hl hS; (try simp only [At, From, No, Grow, New] at hk hS); omega))
          replace hB10 := hB10.upd hu14 (by first | (with_reducible assumption) | exact (fun h => h) | exact (fun _ _ _ h => h) | (simp only [At]; omega) | (simp only [At, New, Grow, From, No]; omega) | (intro k hk hl hS; simp only [At] at hS; subst hS; contradiction) | (intro k hk hl hS; simp only [At] at hS; subst hS; exact Grow.old (by omega) (by assumption) hk) | (intro k hk hl hS; (try simp only [At, From, No, Grow, New] at hk hS); omega))
          obtain ⟨Ap, cp, rfl, hcp⟩ := Own.form hp
          obtain ⟨Aq, cq, rfl, hcq⟩ := Own.form hq
          refine WL.val rfl rfl rfl rfl (r_move rfl (ev_t rfl)) ?_
          refine WL.val rfl rfl rfl rfl (r_extract rfl (ev_t rfl) rfl) ?_
          refine WL.val rfl rfl rfl rfl (r_extract rfl (ev_t rfl) rfl) ?_
          refine WL.val rfl rfl rfl rfl (r_extract rfl (ev_t rfl) rfl) ?_
          refine WL.cons (SO.alloc rfl rfl rfl rfl (r_alloc rfl zero_54) ?_)
          intro w15 hu15 hB15 hz15
          have hs15 := hu15.size
          replace hU := hU.trans hu15 (by first | exact (fun _ _ h => h) | exact (fun _ _ h => h.elim) | (intro k hl hk; (try simp only [At, New, Grow, From, No] at hk ⊢); omega))
          replace hr := hr.upd hu15 (by first | exact (fun _ _ _ h => h) | (intro k hk hl hS; have : k < w.heap.size := hk; simp only [At, New, Grow, From, No] at hS; omega))
          replace hp := hp.upd hu15 (by first | (with_reducible assumption) | exact (fun h => h) | exact (fun _ _ _ h => h) | (simp only [At]; omega) | (simp only [At, New, Grow, From, No]; omega) | (intro k hk hl hS; simp only [At] at hS; subst hS; contradiction) | (intro k hk hl hS; simp only [At] at hS; subst hS; exact Grow.old (by omega) (by assumption) hk) | (intro k hk hl hS; (try simp only [At, From, No, Grow, New] at hk hS); omega))
          replace hB6 := hB6.upd hu15 (by first | (with_reducible assumption) | exact (fun h => h) | exact (fun _ _ _ h => h) | (simp only [At]; omega) | (simp only [At, New, Grow, From, No]; omega) | (intro k hk hl hS; simp only [At] at hS; subst hS; contradiction) | (intro k hk hl hS; simp only [At] at hS; subst hS; exact Grow.old (by omega) (by assumption) hk) | (intro k hk hl hS; (try simp only [At, From, No, Grow, New] at hk hS); omega))
          replace hB9 := hB9.upd hu15 (by first | (with_reducible assumption) | exact (fun h => h) | exact (fun _ _ _ h => h) | (simp only [At]; omega) | (simp only [At, New, Grow, From, No]; omega) | (intro k hk hl hS; simp only [At] at hS; subst hS; contradiction) | (intro k hk hl hS; simp only [At] at hS; subst hS; exact Grow.old (by omega) (by assumption) hk) | (intro k hk hl hS; (try simp only [At, From, No, Grow, New] at hk hS); omega))
          replace hB10 := hB10.upd hu15 (by first | (with_reducible assumption) | exact (fun h => h) | exact (fun _ _ _ h => h) | (simp only [At]; omega) | (simp only [At, New, Grow, From, No]; omega) | (intro k hk hl hS; simp only [At] at hS; subst hS; contradiction) | (intro k hk hl hS; simp only [At] at hS; subst hS; exact Grow.old (by omega) (by assumption) hk) | (intro k hk hl hS; (try simp only [At, From, No, Grow, New] at hk hS); omega))
          replace hq := hq.upd hu15 (by first | (with_reducible assumption) | exact (fun h => h) | exact (fun _ _ _ h => h) | (simp only [At]; omega) | (simp only [At, New, Grow, From, No]; omega) | (intro k hk hl hS; simp only [At] at hS; subst hS; contradiction) | (intro k hk hl hS; simp only [At] at hS; subst hS; exact Grow.old (by omega) (by assumption) hk) | (intro k hk hl hS; (try simp only [At, From, No, Grow, New] at hk hS); omega))
          refine WL.val rfl rfl rfl rfl (r_assign rfl (ev_t rfl)) ?_
          refine WL.cons (SO.store2 rfl (ev_t rfl) (ev_t rfl) size_54 hB15 rfl rfl rfl rfl rfl rfl ?_)
          intro w16 hu16 hB15 hz16
          have hs16 := hu16.size
          replace hU := hU.trans hu16 (by first | exact (fun _ _ h => h) | exact (fun _ _ h => h.elim) | (intro k hl hk; (try simp only [At, New, Grow, From, No] at hk ⊢); omega))
          replace hr := hr.upd hu16 (by first | exact (fun _ _ _ h => h) | (intro k hk hl hS; have : k < w.heap.size := hk; simp only [At, New, Grow, From, No] at hS; omega))
          replace hp := hp.upd hu16 (by first | (with_reducible assumption) | exact (fun h => h) | exact (fun _ _ _ h => h) | (simp only [At]; omega) | (simp only [At, New, Grow, From, No]; omega) | (intro k hk hl hS; simp only [At] at hS; subst hS; contradiction) | (intro k hk hl hS; simp only [At] at hS; subst hS; exact Grow.old (by omega) (by assumption) hk) | (intro k hk hl hS; (try simp only [At, From, No, Grow, New] at hk hS); omega))
          replace hB6 := hB6.upd hu16 (by first | (with_reducible assumption) | exact (fun h => h) | exact (fun _ _ _ h => h) | (simp only [At]; omega) | (simp only [At, New, Grow, From, No]; omega) | (intro k hk hl hS; simp only [At] at hS; subst hS; contradiction) | (intro k hk hl hS; simp only [At] at hS; subst hS; exact Grow.old (by omega) (by assumption) hk) | (intro k hk hl hS; (try simp only [At, From, No, Grow, New] at hk hS); omega))
          replace hB9 := hB9.upd hu16 (by first | (with_reducible assumption) | exact (fun h => h) | exact (fun _ _ _ h => h) | (simp only [At]; omega) | (simp only [At, New, Grow, From, No]; omega) | (intro k hk hl hS; simp only [At] at hS; subst hS; contradiction) | (intro k hk hl hS; simp only [At] at hS; subst hS; exact Grow.old (by omega) (by assumption) hk) | (intro k hk hl hS; (try simp only [At, From, No, Grow, New] at hk hS); omega))
          replace hB10 := hB10.upd hu16 (by first | (with_reducible assumption) | exact (fun h => h) | exact (fun _ _ _ h => h) | (simp only [At]; omega) | (simp only [At, New, Grow, From, No]; omega) | (intro k hk hl hS; simp only [At] at hS; subst hS; contradiction) | (intro k hk hl hS; simp only [At] at hS; subst hS; exact Grow.old (by omega) (by assumption) hk) | (intro k hk hl hS; (try simp only [At, From, No, Grow, New] at hk hS); omega))
          replace hq := hq.upd hu16 (by first | (with_reducible assumption) | exact (fun h => h) | exact (fun _ _ _ h => h) | (simp only [At]; omega) | (simp only [At, New, Grow, From, No]; omega) | (intro k hk hl hS; simp only [At] at hS; subst hS; contradiction) | (intro k hk hl hS; simp only [At] at hS; subst hS; exact Grow.old (by omega) (by assumption) hk) | (intro k hk hl hS; (try simp only [At, From, No, Grow, New] at hk hS); omega))
          refine WL.val rfl rfl rfl rfl (r_assign rfl (ev_t rfl)) ?_
          refine WL.nil ?_
          refine WX.keep [(0, _), (3, _), (4, _), (5, _), (6, _), (7, _), (8, _), (9, _), (10, _), (11, _), (12, _), (13, _), (14, _)] ⟨rfl, rfl, rfl, rfl, rfl, rfl, rfl, rfl, rfl, rfl, rfl, rfl, rfl, trivial⟩ ?_
          replace hB15 : Blk w16 _ #[.int .i64 lk.1, .int .i64 lk.2] 54 := hB15
          refine WX.next ?_
          refine WC.seq ?_
          refine WC.seq ?_
          -- region 8 law.go:26
          refine WC.region ?_
          refine WL.val rfl rfl rfl rfl (r_move rfl (ev_t rfl)) ?_
          refine WL.val rfl rfl rfl rfl (r_move rfl (ev_t rfl)) ?_
          refine WL.val rfl rfl rfl rfl (r_neq rfl (ev_t rfl) (ev_t rfl)) ?_
          refine WL.val rfl rfl rfl rfl (r_move rfl (ev_t rfl)) ?_
          refine WL.cases 61 rfl (fun hb8_3 => ?_) (fun hb8_3 => ?_)
          · try (exfalso; first | (simp at hb8_3; done) | (simp only [decide_eq_true_eq, decide_eq_false_iff_not, Bool.not_eq_true', Bool.not_eq_false', Bool.not_eq_true, Bool.not_eq_false] at hb8_3; omega) | omega)
            all_goals
              try simp only [decide_eq_true_eq, decide_eq_false_iff_not, Bool.not_eq_true', Bool.not_eq_false', Bool.not_eq_true, Bool.not_eq_false, Option.isNone_none, Option.isNone_some, Option.isSome_none, Option.isSome_some, ne_eq, Decidable.not_not] at hb8_3
              refine WL.skip rfl rfl rfl ?_
              refine WL.skip rfl rfl rfl ?_
              refine WL.skip rfl rfl rfl ?_
              refine WL.val rfl rfl rfl rfl (r_pickT rfl (ev_t rfl) ev_c) ?_
              refine WL.val rfl rfl rfl rfl (r_move rfl (ev_t rfl)) ?_
              refine WL.skip rfl rfl rfl ?_
              refine WL.skip rfl rfl rfl ?_
              refine WL.skip rfl rfl rfl ?_
              refine WL.val rfl rfl rfl rfl (r_pickT rfl (ev_t rfl) ev_c) ?_
              refine WL.val rfl rfl rfl rfl (r_move rfl (ev_t rfl)) ?_
              refine WL.skip rfl rfl rfl ?_
              refine WL.skip rfl rfl rfl ?_
              refine WL.skip rfl rfl rfl ?_
              refine WL.val rfl rfl rfl rfl (r_pickT rfl (ev_t rfl) ev_c) ?_
              refine WL.val rfl rfl rfl rfl (r_move rfl (ev_t rfl)) ?_
              refine WL.skip rfl rfl rfl ?_
              refine WL.skip rfl rfl rfl ?_
              refine WL.skip rfl rfl rfl ?_
              refine WL.skip rfl rfl rfl ?_
              refine WL.skip rfl rfl rfl ?_
              refine WL.val rfl rfl rfl rfl (r_pickT rfl (ev_t rfl) ev_c) ?_
              refine WL.nil ?_
              refine WX.keep [(0, _), (3, _), (5, _), (7, _), (8, _), (10, _), (12, _), (13, _), (14, _), (82, _)] ⟨rfl, rfl, rfl, rfl, rfl, rfl, rfl, rfl, rfl, rfl, trivial⟩ ?_
              refine WX.next ?_
              refine WC.cond_true rfl (ev_t rfl) ?_
              refine WC.seq ?_
              -- region 9 law.go:27
              refine WC.region ?_
              refine WL.val rfl rfl rfl rfl (r_assign rfl ev_c) ?_
              refine WL.nil ?_
              refine WX.keep [(2, _)] ⟨rfl, trivial⟩ ?_
              refine WX.next ?_
              refine WC.ret ?_
              refine WX.thenRet ?_
              refine WX.retE1 rfl rfl ?_
              first
                | exact ⟨rfl, hU⟩
                | (refine ⟨?_, hU⟩
                   obtain ⟨z1, z2⟩ := z0
                   rw [Value.bool.injEq, beq_iff_eq]
                   simp at *
                   simp [*])
                | (refine ⟨?_, hU⟩; simp; done)
          · try (exfalso; first | (simp at hb8_3; done) | (simp only [decide_eq_true_eq, decide_eq_false_iff_not, Bool.not_eq_true', Bool.not_eq_false', Bool.not_eq_true, Bool.not_eq_false] at hb8_3; omega) | omega)
            all_goals
              try simp only [decide_eq_true_eq, decide_eq_false_iff_not, Bool.not_eq_true', Bool.not_eq_false', Bool.not_eq_true, Bool.not_eq_false, Option.isNone_none, Option.isNone_some, Option.isSome_none, Option.isSome_some, ne_eq, Decidable.not_not] at hb8_3
              refine WL.val rfl rfl rfl rfl (r_move rfl (ev_t rfl)) ?_
              refine WL.val rfl rfl rfl rfl (r_move rfl (ev_t rfl)) ?_
              refine WL.val rfl rfl rfl rfl (r_neq rfl (ev_t rfl) (ev_t rfl)) ?_
              refine WL.val rfl rfl rfl rfl (r_pickF rfl (ev_t rfl) (ev_t rfl)) ?_
              refine WL.val rfl rfl rfl rfl (r_move rfl (ev_t rfl)) ?_
              refine WL.cases 66 rfl (fun hb8_8 => ?_) (fun hb8_8 => ?_)
              · try (exfalso; first | (simp at hb8_8; done) | (simp only [decide_eq_true_eq, decide_eq_false_iff_not, Bool.not_eq_true', Bool.not_eq_false', Bool.not_eq_true, Bool.not_eq_false] at hb8_8; omega) | omega)
                all_goals
                  try simp only [decide_eq_true_eq, decide_eq_false_iff_not, Bool.not_eq_true', Bool.not_eq_false', Bool.not_eq_true, Bool.not_eq_false, Option.isNone_none, Option.isNone_some, Option.isSome_none, Option.isSome_some, ne_eq, Decidable.not_not] at hb8_8
                  refine WL.skip rfl rfl rfl ?_
                  refine WL.skip rfl rfl rfl ?_
                  refine WL.skip rfl rfl rfl ?_
                  refine WL.val rfl rfl rfl rfl (r_pickT rfl (ev_t rfl) ev_c) ?_
                  refine WL.val rfl rfl rfl rfl (r_move rfl (ev_t rfl)) ?_
                  refine WL.skip rfl rfl rfl ?_
                  refine WL.skip rfl rfl rfl ?_
                  refine WL.skip rfl rfl rfl ?_
                  refine WL.val rfl rfl rfl rfl (r_pickT rfl (ev_t rfl) ev_c) ?_
                  refine WL.val rfl rfl rfl rfl (r_move rfl (ev_t rfl)) ?_
                  refine WL.skip rfl rfl rfl ?_
                  refine WL.skip rfl rfl rfl ?_
                  refine WL.skip rfl rfl rfl ?_
                  refine WL.skip rfl rfl rfl ?_
                  refine WL.skip rfl rfl rfl ?_
                  refine WL.val rfl rfl rfl rfl (r_pickT rfl (ev_t rfl) ev_c) ?_
                  refine WL.nil ?_
                  refine WX.keep [(0, _), (3, _), (5, _), (7, _), (8, _), (10, _), (12, _), (13, _), (14, _), (82, _)] ⟨rfl, rfl, rfl, rfl, rfl, rfl, rfl, rfl, rfl, rfl, trivial⟩ ?_
                  refine WX.next ?_
                  refine WC.cond_true rfl (ev_t rfl) ?_
                  refine WC.seq ?_
                  -- region 9 law.go:27
                  refine WC.region ?_
                  refine WL.val rfl rfl rfl rfl (r_assign rfl ev_c) ?_
                  refine WL.nil ?_
                  refine WX.keep [(2, _)] ⟨rfl, trivial⟩ ?_
                  refine WX.next ?_
                  refine WC.ret ?_
                  refine WX.thenRet ?_
                  refine WX.retE1 rfl rfl ?_
                  first
                    | exact ⟨rfl, hU⟩
                    | (refine ⟨?_, hU⟩
                       obtain ⟨z1, z2⟩ := z0
                       rw [Value.bool.injEq, beq_iff_eq]
                       simp at *
                       simp [*])
                    | (refine ⟨?_, hU⟩; simp; done)
              · try (exfalso; first | (simp at hb8_8; done) | (simp only [decide_eq_true_eq, decide_eq_false_iff_not, Bool.not_eq_true', Bool.not_eq_false', Bool.not_eq_true, Bool.not_eq_false] at hb8_8; omega) | omega)
                all_goals
                  try simp only [decide_eq_true_eq, decide_eq_false_iff_not, Bool.not_eq_true', Bool.not_eq_false', Bool.not_eq_true, Bool.not_eq_false, Option.isNone_none, Option.isNone_some, Option.isSome_none, Option.isSome_some, ne_eq, Decidable.not_not] at hb8_8
                  refine WL.val rfl rfl rfl rfl (r_move rfl (ev_t rfl)) ?_
                  refine WL.val rfl rfl rfl rfl (r_move rfl (ev_t rfl)) ?_
                  refine WL.val rfl rfl rfl rfl (r_neq rfl (ev_t rfl) (ev_t rfl)) ?_
                  refine WL.val rfl rfl rfl rfl (r_pickF rfl (ev_t rfl) (ev_t rfl)) ?_
                  refine WL.val rfl rfl rfl rfl (r_move rfl (ev_t rfl)) ?_
                  refine WL.cases 71 rfl (fun hb8_13 => ?_) (fun hb8_13 => ?_)
                  · try (exfalso; first | (simp at hb8_13; done) | (simp only [decide_eq_true_eq, decide_eq_false_iff_not, Bool.not_eq_true', Bool.not_eq_false', Bool.not_eq_true, Bool.not_eq_false] at hb8_13; omega) | omega)
                    all_goals
                      try simp only [decide_eq_true_eq, decide_eq_false_iff_not, Bool.not_eq_true', Bool.not_eq_false', Bool.not_eq_true, Bool.not_eq_false, Option.isNone_none, Option.isNone_some, Option.isSome_none, Option.isSome_some, ne_eq, Decidable.not_not] at hb8_13
                      refine WL.skip rfl rfl rfl ?_
                      refine WL.skip rfl rfl rfl ?_
                      refine WL.skip rfl rfl rfl ?_
                      refine WL.val rfl rfl rfl rfl (r_pickT rfl (ev_t rfl) ev_c) ?_
                      refine WL.val rfl rfl rfl rfl (r_move rfl (ev_t rfl)) ?_
                      refine WL.skip rfl rfl rfl ?_
                      refine WL.skip rfl rfl rfl ?_
                      refine WL.skip rfl rfl rfl ?_
                      refine WL.skip rfl rfl rfl ?_
                      refine WL.skip rfl rfl rfl ?_
                      refine WL.val rfl rfl rfl rfl (r_pickT rfl (ev_t rfl) ev_c) ?_
                      refine WL.nil ?_
                      refine WX.keep [(0, _), (3, _), (5, _), (7, _), (8, _), (10, _), (12, _), (13, _), (14, _), (82, _)] ⟨rfl, rfl, rfl, rfl, rfl, rfl, rfl, rfl, rfl, rfl, trivial⟩ ?_
                      refine WX.next ?_
                      refine WC.cond_true rfl (ev_t rfl) ?_
                      refine WC.seq ?_
                      -- region 9 law.go:27
                      refine WC.region ?_
                      refine WL.val rfl rfl rfl rfl (r_assign rfl ev_c) ?_
                      refine WL.nil ?_
                      refine WX.keep [(2, _)] ⟨rfl, trivial⟩ ?_
                      refine WX.next ?_
                      refine WC.ret ?_
                      refine WX.thenRet ?_
                      refine WX.retE1 rfl rfl ?_
                      first
                        | exact ⟨rfl, hU⟩
                        | (refine ⟨?_, hU⟩
                           obtain ⟨z1, z2⟩ := z0
                           rw [Value.bool.injEq, beq_iff_eq]
                           simp at *
                           simp [*])
                        | (refine ⟨?_, hU⟩; simp; done)
                  · try (exfalso; first | (simp at hb8_13; done) | (simp only [decide_eq_true_eq, decide_eq_false_iff_not, Bool.not_eq_true', Bool.not_eq_false', Bool.not_eq_true, Bool.not_eq_false] at hb8_13; omega) | omega)
                    all_goals
                      try simp only [decide_eq_true_eq, decide_eq_false_iff_not, Bool.not_eq_true', Bool.not_eq_false', Bool.not_eq_true, Bool.not_eq_false, Option.isNone_none, Option.isNone_some, Option.isSome_none, Option.isSome_some, ne_eq, Decidable.not_not] at hb8_13
                      refine WL.val rfl rfl rfl rfl (r_move rfl (ev_t rfl)) ?_
                      refine WL.val rfl rfl rfl rfl (r_move rfl (ev_t rfl)) ?_
                      refine WL.val rfl rfl rfl rfl (r_neq rfl (ev_t rfl) (ev_t rfl)) ?_
                      refine WL.val rfl rfl rfl rfl (r_pickF rfl (ev_t rfl) (ev_t rfl)) ?_
                      refine WL.val rfl rfl rfl rfl (r_move rfl (ev_t rfl)) ?_
                      refine WL.cases 76 rfl (fun hb8_18 => ?_) (fun hb8_18 => ?_)
                      · try (exfalso; first | (simp at hb8_18; done) | (simp only [decide_eq_true_eq, decide_eq_false_iff_not, Bool.not_eq_true', Bool.not_eq_false', Bool.not_eq_true, Bool.not_eq_false] at hb8_18; omega) | omega)
                        all_goals
                          try simp only [decide_eq_true_eq, decide_eq_false_iff_not, Bool.not_eq_true', Bool.not_eq_false', Bool.not_eq_true, Bool.not_eq_false, Option.isNone_none, Option.isNone_some, Option.isSome_none, Option.isSome_some, ne_eq, Decidable.not_not] at hb8_18
                          refine WL.skip rfl rfl rfl ?_
                          refine WL.skip rfl rfl rfl ?_
                          refine WL.skip rfl rfl rfl ?_
                          refine WL.skip rfl rfl rfl ?_
                          refine WL.skip rfl rfl rfl ?_
                          refine WL.val rfl rfl rfl rfl (r_pickT rfl (ev_t rfl) ev_c) ?_
                          refine WL.nil ?_
                          refine WX.keep [(0, _), (3, _), (5, _), (7, _), (8, _), (10, _), (12, _), (13, _), (14, _), (82, _)] ⟨rfl, rfl, rfl, rfl, rfl, rfl, rfl, rfl, rfl, rfl, trivial⟩ ?_
                          refine WX.next ?_
                          refine WC.cond_true rfl (ev_t rfl) ?_
                          refine WC.seq ?_
                          -- region 9 law.go:27
                          refine WC.region ?_
                          refine WL.val rfl rfl rfl rfl (r_assign rfl ev_c) ?_
                          refine WL.nil ?_
                          refine WX.keep [(2, _)] ⟨rfl, trivial⟩ ?_
                          refine WX.next ?_
                          refine WC.ret ?_
                          refine WX.thenRet ?_
                          refine WX.retE1 rfl rfl ?_
                          first
                            | exact ⟨rfl, hU⟩
                            | (refine ⟨?_, hU⟩
                               obtain ⟨z1, z2⟩ := z0
                               rw [Value.bool.injEq, beq_iff_eq]
                               simp at *
                               simp [*])
                            | (refine ⟨?_, hU⟩; simp; done)
                      · try (exfalso; first | (simp at hb8_18; done) | (simp only [decide_eq_true_eq, decide_eq_false_iff_not, Bool.not_eq_true', Bool.not_eq_false', Bool.not_eq_true, Bool.not_eq_false] at hb8_18; omega) | omega)
                        all_goals
                          try simp only [decide_eq_true_eq, decide_eq_false_iff_not, Bool.not_eq_true', Bool.not_eq_false', Bool.not_eq_true, Bool.not_eq_false, Option.isNone_none, Option.isNone_some, Option.isSome_none, Option.isSome_some, ne_eq, Decidable.not_not] at hb8_18
                          refine WL.val rfl rfl rfl rfl (r_move rfl (ev_t rfl)) ?_
                          refine WL.val rfl rfl rfl rfl (r_lenSlice (ts := #[]) rfl (ev_t rfl) elem_27) ?_
                          refine WL.val rfl rfl rfl rfl (r_move rfl (ev_t rfl)) ?_
                          refine WL.val rfl rfl rfl rfl (r_lenSlice (ts := #[]) rfl (ev_t rfl) elem_53) ?_
                          refine WL.val rfl rfl rfl rfl (r_neq rfl (ev_t rfl) (ev_t rfl)) ?_
                          refine WL.val rfl rfl rfl rfl (r_pickF rfl (ev_t rfl) (ev_t rfl)) ?_
                          refine WL.nil ?_
                          refine WX.keep [(0, _), (3, _), (5, _), (7, _), (8, _), (10, _), (12, _), (13, _), (14, _), (82, _)] ⟨rfl, rfl, rfl, rfl, rfl, rfl, rfl, rfl, rfl, rfl, trivial⟩ ?_
                          refine WX.next ?_
                          refine WC.cond rfl (ev_t rfl) (fun hc8 => ?_) (fun hc8 => ?_)
                          · try (exfalso; first | (simp at hc8; done) | (simp only [decide_eq_true_eq, decide_eq_false_iff_not, Bool.not_eq_true', Bool.not_eq_false', Bool.not_eq_true, Bool.not_eq_false] at hc8; omega) | omega)
                            all_goals
                              try simp only [decide_eq_true_eq, decide_eq_false_iff_not, Bool.not_eq_true', Bool.not_eq_false', Bool.not_eq_true, Bool.not_eq_false, Option.isNone_none, Option.isNone_some, Option.isSome_none, Option.isSome_some, ne_eq, Decidable.not_not] at hc8
                              refine WC.seq ?_
                              -- region 9 law.go:27
                              refine WC.region ?_
                              refine WL.val rfl rfl rfl rfl (r_assign rfl ev_c) ?_
                              refine WL.nil ?_
                              refine WX.keep [(2, _)] ⟨rfl, trivial⟩ ?_
                              refine WX.next ?_
                              refine WC.ret ?_
                              refine WX.thenRet ?_
                              refine WX.retE1 rfl rfl ?_
                              first
                                | exact ⟨rfl, hU⟩
                                | (refine ⟨?_, hU⟩
                                   obtain ⟨z1, z2⟩ := z0
                                   rw [Value.bool.injEq, beq_iff_eq]
                                   simp at *
                                   simp [*])
                                | (refine ⟨?_, hU⟩; simp; done)
                          · try (exfalso; first | (simp at hc8; done) | (simp only [decide_eq_true_eq, decide_eq_false_iff_not, Bool.not_eq_true', Bool.not_eq_false', Bool.not_eq_true, Bool.not_eq_false] at hc8; omega) | omega)
                            all_goals
                              try simp only [decide_eq_true_eq, decide_eq_false_iff_not, Bool.not_eq_true', Bool.not_eq_false', Bool.not_eq_true, Bool.not_eq_false, Option.isNone_none, Option.isNone_some, Option.isSome_none, Option.isSome_some, ne_eq, Decidable.not_not] at hc8
                              refine WC.skip ?_
                              refine WX.next ?_
                              refine WC.seq ?_
                              refine WC.seq ?_
                              -- region 10 law.go:29
                              refine WC.region ?_
                              refine WL.val rfl rfl rfl rfl (r_move rfl (ev_t rfl)) ?_
                              refine WL.val rfl rfl rfl rfl (r_neq rfl (ev_t rfl) ev_c) ?_
                              refine WL.nil ?_
                              refine WX.keep [(0, _), (3, _), (5, _), (7, _), (8, _), (10, _), (12, _), (13, _), (84, _)] ⟨rfl, rfl, rfl, rfl, rfl, rfl, rfl, rfl, rfl, trivial⟩ ?_
                              refine WX.next ?_
                              refine WC.cond rfl (ev_t rfl) (fun hc10 => ?_) (fun hc10 => ?_)
                              · try (exfalso; first | (simp at hc10; done) | (simp only [decide_eq_true_eq, decide_eq_false_iff_not, Bool.not_eq_true', Bool.not_eq_false', Bool.not_eq_true, Bool.not_eq_false] at hc10; omega) | omega)
                                all_goals
                                  try simp only [decide_eq_true_eq, decide_eq_false_iff_not, Bool.not_eq_true', Bool.not_eq_false', Bool.not_eq_true, Bool.not_eq_false, Option.isNone_none, Option.isNone_some, Option.isSome_none, Option.isSome_some, ne_eq, Decidable.not_not] at hc10
                                  obtain ⟨rfl, rfl⟩ := hbad (by omega)
                                  obtain rfl : ar = 0 := har
                                  replace hB9 : Blk w16 _ #[.int .i64 0, .int .i64 0] 32 := hB9
                                  replace hB10 : Blk w16 _ #[.int .i64 0, .int .i64 0] 32 := hB10
                                  replace hB6 : Blk w16 _ #[.int .i64 0, .int .i64 0] 32 := hB6
                                  have hcl0 : closedR l = false := by rw [hcl]; exact decide_eq_false (fun h => by have := h.1; omega)
                                  refine WC.seq ?_
                                  -- region 11 law.go:30
                                  refine WC.region ?_
                                  refine WL.val rfl rfl rfl rfl (r_move rfl (ev_t rfl)) ?_
                                  refine WL.cons (SO.call (Closed_ok hr hN) rfl body_24 ⟨(ev_t rfl), trivial⟩ rfl rfl rfl rfl ?_)
                                  rintro v w17 ⟨rfl, hu17⟩
                                  rw [hcl0]
                                  have hs17 := hu17.size
                                  replace hU := hU.trans hu17 (by first | exact (fun _ _ h => h) | exact (fun _ _ h => h.elim) | (intro k hl hk; (try simp only [At, New, Grow, From, No] at hk ⊢); omega))
                                  replace hr := hr.upd hu17 (by first | exact (fun _ _ _ h => h) | (intro k hk hl hS; have : k < w.heap.size := hk; simp only [At, New, Grow, From, No] at hS; omega))
                                  replace hp := hp.upd hu17 (by first | (with_reducible assumption) | exact (fun h => h) | exact (fun _ _ _ h => h) | (simp only [At]; omega) | (simp only [At, New, Grow, From, No]; omega) | (intro k hk hl hS; simp only [At] at hS; subst hS; contradiction) | (intro k hk hl hS; simp only [At] at hS; subst hS; exact Grow.old (by omega) (by assumption) hk) | (intro k hk hl hS; (try simp only [At, From, No, Grow, New] at hk hS); omega))
                                  replace hB6 := hB6.upd hu17 (by first | (with_reducible assumption) | exact (fun h => h) | exact (fun _ _ _ h => h) | (simp only [At]; omega) | (simp only [At, New, Grow, From, No]; omega) | (intro k hk hl hS; simp only [At] at hS; subst hS; contradiction) | (intro k hk hl hS; simp only [At] at hS; subst hS; exact Grow.old (by omega) (by assumption) hk) | (intro k hk hl hS; (try simp only [At, From, No, Grow, New] at hk hS); omega))
                                  replace hB9 := hB9.upd hu17 (by first | (with_reducible assumption) | exact (fun h => h) | exact (fun _ _ _ h => h) | (simp only [At]; omega) | (simp only [At, New, Grow, From, No]; omega) | (intro k hk hl hS; simp only [At] at hS; subst hS; contradiction) | (intro k hk hl hS; simp only [At] at hS; subst hS; exact Grow.old (by omega) (by assumption) hk) | (intro k hk hl hS; (try simp only [At, From, No, Grow, New] at hk hS); omega))
                                  replace hB10 := hB10.upd hu17 (by first | (with_reducible assumption) | exact (fun h => h) | exact (fun _ _ _ h => h) | (simp only [At]; omega) | (simp only [At, New, Grow, From, No]; omega) | (intro k hk hl hS; simp only [At] at hS; subst hS; contradiction) | (intro k hk hl hS; simp only [At] at hS; subst hS; exact Grow.old (by omega) (by assumption) hk) | (intro k hk hl hS; (try simp only [At, From, No, Grow, New] at hk hS); omega))
                                  replace hq := hq.upd hu17 (by first | (with_reducible assumption) | exact (fun h => h) | exact (fun _ _ _ h => h) | (simp only [At]; omega) | (simp only [At, New, Grow, From, No]; omega) | (intro k hk hl hS; simp only [At] at hS; subst hS; contradiction) | (intro k hk hl hS; simp only [At] at hS; subst hS; exact Grow.old (by omega) (by assumption) hk) | (intro k hk hl hS; (try simp only [At, From, No, Grow, New] at hk hS); omega))
                                  replace hB15 := hB15.upd hu17 (by first | (with_reducible assumption) | exact (fun h => h) | exact (fun _ _ _ h => h) | (simp only [At]; omega) | (simp only [At, New, Grow, From, No]; omega) | (intro k hk hl hS; simp only [At] at hS; subst hS; contradiction) | (intro k hk hl hS; simp only [At] at hS; subst hS; exact Grow.old (by omega) (by assumption) hk) | (intro k hk hl hS; (try simp only [At, From, No, Grow, New] at hk hS); omega))
                                  refine WL.val rfl rfl rfl rfl (r_not rfl (ev_t rfl)) ?_
                                  refine WL.val rfl rfl rfl rfl (r_move rfl (ev_t rfl)) ?_
                                  refine WL.cases 88 rfl (fun hb11_3 => ?_) (fun hb11_3 => ?_)
                                  · try (exfalso; first | (simp at hb11_3; done) | (simp only [decide_eq_true_eq, decide_eq_false_iff_not, Bool.not_eq_true', Bool.not_eq_false', Bool.not_eq_true, Bool.not_eq_false] at hb11_3; omega) | omega)
                                    all_goals
                                      try simp only [decide_eq_true_eq, decide_eq_false_iff_not, Bool.not_eq_true', Bool.not_eq_false', Bool.not_eq_true, Bool.not_eq_false, Option.isNone_none, Option.isNone_some, Option.isSome_none, Option.isSome_some, ne_eq, Decidable.not_not] at hb11_3
                                      refine WL.val rfl rfl rfl rfl (r_loadAgg (vs := [_, _]) rfl (ev_t rfl) agg_32 size_32 (Blk.cells2 hB9)) ?_
                                      refine WL.val rfl rfl rfl rfl (r_build (cs := #[_, _]) (vs := []) rfl trivial plc_32 zero_32 rfl) ?_
                                      refine WL.val rfl rfl rfl rfl (r_eqlPair rfl (ev_t rfl) (ev_t rfl) hpair) ?_
                                      refine WL.val rfl rfl rfl rfl (r_pickT rfl (ev_t rfl) (ev_t rfl)) ?_
                                      refine WL.val rfl rfl rfl rfl (r_move rfl (ev_t rfl)) ?_
                                      refine WL.cases 93 rfl (fun hb11_8 => ?_) (fun hb11_8 => ?_)
                                      · try (exfalso; first | (simp at hb11_8; done) | (simp only [decide_eq_true_eq, decide_eq_false_iff_not, Bool.not_eq_true', Bool.not_eq_false', Bool.not_eq_true, Bool.not_eq_false] at hb11_8; omega) | omega)
                                        all_goals
                                          try simp only [decide_eq_true_eq, decide_eq_false_iff_not, Bool.not_eq_true', Bool.not_eq_false', Bool.not_eq_true, Bool.not_eq_false, Option.isNone_none, Option.isNone_some, Option.isSome_none, Option.isSome_some, ne_eq, Decidable.not_not] at hb11_8
                                          refine WL.val rfl rfl rfl rfl (r_loadAgg (vs := [_, _]) rfl (ev_t rfl) agg_32 size_32 (Blk.cells2 hB10)) ?_
                                          refine WL.val rfl rfl rfl rfl (r_build (cs := #[_, _]) (vs := []) rfl trivial plc_32 zero_32 rfl) ?_
                                          refine WL.val rfl rfl rfl rfl (r_eqlPair rfl (ev_t rfl) (ev_t rfl) hpair) ?_
                                          refine WL.val rfl rfl rfl rfl (r_pickT rfl (ev_t rfl) (ev_t rfl)) ?_
                                          refine WL.val rfl rfl rfl rfl (r_move rfl (ev_t rfl)) ?_
                                          refine WL.cases 98 rfl (fun hb11_13 => ?_) (fun hb11_13 => ?_)
                                          · try (exfalso; first | (simp at hb11_13; done) | (simp only [decide_eq_true_eq, decide_eq_false_iff_not, Bool.not_eq_true', Bool.not_eq_false', Bool.not_eq_true, Bool.not_eq_false] at hb11_13; omega) | omega)
                                            all_goals
                                              try simp only [decide_eq_true_eq, decide_eq_false_iff_not, Bool.not_eq_true', Bool.not_eq_false', Bool.not_eq_true, Bool.not_eq_false, Option.isNone_none, Option.isNone_some, Option.isSome_none, Option.isSome_some, ne_eq, Decidable.not_not] at hb11_13
                                              refine WL.val rfl rfl rfl rfl (r_move rfl (ev_t rfl)) ?_
                                              refine WL.val rfl rfl rfl rfl (r_eql rfl (ev_t rfl) ev_c) ?_
                                              refine WL.val rfl rfl rfl rfl (r_pickT rfl (ev_t rfl) (ev_t rfl)) ?_
                                              refine WL.val rfl rfl rfl rfl (r_move rfl (ev_t rfl)) ?_
                                              refine WL.cases 102 rfl (fun hb11_17 => ?_) (fun hb11_17 => ?_)
                                              · try (exfalso; first | (simp at hb11_17; done) | (simp only [decide_eq_true_eq, decide_eq_false_iff_not, Bool.not_eq_true', Bool.not_eq_false', Bool.not_eq_true, Bool.not_eq_false] at hb11_17; omega) | omega)
                                                all_goals
                                                  try simp only [decide_eq_true_eq, decide_eq_false_iff_not, Bool.not_eq_true', Bool.not_eq_false', Bool.not_eq_true, Bool.not_eq_false, Option.isNone_none, Option.isNone_some, Option.isSome_none, Option.isSome_some, ne_eq, Decidable.not_not] at hb11_17
                                                  refine WL.val rfl rfl rfl rfl (r_loadAgg (vs := [_, _]) rfl (ev_t rfl) agg_32 size_32 (Blk.cells2 hB6)) ?_
                                                  refine WL.val rfl rfl rfl rfl (r_build (cs := #[_, _]) (vs := []) rfl trivial plc_32 zero_32 rfl) ?_
                                                  refine WL.val rfl rfl rfl rfl (r_eqlPair rfl (ev_t rfl) (ev_t rfl) hpair) ?_
                                                  refine WL.val rfl rfl rfl rfl (r_pickT rfl (ev_t rfl) (ev_t rfl)) ?_
                                                  refine WL.val rfl rfl rfl rfl (r_assign rfl (ev_t rfl)) ?_
                                                  refine WL.nil ?_
                                                  refine WX.keep [(2, _)] ⟨rfl, trivial⟩ ?_
                                                  refine WX.next ?_
                                                  refine WC.ret ?_
                                                  refine WX.thenRet ?_
                                                  refine WX.retE1 rfl rfl ?_
                                                  first
                                                    | exact ⟨rfl, hU⟩
                                                    | (refine ⟨?_, hU⟩
                                                       obtain ⟨z1, z2⟩ := z0
                                                       rw [Value.bool.injEq, beq_iff_eq]
                                                       simp at *
                                                       simp [*])
                                                    | (refine ⟨?_, hU⟩; simp; done)
                                              · try (exfalso; first | (simp at hb11_17; done) | (simp only [decide_eq_true_eq, decide_eq_false_iff_not, Bool.not_eq_true', Bool.not_eq_false', Bool.not_eq_true, Bool.not_eq_false] at hb11_17; omega) | omega)
                                                all_goals
                                                  try simp only [decide_eq_true_eq, decide_eq_false_iff_not, Bool.not_eq_true', Bool.not_eq_false', Bool.not_eq_true, Bool.not_eq_false, Option.isNone_none, Option.isNone_some, Option.isSome_none, Option.isSome_some, ne_eq, Decidable.not_not] at hb11_17
                                                  refine WL.skip rfl rfl rfl ?_
                                                  refine WL.skip rfl rfl rfl ?_
                                                  refine WL.skip rfl rfl rfl ?_
                                                  refine WL.val rfl rfl rfl rfl (r_pickF rfl (ev_t rfl) ev_c) ?_
                                                  refine WL.val rfl rfl rfl rfl (r_assign rfl (ev_t rfl)) ?_
                                                  refine WL.nil ?_
                                                  refine WX.keep [(2, _)] ⟨rfl, trivial⟩ ?_
                                                  refine WX.next ?_
                                                  refine WC.ret ?_
                                                  refine WX.thenRet ?_
                                                  refine WX.retE1 rfl rfl ?_
                                                  first
                                                    | exact ⟨rfl, hU⟩
                                                    | (refine ⟨?_, hU⟩
                                                       obtain ⟨z1, z2⟩ := z0
                                                       rw [Value.bool.injEq, beq_iff_eq]
                                                       simp at *
                                                       simp [*])
                                                    | (refine ⟨?_, hU⟩; simp; done)
                                          · try (exfalso; first | (simp at hb11_13; done) | (simp only [decide_eq_true_eq, decide_eq_false_iff_not, Bool.not_eq_true', Bool.not_eq_false', Bool.not_eq_true, Bool.not_eq_false] at hb11_13; omega) | omega)
                                            all_goals
                                              try simp only [decide_eq_true_eq, decide_eq_false_iff_not, Bool.not_eq_true', Bool.not_eq_false', Bool.not_eq_true, Bool.not_eq_false, Option.isNone_none, Option.isNone_some, Option.isSome_none, Option.isSome_some, ne_eq, Decidable.not_not] at hb11_13
                                              refine WL.skip rfl rfl rfl ?_
                                              refine WL.skip rfl rfl rfl ?_
                                              refine WL.val rfl rfl rfl rfl (r_pickF rfl (ev_t rfl) ev_c) ?_
                                              refine WL.val rfl rfl rfl rfl (r_move rfl (ev_t rfl)) ?_
                                              refine WL.skip rfl rfl rfl ?_
                                              refine WL.skip rfl rfl rfl ?_
                                              refine WL.skip rfl rfl rfl ?_
                                              refine WL.val rfl rfl rfl rfl (r_pickF rfl (ev_t rfl) ev_c) ?_
                                              refine WL.val rfl rfl rfl rfl (r_assign rfl (ev_t rfl)) ?_
                                              refine WL.nil ?_
                                              refine WX.keep [(2, _)] ⟨rfl, trivial⟩ ?_
                                              refine WX.next ?_
                                              refine WC.ret ?_
                                              refine WX.thenRet ?_
                                              refine WX.retE1 rfl rfl ?_
                                              first
                                                | exact ⟨rfl, hU⟩
                                                | (refine ⟨?_, hU⟩
                                                   obtain ⟨z1, z2⟩ := z0
                                                   rw [Value.bool.injEq, beq_iff_eq]
                                                   simp at *
                                                   simp [*])
                                                | (refine ⟨?_, hU⟩; simp; done)
                                      · try (exfalso; first | (simp at hb11_8; done) | (simp only [decide_eq_true_eq, decide_eq_false_iff_not, Bool.not_eq_true', Bool.not_eq_false', Bool.not_eq_true, Bool.not_eq_false] at hb11_8; omega) | omega)
                                        all_goals
                                          try simp only [decide_eq_true_eq, decide_eq_false_iff_not, Bool.not_eq_true', Bool.not_eq_false', Bool.not_eq_true, Bool.not_eq_false, Option.isNone_none, Option.isNone_some, Option.isSome_none, Option.isSome_some, ne_eq, Decidable.not_not] at hb11_8
                                          refine WL.skip rfl rfl rfl ?_
                                          refine WL.skip rfl rfl rfl ?_
                                          refine WL.skip rfl rfl rfl ?_
                                          refine WL.val rfl rfl rfl rfl (r_pickF rfl (ev_t rfl) ev_c) ?_
                                          refine WL.val rfl rfl rfl rfl (r_move rfl (ev_t rfl)) ?_
                                          refine WL.skip rfl rfl rfl ?_
                                          refine WL.skip rfl rfl rfl ?_
                                          refine WL.val rfl rfl rfl rfl (r_pickF rfl (ev_t rfl) ev_c) ?_
                                          refine WL.val rfl rfl rfl rfl (r_move rfl (ev_t rfl)) ?_
                                          refine WL.skip rfl rfl rfl ?_
                                          refine WL.skip rfl rfl rfl ?_
                                          refine WL.skip rfl rfl rfl ?_
                                          refine WL.val rfl rfl rfl rfl (r_pickF rfl (ev_t rfl) ev_c) ?_
                                          refine WL.val rfl rfl rfl rfl (r_assign rfl (ev_t rfl)) ?_
                                          refine WL.nil ?_
                                          refine WX.keep [(2, _)] ⟨rfl, trivial⟩ ?_
                                          refine WX.next ?_
                                          refine WC.ret ?_
                                          refine WX.thenRet ?_
                                          refine WX.retE1 rfl rfl ?_
                                          first
                                            | exact ⟨rfl, hU⟩
                                            | (refine ⟨?_, hU⟩
                                               obtain ⟨z1, z2⟩ := z0
                                               rw [Value.bool.injEq, beq_iff_eq]
                                               simp at *
                                               simp [*])
                                            | (refine ⟨?_, hU⟩; simp; done)
                                  · try (exfalso; first | (simp at hb11_3; done) | (simp only [decide_eq_true_eq, decide_eq_false_iff_not, Bool.not_eq_true', Bool.not_eq_false', Bool.not_eq_true, Bool.not_eq_false] at hb11_3; omega) | omega)
                                    all_goals
                                      try simp only [decide_eq_true_eq, decide_eq_false_iff_not, Bool.not_eq_true', Bool.not_eq_false', Bool.not_eq_true, Bool.not_eq_false, Option.isNone_none, Option.isNone_some, Option.isSome_none, Option.isSome_some, ne_eq, Decidable.not_not] at hb11_3
                                      refine WL.skip rfl rfl rfl ?_
                                      refine WL.skip rfl rfl rfl ?_
                                      refine WL.skip rfl rfl rfl ?_
                                      refine WL.val rfl rfl rfl rfl (r_pickF rfl (ev_t rfl) ev_c) ?_
                                      refine WL.val rfl rfl rfl rfl (r_move rfl (ev_t rfl)) ?_
                                      refine WL.skip rfl rfl rfl ?_
                                      refine WL.skip rfl rfl rfl ?_
                                      refine WL.skip rfl rfl rfl ?_
                                      refine WL.val rfl rfl rfl rfl (r_pickF rfl (ev_t rfl) ev_c) ?_
                                      refine WL.val rfl rfl rfl rfl (r_move rfl (ev_t rfl)) ?_
                                      refine WL.skip rfl rfl rfl ?_
                                      refine WL.skip rfl rfl rfl ?_
                                      refine WL.val rfl rfl rfl rfl (r_pickF rfl (ev_t rfl) ev_c) ?_
                                      refine WL.val rfl rfl rfl rfl (r_move rfl (ev_t rfl)) ?_
                                      refine WL.skip rfl rfl rfl ?_
                                      refine WL.skip rfl rfl rfl ?_
                                      refine WL.skip rfl rfl rfl ?_
                                      refine WL.val rfl rfl rfl rfl (r_pickF rfl (ev_t rfl) ev_c) ?_
                                      refine WL.val rfl rfl rfl rfl (r_assign rfl (ev_t rfl)) ?_
                                      refine WL.nil ?_
                                      refine WX.keep [(2, _)] ⟨rfl, trivial⟩ ?_
                                      refine WX.next ?_
                                      refine WC.ret ?_
                                      refine WX.thenRet ?_
                                      refine WX.retE1 rfl rfl ?_
                                      first
                                        | exact ⟨rfl, hU⟩
                                        | (refine ⟨?_, hU⟩
                                           obtain ⟨z1, z2⟩ := z0
                                           rw [Value.bool.injEq, beq_iff_eq]
                                           simp at *
                                           simp [*])
                                        | (refine ⟨?_, hU⟩; simp; done)
                              · try (exfalso; first | (simp at hc10; done) | (simp only [decide_eq_true_eq, decide_eq_false_iff_not, Bool.not_eq_true', Bool.not_eq_false', Bool.not_eq_true, Bool.not_eq_false] at hc10; omega) | omega)
                                all_goals
                                  try simp only [decide_eq_true_eq, decide_eq_false_iff_not, Bool.not_eq_true', Bool.not_eq_false', Bool.not_eq_true, Bool.not_eq_false, Option.isNone_none, Option.isNone_some, Option.isSome_none, Option.isSome_some, ne_eq, Decidable.not_not] at hc10
                                  have her : er = 0 := by omega
                                  refine WC.skip ?_
                                  refine WX.next ?_
                                  refine WC.seq ?_
                                  -- region 12 law.go:32
                                  refine WC.region ?_
                                  refine WL.val rfl rfl rfl rfl (r_assign rfl ev_c) ?_
                                  refine WL.nil ?_
                                  refine WX.keep [(0, _), (3, _), (5, _), (7, _), (8, _), (10, _), (12, _), (13, _), (15, _)] ⟨rfl, rfl, rfl, rfl, rfl, rfl, rfl, rfl, rfl, trivial⟩ ?_
                                  refine WX.next ?_
                                  refine WC.seq ?_
                                  -- region 13 law.go:33
                                  refine WC.region ?_
                                  refine WL.cons (SO.alloc rfl rfl rfl rfl (r_alloc rfl zero_54) ?_)
                                  intro w18 hu18 hB18 hz18
                                  have hs18 := hu18.size
                                  replace hU := hU.trans hu18 (by first | exact (fun _ _ h => h) | exact (fun _ _ h => h.elim) | (intro k hl hk; (try simp only [At, New, Grow, From, No] at hk ⊢); omega))
                                  replace hr := hr.upd hu18 (by first | exact (fun _ _ _ h => h) | (intro k hk hl hS; have : k < w.heap.size := hk; simp only [At, New, Grow, From, No] at hS; omega))
                                  replace hp := hp.upd hu18 (by first | (with_reducible assumption) | exact (fun h => h) | exact (fun _ _ _ h => h) | (simp only [At]; omega) | (simp only [At, New, Grow, From, No]; omega) | (intro k hk hl hS; simp only [At] at hS; subst hS; contradiction) | (intro k hk hl hS; simp only [At] at hS; subst hS; exact Grow.old (by omega) (by assumption) hk) | (intro k hk hl hS; (try simp only [At, From, No, Grow, New] at hk hS); omega))
                                  replace hB6 := hB6.upd hu18 (by first | (with_reducible assumption) | exact (fun h => h) | exact (fun _ _ _ h => h) | (simp only [At]; omega) | (simp only [At, New, Grow, From, No]; omega) | (intro k hk hl hS; simp only [At] at hS; subst hS; contradiction) | (intro k hk hl hS; simp only [At] at hS; subst hS; exact Grow.old (by omega) (by assumption) hk) | (intro k hk hl hS; (try simp only [At, From, No, Grow, New] at hk hS); omega))
                                  replace hB9 := hB9.upd hu18 (by first | (with_reducible assumption) | exact (fun h => h) | exact (fun _ _ _ h => h) | (simp only [At]; omega) | (simp only [At, New, Grow, From, No]; omega) | (intro k hk hl hS; simp only [At] at hS; subst hS; contradiction) | (intro k hk hl hS; simp only [At] at hS; subst hS; exact Grow.old (by omega) (by assumption) hk) | (intro k hk hl hS; (try simp only [At, From, No, Grow, New] at hk hS); omega))
                                  replace hB10 := hB10.upd hu18 (by first | (with_reducible assumption) | exact (fun h => h) | exact (fun _ _ _ h => h) | (simp only [At]; omega) | (simp only [At, New, Grow, From, No]; omega) | (intro k hk hl hS; simp only [At] at hS; subst hS; contradiction) | (intro k hk hl hS; simp only [At] at hS; subst hS; exact Grow.old (by omega) (by assumption) hk) | (intro k hk hl hS; (try simp only [At, From, No, Grow, New] at hk hS); omega))
                                  replace hq := hq.upd hu18 (by first | (with_reducible assumption) | exact (fun h => h) | exact (fun _ _ _ h => h) | (simp only [At]; omega) | (simp only [At, New, Grow, From, No]; omega) | (intro k hk hl hS; simp only [At] at hS; subst hS; contradiction) | (intro k hk hl hS; simp only [At] at hS; subst hS; exact Grow.old (by omega) (by assumption) hk) | (intro k hk hl hS; (try simp only [At, From, No, Grow, New] at hk hS); omega))
                                  replace hB15 := hB15.upd hu18 (by first | (with_reducible assumption) | exact (fun h => h) | exact (fun _ _ _ h => h) | (simp only [At]; omega) | (simp only [At, New, Grow, From, No]; omega) | (intro k hk hl hS; simp only [At] at hS; subst hS; contradiction) | (intro k hk hl hS; simp only [At] at hS; subst hS; exact Grow.old (by omega) (by assumption) hk) | (intro k hk hl hS; (try simp only [At, From, No, Grow, New] at hk hS); omega))
                                  refine WL.cons (SO.alloc rfl rfl rfl rfl (r_alloc rfl zero_54) ?_)
                                  intro w19 hu19 hB19 hz19
                                  have hs19 := hu19.size
                                  replace hU := hU.trans hu19 (by first | exact (fun _ _ h => h) | exact (fun _ _ h => h.elim) | (intro k hl hk; (try simp only [At, New, Grow, From, No] at hk ⊢); omega))
                                  replace hr := hr.upd hu19 (by first | exact (fun _ _ _ h => h) | (intro k hk hl hS; have : k < w.heap.size := hk; simp only [At, New, Grow, From, No] at hS; omega))
                                  replace hp := hp.upd hu19 (by first | (with_reducible assumption) | exact (fun h => h) | exact (fun _ _ _ h => h) | (simp only [At]; omega) | (simp only [At, New, Grow, From, No]; omega) | (intro k hk hl hS; simp only [At] at hS; subst hS; contradiction) | (intro k hk hl hS; simp only [At] at hS; subst hS; exact Grow.old (by omega) (by assumption) hk) | (intro k hk hl hS; (try simp only [At, From, No, Grow, New] at hk hS); omega))
                                  replace hB6 := hB6.upd hu19 (by first | (with_reducible assumption) | exact (fun h => h) | exact (fun _ _ _ h => h) | (simp only [At]; omega) | (simp only [At, New, Grow, From, No]; omega) | (intro k hk hl hS; simp only [At] at hS; subst hS; contradiction) | (intro k hk hl hS; simp only [At] at hS; subst hS; exact Grow.old (by omega) (by assumption) hk) | (intro k hk hl hS; (try simp only [At, From, No, Grow, New] at hk hS); omega))
                                  replace hB9 := hB9.upd hu19 (by first | (with_reducible assumption) | exact (fun h => h) | exact (fun _ _ _ h => h) | (simp only [At]; omega) | (simp only [At, New, Grow, From, No]; omega) | (intro k hk hl hS; simp only [At] at hS; subst hS; contradiction) | (intro k hk hl hS; simp only [At] at hS; subst hS; exact Grow.old (by omega) (by assumption) hk) | (intro k hk hl hS; (try simp only [At, From, No, Grow, New] at hk hS); omega))
                                  replace hB10 := hB10.upd hu19 (by first | (with_reducible assumption) | exact (fun h => h) | exact (fun _ _ _ h => h) | (simp only [At]; omega) | (simp only [At, New, Grow, From, No]; omega) | (intro k hk hl hS; simp only [At] at hS; subst hS; contradiction) | (intro k hk hl hS; simp only [At] at hS; subst hS; exact Grow.old (by omega) (by assumption) hk) | (intro k hk hl hS; (try simp only [At, From, No, Grow, New] at hk hS); omega))
                                  replace hq := hq.upd hu19 (by first | (with_reducible assumption) | exact (fun h => h) | exact (fun _ _ _ h => h) | (simp only [At]; omega) | (simp only [At, New, Grow, From, No]; omega) | (intro k hk hl hS; simp only [At] at hS; subst hS; contradiction) | (intro k hk hl hS; simp only [At] at hS; subst hS; exact Grow.old (by omega) (by assumption) hk) | (intro k hk hl hS; (try simp only [At, From, No, Grow, New] at hk hS); omega))
                                  replace hB15 := hB15.upd hu19 (by first | (with_reducible assumption) | exact (fun h => h) | exact (fun _ _ _ h => h) | (simp only [At]; omega) | (simp only [At, New, Grow, From, No]; omega) | (intro k hk hl hS; simp only [At] at hS; subst hS; contradiction) | (intro k hk hl hS; simp only [At] at hS; subst hS; exact Grow.old (by omega) (by assumption) hk) | (intro k hk hl hS; (try simp only [At, From, No, Grow, New] at hk hS); omega))
                                  replace hB18 := hB18.upd hu19 (by first | (with_reducible assumption) | exact (fun h => h) | exact (fun _ _ _ h => h) | (simp only [At]; omega) | (simp only [At, New, Grow, From, No]; omega) | (intro k hk hl hS; simp only [At] at hS; subst hS; contradiction) | (intro k hk hl hS; simp only [At] at hS; subst hS; exact Grow.old (by omega) (by assumption) hk) | (intro k hk hl hS; (try simp only [At, From, No, Grow, New] at hk hS); omega))
                                  refine WL.nil ?_
                                  refine WX.keep [(0, _), (3, _), (5, _), (7, _), (8, _), (10, _), (12, _), (13, _), (15, _), (16, _), (17, _)] ⟨rfl, rfl, rfl, rfl, rfl, rfl, rfl, rfl, rfl, rfl, rfl, trivial⟩ ?_
                                  refine WX.next ?_
                                  refine WC.seq ?_
                                  refine WC.seq ?_
                                  -- region 14 law.go:34
                                  refine WC.region ?_
                                  refine WL.val rfl rfl rfl rfl (r_assign rfl ev_c) ?_
                                  refine WL.nil ?_
                                  refine WX.keep [(0, _), (3, _), (5, _), (7, _), (8, _), (10, _), (12, _), (13, _), (15, _), (16, _), (17, _), (18, _)] ⟨rfl, rfl, rfl, rfl, rfl, rfl, rfl, rfl, rfl, rfl, rfl, rfl, trivial⟩ ?_
                                  refine WX.next ?_
                                  refine WC.block ?_
                                  -- loop 1: live [0, 3, 5, 7, 8, 10, 12, 13, 15, 16, 17, 18]
                                  refine WC.keep [(0, _), (3, _), (5, _), (7, _), (8, _), (10, _), (12, _), (13, _), (15, _), (16, _), (17, _), (18, _)] ⟨rfl, rfl, rfl, rfl, rfl, rfl, rfl, rfl, rfl, rfl, rfl, rfl, trivial⟩ ?_
                                  refine WC.loop (fun q E w' => ∃ (i : Nat) (z : Int) (lo hi : Int × Int), i ≤ out.length ∧ q = out.length - i ∧ z = IntKind.i64.wrap (areaP (out.take i)) ∧ lo = lowP (out.take i) ∧ hi = highP (out.take i) ∧ Upd No w w' ∧ w19.heap.size ≤ w'.heap.size ∧   Rd w' (fun k => k < w.heap.size) (.slice A l.length c) l.length 2 (movC l) ∧ Own w' (New w1 w4) 32 2 (.slice Ap out.length cp) out.length (plC out) ∧ Own w' (New w13 w14) 54 2 (.slice Aq out.length cq) out.length (plC out) ∧   Blk w' w5.heap.size #[.int .i64 lk.1, .int .i64 lk.2] 32 ∧ Blk w' w8.heap.size #[.int .i64 (lowP out).1, .int .i64 (lowP out).2] 32 ∧ Blk w' w9.heap.size #[.int .i64 (highP out).1, .int .i64 (highP out).2] 32 ∧   Blk w' w14.heap.size #[.int .i64 lk.1, .int .i64 lk.2] 54 ∧ Blk w' w16.heap.size #[.int .i64 lo.1, .int .i64 lo.2] 54 ∧ Blk w' w18.heap.size #[.int .i64 hi.1, .int .i64 hi.2] 54 ∧   E = [(0, .slice A l.length c), (3, .slice Ap out.length cp), (5, .pointer (some ⟨w5.heap.size, 0, none⟩)), (7, .pointer (some ⟨w8.heap.size, 0, none⟩)), (8, .pointer (some ⟨w9.heap.size, 0, none⟩)), (10, .int .i64 ar), (12, .slice Aq out.length cq), (13, .pointer (some ⟨w14.heap.size, 0, none⟩)), (15, .int .i64 z), (16, .pointer (some ⟨w16.heap.size, 0, none⟩)), (17, .pointer (some ⟨w18.heap.size, 0, none⟩)), (18, .int .i64 (i : Int))]) (out.length) ?_ ?_
                                  · exact ⟨0, 0, (0, 0), (0, 0), by omega, by omega, rfl, rfl, rfl, hU, by omega, hr, hp, hq, hB6, hB9, hB10, hB15, hB18, hB19, rfl⟩
                                  · rintro q E w' ⟨i, z, lo, hi, hi1, rfl, hz, hlo, hhi, hU, hw18, hr, hp, hq, hB6, hB9, hB10, hB15, hBl, hBh, rfl⟩
                                    have hs0 := hU.size
                                    refine WC.seq ?_
                                    refine WC.seq ?_
                                    -- region 15 law.go:34
                                    refine WC.region ?_
                                    refine WL.val rfl rfl rfl rfl (r_move rfl (ev_t rfl)) ?_
                                    refine WL.val rfl rfl rfl rfl (r_move rfl (ev_t rfl)) ?_
                                    refine WL.val rfl rfl rfl rfl (r_lenSlice (ts := #[]) rfl (ev_t rfl) elem_53) ?_
                                    refine WL.val rfl rfl rfl rfl (r_lss rfl (ev_t rfl) (ev_t rfl)) ?_
                                    refine WL.nil ?_
                                    refine WX.keep [(0, _), (3, _), (5, _), (7, _), (8, _), (10, _), (12, _), (13, _), (15, _), (16, _), (17, _), (18, _), (110, _)] ⟨rfl, rfl, rfl, rfl, rfl, rfl, rfl, rfl, rfl, rfl, rfl, rfl, rfl, trivial⟩ ?_
                                    refine WX.next ?_
                                    refine WC.cond rfl (ev_t rfl) (fun hc15 => ?_) (fun hc15 => ?_)
                                    · try (exfalso; first | (simp at hc15; done) | (simp only [decide_eq_true_eq, decide_eq_false_iff_not, Bool.not_eq_true', Bool.not_eq_false', Bool.not_eq_true, Bool.not_eq_false] at hc15; omega) | omega)
                                      all_goals
                                        try simp only [decide_eq_true_eq, decide_eq_false_iff_not, Bool.not_eq_true', Bool.not_eq_false', Bool.not_eq_true, Bool.not_eq_false, Option.isNone_none, Option.isNone_some, Option.isSome_none, Option.isSome_some, ne_eq, Decidable.not_not] at hc15
                                        have hi' : i < out.length := by omega
                                        obtain ⟨b1, off1, rfl, _⟩ := (hp.rd (by omega)).open (by omega)
                                        obtain ⟨b2, off2, rfl, _⟩ := (hq.rd (by omega)).open (by omega)
                                        have hg := List.getElem?_eq_getElem hi'
                                        have hcm := movP_get hg
                                        have hlo' := fold_take (f := minP) (z := (0, 0)) hg
                                        have hhi' := fold_take (f := maxP) (z := (0, 0)) hg
                                        have hpb1 := hpb _ (List.getElem_mem hi')
                                        generalize out[i] = p at *
                                        refine WC.skip ?_
                                        refine WX.next ?_
                                        refine WC.seq ?_
                                        refine WC.block ?_
                                        refine WC.seq ?_
                                        refine WC.seq ?_
                                        -- region 17 law.go:35 DRAWS
                                        refine WC.draws' (fun u0_ u1_ => Upd No u0_ u1_) (fun j => [0, 0, 0, 0, 0, 0, 0, 0, 0, 1, 0, 0, 0, 0, 0, 0, 0, 0, 0, 0, 0, 1, 0, 0].getD j 0) (.calm 0 (.calm 1 (.calm 2 (.calm 3 (.calm 5 (.calm 6 (.calm 7 (.calm 8 (.held 4 (.one 9 (.calm 10 (.calm 11 (.calm 12 (.calm 13 (.calm 14 (.calm 15 (.calm 17 (.calm 18 (.calm 19 (.calm 20 (.held 16 (.one 21 (.calm 22 (.calm 23 (.done))))))))))))))))))))))))) mixed (by kernel_rfl) (by repeat (first | with_reducible exact Deaf.body | with_reducible apply Deaf.then | with_reducible apply Deaf.block)) ?_
                                        intro w20 hu20
                                        have hz20 := congrArg Array.size hu20.2.2.2
                                        replace hu20 := Upd.of_draw hu20
                                        have hs20 := hu20.size
                                        replace hU := hU.trans hu20 (by first | exact (fun _ _ h => h) | exact (fun _ _ h => h.elim) | (intro k hl hk; (try simp only [At, New, Grow, From, No] at hk ⊢); omega))
                                        replace hr := hr.upd hu20 (by first | exact (fun _ _ _ h => h) | (intro k hk hl hS; have : k < w.heap.size := hk; simp only [At, New, Grow, From, No] at hS; omega))
                                        replace hp := hp.upd hu20 (by first | (with_reducible assumption) | exact (fun h => h) | exact (fun _ _ _ h => h) | (simp only [At]; omega) | (simp only [At, New, Grow, From, No]; omega) | (intro k hk hl hS; simp only [At] at hS; subst hS; contradiction) | (intro k hk hl hS; simp only [At] at hS; subst hS; exact Grow.old (by omega) (by assumption) hk) | (intro k hk hl hS; (try simp only [At, From, No, Grow, New] at hk hS); omega))
                                        replace hq := hq.upd hu20 (by first | (with_reducible assumption) | exact (fun h => h) | exact (fun _ _ _ h => h) | (simp only [At]; omega) | (simp only [At, New, Grow, From, No]; omega) | (intro k hk hl hS; simp only [At] at hS; subst hS; contradiction) | (intro k hk hl hS; simp only [At] at hS; subst hS; exact Grow.old (by omega) (by assumption) hk) | (intro k hk hl hS; (try simp only [At, From, No, Grow, New] at hk hS); omega))
                                        replace hB6 := hB6.upd hu20 (by first | (with_reducible assumption) | exact (fun h => h) | exact (fun _ _ _ h => h) | (simp only [At]; omega) | (simp only [At, New, Grow, From, No]; omega) | (intro k hk hl hS; simp only [At] at hS; subst hS; contradiction) | (intro k hk hl hS; simp only [At] at hS; subst hS; exact Grow.old (by omega) (by assumption) hk) | (intro k hk hl hS; (try simp only [At, From, No, Grow, New] at hk hS); omega))
                                        replace hB9 := hB9.upd hu20 (by first | (with_reducible assumption) | exact (fun h => h) | exact (fun _ _ _ h => h) | (simp only [At]; omega) | (simp only [At, New, Grow, From, No]; omega) | (intro k hk hl hS; simp only [At] at hS; subst hS; contradiction) | (intro k hk hl hS; simp only [At] at hS; subst hS; exact Grow.old (by omega) (by assumption) hk) | (intro k hk hl hS; (try simp only [At, From, No, Grow, New] at hk hS); omega))
                                        replace hB10 := hB10.upd hu20 (by first | (with_reducible assumption) | exact (fun h => h) | exact (fun _ _ _ h => h) | (simp only [At]; omega) | (simp only [At, New, Grow, From, No]; omega) | (intro k hk hl hS; simp only [At] at hS; subst hS; contradiction) | (intro k hk hl hS; simp only [At] at hS; subst hS; exact Grow.old (by omega) (by assumption) hk) | (intro k hk hl hS; (try simp only [At, From, No, Grow, New] at hk hS); omega))
                                        replace hB15 := hB15.upd hu20 (by first | (with_reducible assumption) | exact (fun h => h) | exact (fun _ _ _ h => h) | (simp only [At]; omega) | (simp only [At, New, Grow, From, No]; omega) | (intro k hk hl hS; simp only [At] at hS; subst hS; contradiction) | (intro k hk hl hS; simp only [At] at hS; subst hS; exact Grow.old (by omega) (by assumption) hk) | (intro k hk hl hS; (try simp only [At, From, No, Grow, New] at hk hS); omega))
                                        replace hBl := hBl.upd hu20 (by first | (with_reducible assumption) | exact (fun h => h) | exact (fun _ _ _ h => h) | (simp only [At]; omega) | (simp only [At, New, Grow, From, No]; omega) | (intro k hk hl hS; simp only [At] at hS; subst hS; contradiction) | (intro k hk hl hS; simp only [At] at hS; subst hS; exact Grow.old (by omega) (by assumption) hk) | (intro k hk hl hS; (try simp only [At, From, No, Grow, New] at hk hS); omega))
                                        replace hBh := hBh.upd hu20 (by first | (with_reducible assumption) | exact (fun h => h) | exact (fun _ _ _ h => h) | (simp only [At]; omega) | (simp only [At, New, Grow, From, No]; omega) | (intro k hk hl hS; simp only [At] at hS; subst hS; contradiction) | (intro k hk hl hS; simp only [At] at hS; subst hS; exact Grow.old (by omega) (by assumption) hk) | (intro k hk hl hS; (try simp only [At, From, No, Grow, New] at hk hS); omega))
                                        have hS17 := Upd.refl No w20
                                        refine WN.calm _ rfl rfl rfl rfl rfl (fun _ => r_move rfl (ev_t rfl)) ?_
                                        refine WN.calm _ rfl rfl rfl rfl rfl (fun _ => r_move rfl (ev_t rfl)) ?_
                                        refine WN.calm _ rfl rfl rfl rfl rfl (fun _ => r_indexAddr rfl (ev_t rfl) (ev_t rfl) elem_27 size_32 (by omega) (by omega)) ?_
                                        first | refine WN.calm _ rfl rfl rfl rfl rfl (fun _ => r_field0 rfl (ev_t rfl) fld_32_0) ?_ | refine WN.calm _ rfl rfl rfl rfl rfl (fun _ => r_fieldAt rfl (ev_t rfl) fld_32_0) ?_
                                        refine WN.calm _ rfl rfl rfl rfl rfl (fun _ => r_move rfl (ev_t rfl)) ?_
                                        refine WN.calm _ rfl rfl rfl rfl rfl (fun _ => r_move rfl (ev_t rfl)) ?_
                                        refine WN.calm _ rfl rfl rfl rfl rfl (fun _ => r_indexAddr rfl (ev_t rfl) (ev_t rfl) elem_53 size_54 (by omega) (by omega)) ?_
                                        refine WN.calm _ rfl rfl rfl rfl rfl (fun _ => r_indexArr rfl (ev_t rfl) ev_c arr_54 size_2 (by omega) (by omega)) ?_
                                        refine WN.held _ rfl rfl rfl rfl rfl hS17 (fun w' hS => r_load rfl (ev_t rfl) flat_2 (((hp.upd hS (fun _ _ _ h => h)).rd (by omega)).cell (j := i * 2) (by omega) hcm.1)) ?_
                                        refine WN.step _ rfl (SO.val rfl rfl rfl rfl (r_load rfl (ev_t rfl) flat_2 ((hq.rd (by omega)).cell (j := i * 2) (by omega) hcm.1)) ?_)
                                        refine ⟨hS17, ?_⟩
                                        refine WN.calm _ rfl rfl rfl rfl rfl (fun _ => r_neq rfl (ev_t rfl) (ev_t rfl)) ?_
                                        refine WN.calm _ rfl rfl rfl rfl rfl (fun _ => r_move rfl (ev_t rfl)) ?_
                                        refine WN.cases 124 rfl (fun hb17_11 => ?_) (fun hb17_11 => ?_)
                                        · try (exfalso; first | (simp at hb17_11; done) | (simp only [decide_eq_true_eq, decide_eq_false_iff_not, Bool.not_eq_true', Bool.not_eq_false', Bool.not_eq_true, Bool.not_eq_false] at hb17_11; omega) | omega)
                                          all_goals
                                            try simp only [decide_eq_true_eq, decide_eq_false_iff_not, Bool.not_eq_true', Bool.not_eq_false', Bool.not_eq_true, Bool.not_eq_false, Option.isNone_none, Option.isNone_some, Option.isSome_none, Option.isSome_some, ne_eq, Decidable.not_not] at hb17_11
                                            refine WN.skip _ rfl rfl rfl rfl ?_
                                            refine WN.skip _ rfl rfl rfl rfl ?_
                                            refine WN.skip _ rfl rfl rfl rfl ?_
                                            refine WN.skip _ rfl rfl rfl rfl ?_
                                            refine WN.skip _ rfl rfl rfl rfl ?_
                                            refine WN.skip _ rfl rfl rfl rfl ?_
                                            refine WN.skip _ rfl rfl rfl rfl ?_
                                            refine WN.skip _ rfl rfl rfl rfl ?_
                                            refine WN.heldSkip _ rfl rfl rfl rfl hS17 ?_
                                            refine WN.step _ rfl (SO.skip rfl rfl rfl ?_)
                                            refine ⟨hS17, ?_⟩
                                            refine WN.skip _ rfl rfl rfl rfl ?_
                                            refine WN.calm _ rfl rfl rfl rfl rfl (fun _ => r_pickT rfl (ev_t rfl) ev_c) ?_
                                            refine WN.done ?_
                                            refine WX.keep [(0, _), (3, _), (5, _), (7, _), (8, _), (10, _), (12, _), (13, _), (15, _), (16, _), (17, _), (18, _), (136, _)] ⟨rfl, rfl, rfl, rfl, rfl, rfl, rfl, rfl, rfl, rfl, rfl, rfl, rfl, trivial⟩ ?_
                                            refine WX.next ?_
                                            refine WC.cond_true rfl (ev_t rfl) ?_
                                            refine WC.seq ?_
                                            -- region 18 law.go:36
                                            refine WC.region ?_
                                            refine WL.val rfl rfl rfl rfl (r_assign rfl ev_c) ?_
                                            refine WL.nil ?_
                                            refine WX.keep [(2, _)] ⟨rfl, trivial⟩ ?_
                                            refine WX.next ?_
                                            refine WC.ret ?_
                                            refine WX.thenRet ?_
                                            refine WX.blockRet ?_
                                            refine WX.thenRet ?_
                                            refine WX.thenRet ?_
                                            refine WX.blockRet ?_
                                            refine WX.thenRet ?_
                                            refine WX.retE1 rfl rfl ?_
                                            first
                                              | exact ⟨rfl, hU⟩
                                              | (refine ⟨?_, hU⟩
                                                 obtain ⟨z1, z2⟩ := z0
                                                 rw [Value.bool.injEq, beq_iff_eq]
                                                 simp at *
                                                 simp [*])
                                              | (refine ⟨?_, hU⟩; simp; done)
                                        · try (exfalso; first | (simp at hb17_11; done) | (simp only [decide_eq_true_eq, decide_eq_false_iff_not, Bool.not_eq_true', Bool.not_eq_false', Bool.not_eq_true, Bool.not_eq_false] at hb17_11; omega) | omega)
                                          all_goals
                                            try simp only [decide_eq_true_eq, decide_eq_false_iff_not, Bool.not_eq_true', Bool.not_eq_false', Bool.not_eq_true, Bool.not_eq_false, Option.isNone_none, Option.isNone_some, Option.isSome_none, Option.isSome_some, ne_eq, Decidable.not_not] at hb17_11
                                            refine WN.calm _ rfl rfl rfl rfl rfl (fun _ => r_move rfl (ev_t rfl)) ?_
                                            refine WN.calm _ rfl rfl rfl rfl rfl (fun _ => r_move rfl (ev_t rfl)) ?_
                                            refine WN.calm _ rfl rfl rfl rfl rfl (fun _ => r_indexAddr rfl (ev_t rfl) (ev_t rfl) elem_27 size_32 (by omega) (by omega)) ?_
                                            first | refine WN.calm _ rfl rfl rfl rfl rfl (fun _ => r_field0 rfl (ev_t rfl) fld_32_1) ?_ | refine WN.calm _ rfl rfl rfl rfl rfl (fun _ => r_fieldAt rfl (ev_t rfl) fld_32_1) ?_
                                            refine WN.calm _ rfl rfl rfl rfl rfl (fun _ => r_move rfl (ev_t rfl)) ?_
                                            refine WN.calm _ rfl rfl rfl rfl rfl (fun _ => r_move rfl (ev_t rfl)) ?_
                                            refine WN.calm _ rfl rfl rfl rfl rfl (fun _ => r_indexAddr rfl (ev_t rfl) (ev_t rfl) elem_53 size_54 (by omega) (by omega)) ?_
                                            refine WN.calm _ rfl rfl rfl rfl rfl (fun _ => r_indexArr rfl (ev_t rfl) ev_c arr_54 size_2 (by omega) (by omega)) ?_
                                            refine WN.held _ rfl rfl rfl rfl rfl hS17 (fun w' hS => r_load rfl (ev_t rfl) flat_2 (((hp.upd hS (fun _ _ _ h => h)).rd (by omega)).cell (j := i * 2 + 1) (by omega) hcm.2)) ?_
                                            first | refine WN.step _ rfl (SO.val rfl rfl rfl rfl (r_load rfl (ev_t rfl) flat_2 ((hq.rd (by omega)).cell (j := i * 2 + 1) (by omega) hcm.2)) ?_) | refine WN.step _ rfl (SO.val rfl rfl rfl rfl (r_load rfl (ev_t rfl) flat_2 ((hq.rd (by omega)).cell (j := i * 2 + 1) (by omega) hcm.2)) ?_)
                                            refine ⟨hS17, ?_⟩
                                            refine WN.calm _ rfl rfl rfl rfl rfl (fun _ => r_neq rfl (ev_t rfl) (ev_t rfl)) ?_
                                            refine WN.calm _ rfl rfl rfl rfl rfl (fun _ => r_pickF rfl (ev_t rfl) (ev_t rfl)) ?_
                                            refine WN.done ?_
                                            refine WX.keep [(0, _), (3, _), (5, _), (7, _), (8, _), (10, _), (12, _), (13, _), (15, _), (16, _), (17, _), (18, _), (136, _)] ⟨rfl, rfl, rfl, rfl, rfl, rfl, rfl, rfl, rfl, rfl, rfl, rfl, rfl, trivial⟩ ?_
                                            refine WX.next ?_
                                            refine WC.cond rfl (ev_t rfl) (fun hc17 => ?_) (fun hc17 => ?_)
                                            · try (exfalso; first | (simp at hc17; done) | (simp only [decide_eq_true_eq, decide_eq_false_iff_not, Bool.not_eq_true', Bool.not_eq_false', Bool.not_eq_true, Bool.not_eq_false] at hc17; omega) | omega)
                                              all_goals
                                                try simp only [decide_eq_true_eq, decide_eq_false_iff_not, Bool.not_eq_true', Bool.not_eq_false', Bool.not_eq_true, Bool.not_eq_false, Option.isNone_none, Option.isNone_some, Option.isSome_none, Option.isSome_some, ne_eq, Decidable.not_not] at hc17
                                                refine WC.seq ?_
                                                -- region 18 law.go:36
                                                refine WC.region ?_
                                                refine WL.val rfl rfl rfl rfl (r_assign rfl ev_c) ?_
                                                refine WL.nil ?_
                                                refine WX.keep [(2, _)] ⟨rfl, trivial⟩ ?_
                                                refine WX.next ?_
                                                refine WC.ret ?_
                                                refine WX.thenRet ?_
                                                refine WX.blockRet ?_
                                                refine WX.thenRet ?_
                                                refine WX.thenRet ?_
                                                refine WX.blockRet ?_
                                                refine WX.thenRet ?_
                                                refine WX.retE1 rfl rfl ?_
                                                first
                                                  | exact ⟨rfl, hU⟩
                                                  | (refine ⟨?_, hU⟩
                                                     obtain ⟨z1, z2⟩ := z0
                                                     rw [Value.bool.injEq, beq_iff_eq]
                                                     simp at *
                                                     simp [*])
                                                  | (refine ⟨?_, hU⟩; simp; done)
                                            · try (exfalso; first | (simp at hc17; done) | (simp only [decide_eq_true_eq, decide_eq_false_iff_not, Bool.not_eq_true', Bool.not_eq_false', Bool.not_eq_true, Bool.not_eq_false] at hc17; omega) | omega)
                                              all_goals
                                                try simp only [decide_eq_true_eq, decide_eq_false_iff_not, Bool.not_eq_true', Bool.not_eq_false', Bool.not_eq_true, Bool.not_eq_false, Option.isNone_none, Option.isNone_some, Option.isSome_none, Option.isSome_some, ne_eq, Decidable.not_not] at hc17
                                                refine WC.skip ?_
                                                refine WX.next ?_
                                                refine WC.seq ?_
                                                refine WC.seq ?_
                                                -- region 19 law.go:38
                                                refine WC.region ?_
                                                refine WL.val rfl rfl rfl rfl (r_assign rfl ev_c) ?_
                                                refine WL.nil ?_
                                                refine WX.keep [(0, _), (3, _), (5, _), (7, _), (8, _), (10, _), (12, _), (13, _), (15, _), (16, _), (17, _), (18, _), (19, _)] ⟨rfl, rfl, rfl, rfl, rfl, rfl, rfl, rfl, rfl, rfl, rfl, rfl, rfl, trivial⟩ ?_
                                                have hV := Upd.refl (fun k => k = w16.heap.size ∨ k = w18.heap.size) w20
                                                refine WX.next ?_
                                                refine WC.block ?_
                                                -- loop 2: live [0, 3, 5, 7, 8, 10, 12, 13, 15, 16, 17, 18, 19]
                                                refine WC.keep [(0, _), (3, _), (5, _), (7, _), (8, _), (10, _), (12, _), (13, _), (15, _), (16, _), (17, _), (18, _), (19, _)] ⟨rfl, rfl, rfl, rfl, rfl, rfl, rfl, rfl, rfl, rfl, rfl, rfl, rfl, trivial⟩ ?_
                                                refine WC.loop (fun q2 E w2' => ∃ k : Nat, k ≤ 2 ∧ q2 = 2 - k ∧ Upd No w w2' ∧ Upd (fun k => k = w16.heap.size ∨ k = w18.heap.size) w20 w2' ∧   Blk w2' w16.heap.size #[.int .i64 (minK lo p k).1, .int .i64 (minK lo p k).2] 54 ∧ Blk w2' w18.heap.size #[.int .i64 (maxK hi p k).1, .int .i64 (maxK hi p k).2] 54 ∧   E = [(0, .slice A l.length c), (3, .slice (some ⟨b1, off1, none⟩) out.length cp), (5, .pointer (some ⟨w5.heap.size, 0, none⟩)), (7, .pointer (some ⟨w8.heap.size, 0, none⟩)), (8, .pointer (some ⟨w9.heap.size, 0, none⟩)), (10, .int .i64 ar), (12, .slice (some ⟨b2, off2, none⟩) out.length cq), (13, .pointer (some ⟨w14.heap.size, 0, none⟩)), (15, .int .i64 z), (16, .pointer (some ⟨w16.heap.size, 0, none⟩)), (17, .pointer (some ⟨w18.heap.size, 0, none⟩)), (18, .int .i64 (i : Int)), (19, .int .i64 (k : Int))]) (2) ?_ ?_
                                                · exact ⟨0, by omega, by omega, hU, hV, hBl, hBh, rfl⟩
                                                · clear hV hU hBl hBh
                                                  rintro q2 E w2' ⟨k, hk, rfl, hU, hV, hBl, hBh, rfl⟩
                                                  have hs0' := hU.size
                                                  have hs1' := hV.size
                                                  replace hr := hr.upd hV (by intro k hk hl hS; have : k < w.heap.size := hk; rcases hS with rfl | rfl <;> omega)
                                                  replace hp := hp.upd hV (by intro k hk hl hS; simp only [New] at hk; rcases hS with rfl | rfl <;> omega)
                                                  replace hq := hq.upd hV (by intro k hk hl hS; simp only [New] at hk; rcases hS with rfl | rfl <;> omega)
                                                  replace hB6 := hB6.upd hV (by intro hS; rcases hS with h | h <;> omega)
                                                  replace hB9 := hB9.upd hV (by intro hS; rcases hS with h | h <;> omega)
                                                  replace hB10 := hB10.upd hV (by intro hS; rcases hS with h | h <;> omega)
                                                  replace hB15 := hB15.upd hV (by intro hS; rcases hS with h | h <;> omega)
                                                  refine WC.seq ?_
                                                  refine WC.seq ?_
                                                  -- region 20 law.go:38
                                                  refine WC.region ?_
                                                  refine WL.val rfl rfl rfl rfl (r_move rfl (ev_t rfl)) ?_
                                                  refine WL.val rfl rfl rfl rfl (r_lss rfl (ev_t rfl) ev_c) ?_
                                                  refine WL.nil ?_
                                                  refine WX.keep [(0, _), (3, _), (5, _), (7, _), (8, _), (10, _), (12, _), (13, _), (15, _), (16, _), (17, _), (18, _), (19, _), (138, _)] ⟨rfl, rfl, rfl, rfl, rfl, rfl, rfl, rfl, rfl, rfl, rfl, rfl, rfl, rfl, trivial⟩ ?_
                                                  refine WX.next ?_
                                                  refine WC.cond rfl (ev_t rfl) (fun hc20 => ?_) (fun hc20 => ?_)
                                                  · try (exfalso; first | (simp at hc20; done) | (simp only [decide_eq_true_eq, decide_eq_false_iff_not, Bool.not_eq_true', Bool.not_eq_false', Bool.not_eq_true, Bool.not_eq_false] at hc20; omega) | omega)
                                                    all_goals
                                                      try simp only [decide_eq_true_eq, decide_eq_false_iff_not, Bool.not_eq_true', Bool.not_eq_false', Bool.not_eq_true, Bool.not_eq_false, Option.isNone_none, Option.isNone_some, Option.isSome_none, Option.isSome_some, ne_eq, Decidable.not_not] at hc20
                                                      have hk2 : k < 2 := by omega
                                                      have hck := comp_plC hg hk2
                                                      refine WC.skip ?_
                                                      refine WX.next ?_
                                                      refine WC.seq ?_
                                                      refine WC.block ?_
                                                      refine WC.seq ?_
                                                      refine WC.seq ?_
                                                      -- region 22 law.go:39 DRAWS
                                                      refine WC.draws' (fun u0_ u1_ => Upd No u0_ u1_) (fun j => [0, 0, 0, 0, 0, 0, 0, 0, 1, 0].getD j 0) (.calm 0 (.calm 1 (.calm 2 (.calm 3 (.calm 4 (.calm 6 (.calm 7 (.held 5 (.one 8 (.calm 9 (.done))))))))))) mixed (by kernel_rfl) (by repeat (first | with_reducible exact Deaf.body | with_reducible apply Deaf.then | with_reducible apply Deaf.block)) ?_
                                                      intro w21 hu21
                                                      have hz21 := congrArg Array.size hu21.2.2.2
                                                      replace hu21 := Upd.of_draw hu21
                                                      have hs21 := hu21.size
                                                      replace hU := hU.trans hu21 (by first | exact (fun _ _ h => h) | exact (fun _ _ h => h.elim) | (intro k hl hk; (try simp only [At, New, Grow, From, No] at hk ⊢); omega))
                                                      replace hr := hr.upd hu21 (by first | exact (fun _ _ _ h => h) | (intro k hk hl hS; have : k < w.heap.size := hk; simp only [At, New, Grow, From, No] at hS; omega))
                                                      replace hp := hp.upd hu21 (by first | (with_reducible assumption) | exact (fun h => h) | exact (fun _ _ _ h => h) | (simp only [At]; omega) | (simp only [At, New, Grow, From, No]; omega) | (intro k hk hl hS; simp only [At] at hS; subst hS; contradiction) | (intro k hk hl hS; simp only [At] at hS; subst hS; exact Grow.old (by omega) (by assumption) hk) | (intro k hk hl hS; (try simp only [At, From, No, Grow, New] at hk hS); omega))
                                                      replace hq := hq.upd hu21 (by first | (with_reducible assumption) | exact (fun h => h) | exact (fun _ _ _ h => h) | (simp only [At]; omega) | (simp only [At, New, Grow, From, No]; omega) | (intro k hk hl hS; simp only [At] at hS; subst hS; contradiction) | (intro k hk hl hS; simp only [At] at hS; subst hS; exact Grow.old (by omega) (by assumption) hk) | (intro k hk hl hS; (try simp only [At, From, No, Grow, New] at hk hS); omega))
                                                      replace hB6 := hB6.upd hu21 (by first | (with_reducible assumption) | exact (fun h => h) | exact (fun _ _ _ h => h) | (simp only [At]; omega) | (simp only [At, New, Grow, From, No]; omega) | (intro k hk hl hS; simp only [At] at hS; subst hS; contradiction) | (intro k hk hl hS; simp only [At] at hS; subst hS; exact Grow.old (by omega) (by assumption) hk) | (intro k hk hl hS; (try simp only [At, From, No, Grow, New] at hk hS); omega))
                                                      replace hB9 := hB9.upd hu21 (by first | (with_reducible assumption) | exact (fun h => h) | exact (fun _ _ _ h => h) | (simp only [At]; omega) | (simp only [At, New, Grow, From, No]; omega) | (intro k hk hl hS; simp only [At] at hS; subst hS; contradiction) | (intro k hk hl hS; simp only [At] at hS; subst hS; exact Grow.old (by omega) (by assumption) hk) | (intro k hk hl hS; (try simp only [At, From, No, Grow, New] at hk hS); omega))
                                                      replace hB10 := hB10.upd hu21 (by first | (with_reducible assumption) | exact (fun h => h) | exact (fun _ _ _ h => h) | (simp only [At]; omega) | (simp only [At, New, Grow, From, No]; omega) | (intro k hk hl hS; simp only [At] at hS; subst hS; contradiction) | (intro k hk hl hS; simp only [At] at hS; subst hS; exact Grow.old (by omega) (by assumption) hk) | (intro k hk hl hS; (try simp only [At, From, No, Grow, New] at hk hS); omega))
                                                      replace hB15 := hB15.upd hu21 (by first | (with_reducible assumption) | exact (fun h => h) | exact (fun _ _ _ h => h) | (simp only [At]; omega) | (simp only [At, New, Grow, From, No]; omega) | (intro k hk hl hS; simp only [At] at hS; subst hS; contradiction) | (intro k hk hl hS; simp only [At] at hS; subst hS; exact Grow.old (by omega) (by assumption) hk) | (intro k hk hl hS; (try simp only [At, From, No, Grow, New] at hk hS); omega))
                                                      replace hBl := hBl.upd hu21 (by first | (with_reducible assumption) | exact (fun h => h) | exact (fun _ _ _ h => h) | (simp only [At]; omega) | (simp only [At, New, Grow, From, No]; omega) | (intro k hk hl hS; simp only [At] at hS; subst hS; contradiction) | (intro k hk hl hS; simp only [At] at hS; subst hS; exact Grow.old (by omega) (by assumption) hk) | (intro k hk hl hS; (try simp only [At, From, No, Grow, New] at hk hS); omega))
                                                      replace hBh := hBh.upd hu21 (by first | (with_reducible assumption) | exact (fun h => h) | exact (fun _ _ _ h => h) | (simp only [At]; omega) | (simp only [At, New, Grow, From, No]; omega) | (intro k hk hl hS; simp only [At] at hS; subst hS; contradiction) | (intro k hk hl hS; simp only [At] at hS; subst hS; exact Grow.old (by omega) (by assumption) hk) | (intro k hk hl hS; (try simp only [At, From, No, Grow, New] at hk hS); omega))
                                                      have hS22 := Upd.refl No w21
                                                      refine WN.calm _ rfl rfl rfl rfl rfl (fun _ => r_move rfl (ev_t rfl)) ?_
                                                      refine WN.calm _ rfl rfl rfl rfl rfl (fun _ => r_move rfl (ev_t rfl)) ?_
                                                      refine WN.calm _ rfl rfl rfl rfl rfl (fun _ => r_move rfl (ev_t rfl)) ?_
                                                      refine WN.calm _ rfl rfl rfl rfl rfl (fun _ => r_indexAddr rfl (ev_t rfl) (ev_t rfl) elem_53 size_54 (by omega) (by omega)) ?_
                                                      refine WN.calm _ rfl rfl rfl rfl rfl (fun _ => r_indexArr rfl (ev_t rfl) (ev_t rfl) arr_54 size_2 (by omega) (by omega)) ?_
                                                      refine WN.calm _ rfl rfl rfl rfl rfl (fun _ => r_move rfl (ev_t rfl)) ?_
                                                      refine WN.calm _ rfl rfl rfl rfl rfl (fun _ => r_indexArr rfl (ev_t rfl) (ev_t rfl) arr_54 size_2 (by omega) (by omega)) ?_
                                                      refine WN.held _ rfl rfl rfl rfl rfl hS22 (fun w' hS => r_load rfl (ev_t rfl) flat_2 (((hq.upd hS (fun _ _ _ h => h)).rd (by omega)).cell (j := i * 2 + k) (by omega) hck)) ?_
                                                      first | refine WN.step _ rfl (SO.val rfl rfl rfl rfl (r_load rfl (ev_t rfl) flat_2 (Blk.comp hBl hk2 (by omega))) ?_) | refine WN.step _ rfl (SO.val rfl rfl rfl rfl (r_load rfl (ev_t rfl) flat_2 (Blk.comp hBl hk2 (by omega))) ?_)
                                                      refine ⟨hS22, ?_⟩
                                                      refine WN.calm _ rfl rfl rfl rfl rfl (fun _ => r_lss rfl (ev_t rfl) (ev_t rfl)) ?_
                                                      refine WN.done ?_
                                                      refine WX.keep [(0, _), (3, _), (5, _), (7, _), (8, _), (10, _), (12, _), (13, _), (15, _), (16, _), (17, _), (18, _), (19, _), (150, _)] ⟨rfl, rfl, rfl, rfl, rfl, rfl, rfl, rfl, rfl, rfl, rfl, rfl, rfl, rfl, trivial⟩ ?_
                                                      replace hV := hV.trans_same (Upd.no hu21)
                                                      refine WX.next ?_
                                                      refine WC.cond rfl (ev_t rfl) (fun hc22 => ?_) (fun hc22 => ?_)
                                                      · try (exfalso; first | (simp at hc22; done) | (simp only [decide_eq_true_eq, decide_eq_false_iff_not, Bool.not_eq_true', Bool.not_eq_false', Bool.not_eq_true, Bool.not_eq_false] at hc22; omega) | omega)
                                                        all_goals
                                                          try simp only [decide_eq_true_eq, decide_eq_false_iff_not, Bool.not_eq_true', Bool.not_eq_false', Bool.not_eq_true, Bool.not_eq_false, Option.isNone_none, Option.isNone_some, Option.isSome_none, Option.isSome_some, ne_eq, Decidable.not_not] at hc22
                                                          -- region 23 law.go:40
                                                          refine WC.region ?_
                                                          refine WL.val rfl rfl rfl rfl (r_move rfl (ev_t rfl)) ?_
                                                          refine WL.val rfl rfl rfl rfl (r_move rfl (ev_t rfl)) ?_
                                                          refine WL.val rfl rfl rfl rfl (r_move rfl (ev_t rfl)) ?_
                                                          refine WL.val rfl rfl rfl rfl (r_move rfl (ev_t rfl)) ?_
                                                          refine WL.val rfl rfl rfl rfl (r_indexAddr rfl (ev_t rfl) (ev_t rfl) elem_53 size_54 (by omega) (by omega)) ?_
                                                          refine WL.val rfl rfl rfl rfl (r_indexArr rfl (ev_t rfl) (ev_t rfl) arr_54 size_2 (by omega) (by omega)) ?_
                                                          refine WL.val rfl rfl rfl rfl (r_load rfl (ev_t rfl) flat_2 ((hq.rd (by omega)).cell (j := i * 2 + k) (by omega) hck)) ?_
                                                          refine WL.val rfl rfl rfl rfl (r_indexArr rfl (ev_t rfl) (ev_t rfl) arr_54 size_2 (by omega) (by omega)) ?_
                                                          refine WL.cons (SO.store rfl (ev_t rfl) (ev_t rfl) size_2 hBl (blt_of (show _ < 2 by omega)) rfl rfl rfl rfl ?_)
                                                          intro w22 hu22 hBl hzs
                                                          have hs22 := hu22.size
                                                          replace hU := hU.trans hu22 (by first | exact (fun _ _ h => h) | exact (fun _ _ h => h.elim) | (intro k hl hk; (try simp only [At, New, Grow, From, No] at hk ⊢); omega))
                                                          replace hr := hr.upd hu22 (by first | exact (fun _ _ _ h => h) | (intro k hk hl hS; have : k < w.heap.size := hk; simp only [At, New, Grow, From, No] at hS; omega))
                                                          replace hp := hp.upd hu22 (by first | (with_reducible assumption) | exact (fun h => h) | exact (fun _ _ _ h => h) | (simp only [At]; omega) | (simp only [At, New, Grow, From, No]; omega) | (intro k hk hl hS; simp only [At] at hS; subst hS; contradiction) | (intro k hk hl hS; simp only [At] at hS; subst hS; exact Grow.old (by omega) (by assumption) hk) | (intro k hk hl hS; (try simp only [At, From, No, Grow, New] at hk hS); omega))
                                                          replace hq := hq.upd hu22 (by first | (with_reducible assumption) | exact (fun h => h) | exact (fun _ _ _ h => h) | (simp only [At]; omega) | (simp only [At, New, Grow, From, No]; omega) | (intro k hk hl hS; simp only [At] at hS; subst hS; contradiction) | (intro k hk hl hS; simp only [At] at hS; subst hS; exact Grow.old (by omega) (by assumption) hk) | (intro k hk hl hS; (try simp only [At, From, No, Grow, New] at hk hS); omega))
                                                          replace hB6 := hB6.upd hu22 (by first | (with_reducible assumption) | exact (fun h => h) | exact (fun _ _ _ h => h) | (simp only [At]; omega) | (simp only [At, New, Grow, From, No]; omega) | (intro k hk hl hS; simp only [At] at hS; subst hS; contradiction) | (intro k hk hl hS; simp only [At] at hS; subst hS; exact Grow.old (by omega) (by assumption) hk) | (intro k hk hl hS; (try simp only [At, From, No, Grow, New] at hk hS); omega))
                                                          replace hB9 := hB9.upd hu22 (by first | (with_reducible assumption) | exact (fun h => h) | exact (fun _ _ _ h => h) | (simp only [At]; omega) | (simp only [At, New, Grow, From, No]; omega) | (intro k hk hl hS; simp only [At] at hS; subst hS; contradiction) | (intro k hk hl hS; simp only [At] at hS; subst hS; exact Grow.old (by omega) (by assumption) hk) | (intro k hk hl hS; (try simp only [At, From, No, Grow, New] at hk hS); omega))
                                                          replace hB10 := hB10.upd hu22 (by first | (with_reducible assumption) | exact (fun h => h) | exact (fun _ _ _ h => h) | (simp only [At]; omega) | (simp only [At, New, Grow, From, No]; omega) | (intro k hk hl hS; simp only [At] at hS; subst hS; contradiction) | (intro k hk hl hS; simp only [At] at hS; subst hS; exact Grow.old (by omega) (by assumption) hk) | (intro k hk hl hS; (try simp only [At, From, No, Grow, New] at hk hS); omega))
                                                          replace hB15 := hB15.upd hu22 (by first | (with_reducible assumption) | exact (fun h => h) | exact (fun _ _ _ h => h) | (simp only [At]; omega) | (simp only [At, New, Grow, From, No]; omega) | (intro k hk hl hS; simp only [At] at hS; subst hS; contradiction) | (intro k hk hl hS; simp only [At] at hS; subst hS; exact Grow.old (by omega) (by assumption) hk) | (intro k hk hl hS; (try simp only [At, From, No, Grow, New] at hk hS); omega))
                                                          replace hBh := hBh.upd hu22 (by first | (with_reducible assumption) | exact (fun h => h) | exact (fun _ _ _ h => h) | (simp only [At]; omega) | (simp only [At, New, Grow, From, No]; omega) | (intro k hk hl hS; simp only [At] at hS; subst hS; contradiction) | (intro k hk hl hS; simp only [At] at hS; subst hS; exact Grow.old (by omega) (by assumption) hk) | (intro k hk hl hS; (try simp only [At, From, No, Grow, New] at hk hS); omega))
                                                          replace hV := hV.trans_same (Upd.mono hu22 (fun k _ h => .inl h))
                                                          rw [show 0 + (k : Int).toNat * 1 = k by omega, comp_set hk2] at hBl
                                                          refine WL.nil ?_
                                                          refine WX.keep [(0, _), (3, _), (5, _), (7, _), (8, _), (10, _), (12, _), (13, _), (15, _), (16, _), (17, _), (18, _), (19, _)] ⟨rfl, rfl, rfl, rfl, rfl, rfl, rfl, rfl, rfl, rfl, rfl, rfl, rfl, trivial⟩ ?_
                                                          replace hBl : Blk w22 w16.heap.size #[.int .i64 (minK lo p (k + 1)).1, .int .i64 (minK lo p (k + 1)).2] 54 := by rw [(minK_step hk2).1 hc22]; exact hBl
                                                          refine WX.next ?_
                                                          refine WC.seq ?_
                                                          -- region 24 law.go:42 DRAWS
                                                          refine WC.draws' (fun u0_ u1_ => Upd No u0_ u1_) (fun j => [0, 0, 0, 0, 0, 0, 0, 0, 1, 0].getD j 0) (.calm 0 (.calm 1 (.calm 2 (.calm 3 (.calm 4 (.calm 6 (.calm 7 (.held 5 (.one 8 (.calm 9 (.done))))))))))) mixed (by kernel_rfl) (by repeat (first | with_reducible exact Deaf.body | with_reducible apply Deaf.then | with_reducible apply Deaf.block)) ?_
                                                          intro w23 hu23
                                                          have hz23 := congrArg Array.size hu23.2.2.2
                                                          replace hu23 := Upd.of_draw hu23
                                                          have hs23 := hu23.size
                                                          replace hU := hU.trans hu23 (by first | exact (fun _ _ h => h) | exact (fun _ _ h => h.elim) | (intro k hl hk; (try simp only [At, New, Grow, From, No] at hk ⊢); omega))
                                                          replace hr := hr.upd hu23 (by first | exact (fun _ _ _ h => h) | (intro k hk hl hS; have : k < w.heap.size := hk; simp only [At, New, Grow, From, No] at hS; omega))
                                                          replace hp := hp.upd hu23 (by first | (with_reducible assumption) | exact (fun h => h) | exact (fun _ _ _ h => h) | (simp only [At]; omega) | (simp only [At, New, Grow, From, No]; omega) | (intro k hk hl hS; simp only [At] at hS; subst hS; contradiction) | (intro k hk hl hS; simp only [At] at hS; subst hS; exact Grow.old (by omega) (by assumption) hk) | (intro k hk hl hS; (try simp only [At, From, No, Grow, New] at hk hS); omega))
                                                          replace hq := hq.upd hu23 (by first | (with_reducible assumption) | exact (fun h => h) | exact (fun _ _ _ h => h) | (simp only [At]; omega) | (simp only [At, New, Grow, From, No]; omega) | (intro k hk hl hS; simp only [At] at hS; subst hS; contradiction) | (intro k hk hl hS; simp only [At] at hS; subst hS; exact Grow.old (by omega) (by assumption) hk) | (intro k hk hl hS; (try simp only [At, From, No, Grow, New] at hk hS); omega))
                                                          replace hB6 := hB6.upd hu23 (by first | (with_reducible assumption) | exact (fun h => h) | exact (fun _ _ _ h => h) | (simp only [At]; omega) | (simp only [At, New, Grow, From, No]; omega) | (intro k hk hl hS; simp only [At] at hS; subst hS; contradiction) | (intro k hk hl hS; simp only [At] at hS; subst hS; exact Grow.old (by omega) (by assumption) hk) | (intro k hk hl hS; (try simp only [At, From, No, Grow, New] at hk hS); omega))
                                                          replace hB9 := hB9.upd hu23 (by first | (with_reducible assumption) | exact (fun h => h) | exact (fun _ _ _ h => h) | (simp only [At]; omega) | (simp only [At, New, Grow, From, No]; omega) | (intro k hk hl hS; simp only [At] at hS; subst hS; contradiction) | (intro k hk hl hS; simp only [At] at hS; subst hS; exact Grow.old (by omega) (by assumption) hk) | (intro k hk hl hS; (try simp only [At, From, No, Grow, New] at hk hS); omega))
                                                          replace hB10 := hB10.upd hu23 (by first | (with_reducible assumption) | exact (fun h => h) | exact (fun _ _ _ h => h) | (simp only [At]; omega) | (simp only [At, New, Grow, From, No]; omega) | (intro k hk hl hS; simp only [At] at hS; subst hS; contradiction) | (intro k hk hl hS; simp only [At] at hS; subst hS; exact Grow.old (by omega) (by assumption) hk) | (intro k hk hl hS; (try simp only [At, From, No, Grow, New] at hk hS); omega))
                                                          replace hB15 := hB15.upd hu23 (by first | (with_reducible assumption) | exact (fun h => h) | exact (fun _ _ _ h => h) | (simp only [At]; omega) | (simp only [At, New, Grow, From, No]; omega) | (intro k hk hl hS; simp only [At] at hS; subst hS; contradiction) | (intro k hk hl hS; simp only [At] at hS; subst hS; exact Grow.old (by omega) (by assumption) hk) | (intro k hk hl hS; (try simp only [At, From, No, Grow, New] at hk hS); omega))
                                                          replace hBl := hBl.upd hu23 (by first | (with_reducible assumption) | exact (fun h => h) | exact (fun _ _ _ h => h) | (simp only [At]; omega) | (simp only [At, New, Grow, From, No]; omega) | (intro k hk hl hS; simp only [At] at hS; subst hS; contradiction) | (intro k hk hl hS; simp only [At] at hS; subst hS; exact Grow.old (by omega) (by assumption) hk) | (intro k hk hl hS; (try simp only [At, From, No, Grow, New] at hk hS); omega))
                                                          replace hBh := hBh.upd hu23 (by first | (with_reducible assumption) | exact (fun h => h) | exact (fun _ _ _ h => h) | (simp only [At]; omega) | (simp only [At, New, Grow, From, No]; omega) | (intro k hk hl hS; simp only [At] at hS; subst hS; contradiction) | (intro k hk hl hS; simp only [At] at hS; subst hS; exact Grow.old (by omega) (by assumption) hk) | (intro k hk hl hS; (try simp only [At, From, No, Grow, New] at hk hS); omega))
                                                          have hS24 := Upd.refl No w23
                                                          refine WN.calm _ rfl rfl rfl rfl rfl (fun _ => r_move rfl (ev_t rfl)) ?_
                                                          refine WN.calm _ rfl rfl rfl rfl rfl (fun _ => r_move rfl (ev_t rfl)) ?_
                                                          refine WN.calm _ rfl rfl rfl rfl rfl (fun _ => r_move rfl (ev_t rfl)) ?_
                                                          refine WN.calm _ rfl rfl rfl rfl rfl (fun _ => r_indexAddr rfl (ev_t rfl) (ev_t rfl) elem_53 size_54 (by omega) (by omega)) ?_
                                                          refine WN.calm _ rfl rfl rfl rfl rfl (fun _ => r_indexArr rfl (ev_t rfl) (ev_t rfl) arr_54 size_2 (by omega) (by omega)) ?_
                                                          refine WN.calm _ rfl rfl rfl rfl rfl (fun _ => r_move rfl (ev_t rfl)) ?_
                                                          refine WN.calm _ rfl rfl rfl rfl rfl (fun _ => r_indexArr rfl (ev_t rfl) (ev_t rfl) arr_54 size_2 (by omega) (by omega)) ?_
                                                          refine WN.held _ rfl rfl rfl rfl rfl hS24 (fun w' hS => r_load rfl (ev_t rfl) flat_2 (((hq.upd hS (fun _ _ _ h => h)).rd (by omega)).cell (j := i * 2 + k) (by omega) hck)) ?_
                                                          first | refine WN.step _ rfl (SO.val rfl rfl rfl rfl (r_load rfl (ev_t rfl) flat_2 (Blk.comp hBh hk2 (by omega))) ?_) | refine WN.step _ rfl (SO.val rfl rfl rfl rfl (r_load rfl (ev_t rfl) flat_2 (Blk.comp hBh hk2 (by omega))) ?_)
                                                          refine ⟨hS24, ?_⟩
                                                          refine WN.calm _ rfl rfl rfl rfl rfl (fun _ => r_gtr rfl (ev_t rfl) (ev_t rfl)) ?_
                                                          refine WN.done ?_
                                                          refine WX.keep [(0, _), (3, _), (5, _), (7, _), (8, _), (10, _), (12, _), (13, _), (15, _), (16, _), (17, _), (18, _), (19, _), (168, _)] ⟨rfl, rfl, rfl, rfl, rfl, rfl, rfl, rfl, rfl, rfl, rfl, rfl, rfl, rfl, trivial⟩ ?_
                                                          replace hV := hV.trans_same (Upd.no hu23)
                                                          refine WX.next ?_
                                                          refine WC.cond rfl (ev_t rfl) (fun hc24 => ?_) (fun hc24 => ?_)
                                                          · try (exfalso; first | (simp at hc24; done) | (simp only [decide_eq_true_eq, decide_eq_false_iff_not, Bool.not_eq_true', Bool.not_eq_false', Bool.not_eq_true, Bool.not_eq_false] at hc24; omega) | omega)
                                                            all_goals
                                                              try simp only [decide_eq_true_eq, decide_eq_false_iff_not, Bool.not_eq_true', Bool.not_eq_false', Bool.not_eq_true, Bool.not_eq_false, Option.isNone_none, Option.isNone_some, Option.isSome_none, Option.isSome_some, ne_eq, Decidable.not_not] at hc24
                                                              -- region 25 law.go:43
                                                              refine WC.region ?_
                                                              refine WL.val rfl rfl rfl rfl (r_move rfl (ev_t rfl)) ?_
                                                              refine WL.val rfl rfl rfl rfl (r_move rfl (ev_t rfl)) ?_
                                                              refine WL.val rfl rfl rfl rfl (r_move rfl (ev_t rfl)) ?_
                                                              refine WL.val rfl rfl rfl rfl (r_move rfl (ev_t rfl)) ?_
                                                              refine WL.val rfl rfl rfl rfl (r_indexAddr rfl (ev_t rfl) (ev_t rfl) elem_53 size_54 (by omega) (by omega)) ?_
                                                              refine WL.val rfl rfl rfl rfl (r_indexArr rfl (ev_t rfl) (ev_t rfl) arr_54 size_2 (by omega) (by omega)) ?_
                                                              refine WL.val rfl rfl rfl rfl (r_load rfl (ev_t rfl) flat_2 ((hq.rd (by omega)).cell (j := i * 2 + k) (by omega) hck)) ?_
                                                              refine WL.val rfl rfl rfl rfl (r_indexArr rfl (ev_t rfl) (ev_t rfl) arr_54 size_2 (by omega) (by omega)) ?_
                                                              refine WL.cons (SO.store rfl (ev_t rfl) (ev_t rfl) size_2 hBh (blt_of (show _ < 2 by omega)) rfl rfl rfl rfl ?_)
                                                              intro w24 hu24 hBh hzs
                                                              have hs24 := hu24.size
                                                              replace hU := hU.trans hu24 (by first | exact (fun _ _ h => h) | exact (fun _ _ h => h.elim) | (intro k hl hk; (try simp only [At, New, Grow, From, No] at hk ⊢); omega))
                                                              replace hr := hr.upd hu24 (by first | exact (fun _ _ _ h => h) | (intro k hk hl hS; have : k < w.heap.size := hk; simp only [At, New, Grow, From, No] at hS; omega))
                                                              replace hp := hp.upd hu24 (by first | (with_reducible assumption) | exact (fun h => h) | exact (fun _ _ _ h => h) | (simp only [At]; omega) | (simp only [At, New, Grow, From, No]; omega) | (intro k hk hl hS; simp only [At] at hS; subst hS; contradiction) | (intro k hk hl hS; simp only [At] at hS; subst hS; exact Grow.old (by omega) (by assumption) hk) | (intro k hk hl hS; (try simp only [At, From, No, Grow, New] at hk hS); omega))
                                                              replace hq := hq.upd hu24 (by first | (with_reducible assumption) | exact (fun h => h) | exact (fun _ _ _ h => h) | (simp only [At]; omega) | (simp only [At, New, Grow, From, No]; omega) | (intro k hk hl hS; simp only [At] at hS; subst hS; contradiction) | (intro k hk hl hS; simp only [At] at hS; subst hS; exact Grow.old (by omega) (by assumption) hk) | (intro k hk hl hS; (try simp only [At, From, No, Grow, New] at hk hS); omega))
                                                              replace hB6 := hB6.upd hu24 (by first | (with_reducible assumption) | exact (fun h => h) | exact (fun _ _ _ h => h) | (simp only [At]; omega) | (simp only [At, New, Grow, From, No]; omega) | (intro k hk hl hS; simp only [At] at hS; subst hS; contradiction) | (intro k hk hl hS; simp only [At] at hS; subst hS; exact Grow.old (by omega) (by assumption) hk) | (intro k hk hl hS; (try simp only [At, From, No, Grow, New] at hk hS); omega))
                                                              replace hB9 := hB9.upd hu24 (by first | (with_reducible assumption) | exact (fun h => h) | exact (fun _ _ _ h => h) | (simp only [At]; omega) | (simp only [At, New, Grow, From, No]; omega) | (intro k hk hl hS; simp only [At] at hS; subst hS; contradiction) | (intro k hk hl hS; simp only [At] at hS; subst hS; exact Grow.old (by omega) (by assumption) hk) | (intro k hk hl hS; (try simp only [At, From, No, Grow, New] at hk hS); omega))
                                                              replace hB10 := hB10.upd hu24 (by first | (with_reducible assumption) | exact (fun h => h) | exact (fun _ _ _ h => h) | (simp only [At]; omega) | (simp only [At, New, Grow, From, No]; omega) | (intro k hk hl hS; simp only [At] at hS; subst hS; contradiction) | (intro k hk hl hS; simp only [At] at hS; subst hS; exact Grow.old (by omega) (by assumption) hk) | (intro k hk hl hS; (try simp only [At, From, No, Grow, New] at hk hS); omega))
                                                              replace hB15 := hB15.upd hu24 (by first | (with_reducible assumption) | exact (fun h => h) | exact (fun _ _ _ h => h) | (simp only [At]; omega) | (simp only [At, New, Grow, From, No]; omega) | (intro k hk hl hS; simp only [At] at hS; subst hS; contradiction) | (intro k hk hl hS; simp only [At] at hS; subst hS; exact Grow.old (by omega) (by assumption) hk) | (intro k hk hl hS; (try simp only [At, From, No, Grow, New] at hk hS); omega))
                                                              replace hBl := hBl.upd hu24 (by first | (with_reducible assumption) | exact (fun h => h) | exact (fun _ _ _ h => h) | (simp only [At]; omega) | (simp only [At, New, Grow, From, No]; omega) | (intro k hk hl hS; simp only [At] at hS; subst hS; contradiction) | (intro k hk hl hS; simp only [At] at hS; subst hS; exact Grow.old (by omega) (by assumption) hk) | (intro k hk hl hS; (try simp only [At, From, No, Grow, New] at hk hS); omega))
                                                              replace hV := hV.trans_same (Upd.mono hu24 (fun k _ h => .inr h))
                                                              rw [show 0 + (k : Int).toNat * 1 = k by omega, comp_set hk2] at hBh
                                                              refine WL.nil ?_
                                                              refine WX.keep [(0, _), (3, _), (5, _), (7, _), (8, _), (10, _), (12, _), (13, _), (15, _), (16, _), (17, _), (18, _), (19, _)] ⟨rfl, rfl, rfl, rfl, rfl, rfl, rfl, rfl, rfl, rfl, rfl, rfl, rfl, trivial⟩ ?_
                                                              replace hBh : Blk w24 w18.heap.size #[.int .i64 (maxK hi p (k + 1)).1, .int .i64 (maxK hi p (k + 1)).2] 54 := by rw [(maxK_step hk2).1 hc24]; exact hBh
                                                              refine WX.blockNormal ?_
                                                              refine WX.next ?_
                                                              -- region 21 law.go:38
                                                              refine WC.region ?_
                                                              refine WL.val rfl rfl rfl rfl (r_move rfl (ev_t rfl)) ?_
                                                              first | refine WL.val rfl rfl rfl rfl (r_addN rfl (ev_t rfl) ev_c (by simp only [inK]; omega)) ?_ | refine WL.val rfl rfl rfl rfl (r_add rfl (ev_t rfl) ev_c) ?_
                                                              refine WL.val rfl rfl rfl rfl (r_assign rfl (ev_t rfl)) ?_
                                                              refine WL.nil ?_
                                                              refine WX.keep [(0, _), (3, _), (5, _), (7, _), (8, _), (10, _), (12, _), (13, _), (15, _), (16, _), (17, _), (18, _), (19, _)] ⟨rfl, rfl, rfl, rfl, rfl, rfl, rfl, rfl, rfl, rfl, rfl, rfl, rfl, trivial⟩ ?_
                                                              refine WX.meet [(0, _), (3, _), (5, _), (7, _), (8, _), (10, _), (12, _), (13, _), (15, _), (16, _), (17, _), (18, _), (19, _)] ⟨rfl, rfl, rfl, rfl, rfl, rfl, rfl, rfl, rfl, rfl, rfl, rfl, rfl, trivial⟩ ?_
                                                              exact ⟨2 - (k + 1), by omega, k + 1, by omega, rfl, hU, hV, hBl, hBh, rfl⟩
                                                          · try (exfalso; first | (simp at hc24; done) | (simp only [decide_eq_true_eq, decide_eq_false_iff_not, Bool.not_eq_true', Bool.not_eq_false', Bool.not_eq_true, Bool.not_eq_false] at hc24; omega) | omega)
                                                            all_goals
                                                              try simp only [decide_eq_true_eq, decide_eq_false_iff_not, Bool.not_eq_true', Bool.not_eq_false', Bool.not_eq_true, Bool.not_eq_false, Option.isNone_none, Option.isNone_some, Option.isSome_none, Option.isSome_some, ne_eq, Decidable.not_not] at hc24
                                                              replace hBh : Blk w23 w18.heap.size #[.int .i64 (maxK hi p (k + 1)).1, .int .i64 (maxK hi p (k + 1)).2] 54 := by rw [(maxK_step hk2).2 (by omega)]; exact hBh
                                                              refine WC.skip ?_
                                                              refine WX.blockNormal ?_
                                                              refine WX.next ?_
                                                              -- region 21 law.go:38
                                                              refine WC.region ?_
                                                              refine WL.val rfl rfl rfl rfl (r_move rfl (ev_t rfl)) ?_
                                                              first | refine WL.val rfl rfl rfl rfl (r_addN rfl (ev_t rfl) ev_c (by simp only [inK]; omega)) ?_ | refine WL.val rfl rfl rfl rfl (r_add rfl (ev_t rfl) ev_c) ?_
                                                              refine WL.val rfl rfl rfl rfl (r_assign rfl (ev_t rfl)) ?_
                                                              refine WL.nil ?_
                                                              refine WX.keep [(0, _), (3, _), (5, _), (7, _), (8, _), (10, _), (12, _), (13, _), (15, _), (16, _), (17, _), (18, _), (19, _)] ⟨rfl, rfl, rfl, rfl, rfl, rfl, rfl, rfl, rfl, rfl, rfl, rfl, rfl, trivial⟩ ?_
                                                              refine WX.meet [(0, _), (3, _), (5, _), (7, _), (8, _), (10, _), (12, _), (13, _), (15, _), (16, _), (17, _), (18, _), (19, _)] ⟨rfl, rfl, rfl, rfl, rfl, rfl, rfl, rfl, rfl, rfl, rfl, rfl, rfl, trivial⟩ ?_
                                                              exact ⟨2 - (k + 1), by omega, k + 1, by omega, rfl, hU, hV, hBl, hBh, rfl⟩
                                                      · try (exfalso; first | (simp at hc22; done) | (simp only [decide_eq_true_eq, decide_eq_false_iff_not, Bool.not_eq_true', Bool.not_eq_false', Bool.not_eq_true, Bool.not_eq_false] at hc22; omega) | omega)
                                                        all_goals
                                                          try simp only [decide_eq_true_eq, decide_eq_false_iff_not, Bool.not_eq_true', Bool.not_eq_false', Bool.not_eq_true, Bool.not_eq_false, Option.isNone_none, Option.isNone_some, Option.isSome_none, Option.isSome_some, ne_eq, Decidable.not_not] at hc22
                                                          replace hBl : Blk w21 w16.heap.size #[.int .i64 (minK lo p (k + 1)).1, .int .i64 (minK lo p (k + 1)).2] 54 := by rw [(minK_step hk2).2 (by omega)]; exact hBl
                                                          refine WC.skip ?_
                                                          refine WX.next ?_
                                                          refine WC.seq ?_
                                                          -- region 24 law.go:42 DRAWS
                                                          refine WC.draws' (fun u0_ u1_ => Upd No u0_ u1_) (fun j => [0, 0, 0, 0, 0, 0, 0, 0, 1, 0].getD j 0) (.calm 0 (.calm 1 (.calm 2 (.calm 3 (.calm 4 (.calm 6 (.calm 7 (.held 5 (.one 8 (.calm 9 (.done))))))))))) mixed (by kernel_rfl) (by repeat (first | with_reducible exact Deaf.body | with_reducible apply Deaf.then | with_reducible apply Deaf.block)) ?_
                                                          intro w25 hu25
                                                          have hz25 := congrArg Array.size hu25.2.2.2
                                                          replace hu25 := Upd.of_draw hu25
                                                          have hs25 := hu25.size
                                                          replace hU := hU.trans hu25 (by first | exact (fun _ _ h => h) | exact (fun _ _ h => h.elim) | (intro k hl hk; (try simp only [At, New, Grow, From, No] at hk ⊢); omega))
                                                          replace hr := hr.upd hu25 (by first | exact (fun _ _ _ h => h) | (intro k hk hl hS; have : k < w.heap.size := hk; simp only [At, New, Grow, From, No] at hS; omega))
                                                          replace hp := hp.upd hu25 (by first | (with_reducible assumption) | exact (fun h => h) | exact (fun _ _ _ h => h) | (simp only [At]; omega) | (simp only [At, New, Grow, From, No]; omega) | (intro k hk hl hS; simp only [At] at hS; subst hS; contradiction) | (intro k hk hl hS; simp only [At] at hS; subst hS; exact Grow.old (by omega) (by assumption) hk) | (intro k hk hl hS; (try simp only [At, From, No, Grow, New] at hk hS); omega))
                                                          replace hq := hq.upd hu25 (by first | (with_reducible assumption) | exact (fun h => h) | exact (fun _ _ _ h => h) | (simp only [At]; omega) | (simp only [At, New, Grow, From, No]; omega) | (intro k hk hl hS; simp only [At] at hS; subst hS; contradiction) | (intro k hk hl hS; simp only [At] at hS; subst hS; exact Grow.old (by omega) (by assumption) hk) | (intro k hk hl hS; (try simp only [At, From, No, Grow, New] at hk hS); omega))
                                                          replace hB6 := hB6.upd hu25 (by first | (with_reducible assumption) | exact (fun h => h) | exact (fun _ _ _ h => h) | (simp only [At]; omega) | (simp only [At, New, Grow, From, No]; omega) | (intro k hk hl hS; simp only [At] at hS; subst hS; contradiction) | (intro k hk hl hS; simp only [At] at hS; subst hS; exact Grow.old (by omega) (by assumption) hk) | (intro k hk hl hS; (try simp only [At, From, No, Grow, New] at hk hS); omega))
                                                          replace hB9 := hB9.upd hu25 (by first | (with_reducible assumption) | exact (fun h => h) | exact (fun _ _ _ h => h) | (simp only [At]; omega) | (simp only [At, New, Grow, From, No]; omega) | (intro k hk hl hS; simp only [At] at hS; subst hS; contradiction) | (intro k hk hl hS; simp only [At] at hS; subst hS; exact Grow.old (by omega) (by assumption) hk) | (intro k hk hl hS; (try simp only [At, From, No, Grow, New] at hk hS); omega))
                                                          replace hB10 := hB10.upd hu25 (by first | (with_reducible assumption) | exact (fun h => h) | exact (fun _ _ _ h => h) | (simp only [At]; omega) | (simp only [At, New, Grow, From, No]; omega) | (intro k hk hl hS; simp only [At] at hS; subst hS; contradiction) | (intro k hk hl hS; simp only [At] at hS; subst hS; exact Grow.old (by omega) (by assumption) hk) | (intro k hk hl hS; (try simp only [At, From, No, Grow, New] at hk hS); omega))
                                                          replace hB15 := hB15.upd hu25 (by first | (with_reducible assumption) | exact (fun h => h) | exact (fun _ _ _ h => h) | (simp only [At]; omega) | (simp only [At, New, Grow, From, No]; omega) | (intro k hk hl hS; simp only [At] at hS; subst hS; contradiction) | (intro k hk hl hS; simp only [At] at hS; subst hS; exact Grow.old (by omega) (by assumption) hk) | (intro k hk hl hS; (try simp only [At, From, No, Grow, New] at hk hS); omega))
                                                          replace hBl := hBl.upd hu25 (by first | (with_reducible assumption) | exact (fun h => h) | exact (fun _ _ _ h => h) | (simp only [At]; omega) | (simp only [At, New, Grow, From, No]; omega) | (intro k hk hl hS; simp only [At] at hS; subst hS; contradiction) | (intro k hk hl hS; simp only [At] at hS; subst hS; exact Grow.old (by omega) (by assumption) hk) | (intro k hk hl hS; (try simp only [At, From, No, Grow, New] at hk hS); omega))
                                                          replace hBh := hBh.upd hu25 (by first | (with_reducible assumption) | exact (fun h => h) | exact (fun _ _ _ h => h) | (simp only [At]; omega) | (simp only [At, New, Grow, From, No]; omega) | (intro k hk hl hS; simp only [At] at hS; subst hS; contradiction) | (intro k hk hl hS; simp only [At] at hS; subst hS; exact Grow.old (by omega) (by assumption) hk) | (intro k hk hl hS; (try simp only [At, From, No, Grow, New] at hk hS); omega))
                                                          have hS24 := Upd.refl No w25
                                                          refine WN.calm _ rfl rfl rfl rfl rfl (fun _ => r_move rfl (ev_t rfl)) ?_
                                                          refine WN.calm _ rfl rfl rfl rfl rfl (fun _ => r_move rfl (ev_t rfl)) ?_
                                                          refine WN.calm _ rfl rfl rfl rfl rfl (fun _ => r_move rfl (ev_t rfl)) ?_
                                                          refine WN.calm _ rfl rfl rfl rfl rfl (fun _ => r_indexAddr rfl (ev_t rfl) (ev_t rfl) elem_53 size_54 (by omega) (by omega)) ?_
                                                          refine WN.calm _ rfl rfl rfl rfl rfl (fun _ => r_indexArr rfl (ev_t rfl) (ev_t rfl) arr_54 size_2 (by omega) (by omega)) ?_
                                                          refine WN.calm _ rfl rfl rfl rfl rfl (fun _ => r_move rfl (ev_t rfl)) ?_
                                                          refine WN.calm _ rfl rfl rfl rfl rfl (fun _ => r_indexArr rfl (ev_t rfl) (ev_t rfl) arr_54 size_2 (by omega) (by omega)) ?_
                                                          refine WN.held _ rfl rfl rfl rfl rfl hS24 (fun w' hS => r_load rfl (ev_t rfl) flat_2 (((hq.upd hS (fun _ _ _ h => h)).rd (by omega)).cell (j := i * 2 + k) (by omega) hck)) ?_
                                                          first | refine WN.step _ rfl (SO.val rfl rfl rfl rfl (r_load rfl (ev_t rfl) flat_2 (Blk.comp hBh hk2 (by omega))) ?_) | refine WN.step _ rfl (SO.val rfl rfl rfl rfl (r_load rfl (ev_t rfl) flat_2 (Blk.comp hBh hk2 (by omega))) ?_)
                                                          refine ⟨hS24, ?_⟩
                                                          refine WN.calm _ rfl rfl rfl rfl rfl (fun _ => r_gtr rfl (ev_t rfl) (ev_t rfl)) ?_
                                                          refine WN.done ?_
                                                          refine WX.keep [(0, _), (3, _), (5, _), (7, _), (8, _), (10, _), (12, _), (13, _), (15, _), (16, _), (17, _), (18, _), (19, _), (168, _)] ⟨rfl, rfl, rfl, rfl, rfl, rfl, rfl, rfl, rfl, rfl, rfl, rfl, rfl, rfl, trivial⟩ ?_
                                                          replace hV := hV.trans_same (Upd.no hu25)
                                                          refine WX.next ?_
                                                          refine WC.cond rfl (ev_t rfl) (fun hc24 => ?_) (fun hc24 => ?_)
                                                          · try (exfalso; first | (simp at hc24; done) | (simp only [decide_eq_true_eq, decide_eq_false_iff_not, Bool.not_eq_true', Bool.not_eq_false', Bool.not_eq_true, Bool.not_eq_false] at hc24; omega) | omega)
                                                            all_goals
                                                              try simp only [decide_eq_true_eq, decide_eq_false_iff_not, Bool.not_eq_true', Bool.not_eq_false', Bool.not_eq_true, Bool.not_eq_false, Option.isNone_none, Option.isNone_some, Option.isSome_none, Option.isSome_some, ne_eq, Decidable.not_not] at hc24
                                                              -- region 25 law.go:43
                                                              refine WC.region ?_
                                                              refine WL.val rfl rfl rfl rfl (r_move rfl (ev_t rfl)) ?_
                                                              refine WL.val rfl rfl rfl rfl (r_move rfl (ev_t rfl)) ?_
                                                              refine WL.val rfl rfl rfl rfl (r_move rfl (ev_t rfl)) ?_
                                                              refine WL.val rfl rfl rfl rfl (r_move rfl (ev_t rfl)) ?_
                                                              refine WL.val rfl rfl rfl rfl (r_indexAddr rfl (ev_t rfl) (ev_t rfl) elem_53 size_54 (by omega) (by omega)) ?_
                                                              refine WL.val rfl rfl rfl rfl (r_indexArr rfl (ev_t rfl) (ev_t rfl) arr_54 size_2 (by omega) (by omega)) ?_
                                                              refine WL.val rfl rfl rfl rfl (r_load rfl (ev_t rfl) flat_2 ((hq.rd (by omega)).cell (j := i * 2 + k) (by omega) hck)) ?_
                                                              refine WL.val rfl rfl rfl rfl (r_indexArr rfl (ev_t rfl) (ev_t rfl) arr_54 size_2 (by omega) (by omega)) ?_
                                                              refine WL.cons (SO.store rfl (ev_t rfl) (ev_t rfl) size_2 hBh (blt_of (show _ < 2 by omega)) rfl rfl rfl rfl ?_)
                                                              intro w26 hu26 hBh hzs
                                                              have hs26 := hu26.size
                                                              replace hU := hU.trans hu26 (by first | exact (fun _ _ h => h) | exact (fun _ _ h => h.elim) | (intro k hl hk; (try simp only [At, New, Grow, From, No] at hk ⊢); omega))
                                                              replace hr := hr.upd hu26 (by first | exact (fun _ _ _ h => h) | (intro k hk hl hS; have : k < w.heap.size := hk; simp only [At, New, Grow, From, No] at hS; omega))
                                                              replace hp := hp.upd hu26 (by first | (with_reducible assumption) | exact (fun h => h) | exact (fun _ _ _ h => h) | (simp only [At]; omega) | (simp only [At, New, Grow, From, No]; omega) | (intro k hk hl hS; simp only [At] at hS; subst hS; contradiction) | (intro k hk hl hS; simp only [At] at hS; subst hS; exact Grow.old (by omega) (by assumption) hk) | (intro k hk hl hS; (try simp only [At, From, No, Grow, New] at hk hS); omega))
                                                              replace hq := hq.upd hu26 (by first | (with_reducible assumption) | exact (fun h => h) | exact (fun _ _ _ h => h) | (simp only [At]; omega) | (simp only [At, New, Grow, From, No]; omega) | (intro k hk hl hS; simp only [At] at hS; subst hS; contradiction) | (intro k hk hl hS; simp only [At] at hS; subst hS; exact Grow.old (by omega) (by assumption) hk) | (intro k hk hl hS; (try simp only [At, From, No, Grow, New] at hk hS); omega))
                                                              replace hB6 := hB6.upd hu26 (by first | (with_reducible assumption) | exact (fun h => h) | exact (fun _ _ _ h => h) | (simp only [At]; omega) | (simp only [At, New, Grow, From, No]; omega) | (intro k hk hl hS; simp only [At] at hS; subst hS; contradiction) | (intro k hk hl hS; simp only [At] at hS; subst hS; exact Grow.old (by omega) (by assumption) hk) | (intro k hk hl hS; (try simp only [At, From, No, Grow, New] at hk hS); omega))
                                                              replace hB9 := hB9.upd hu26 (by first | (with_reducible assumption) | exact (fun h => h) | exact (fun _ _ _ h => h) | (simp only [At]; omega) | (simp only [At, New, Grow, From, No]; omega) | (intro k hk hl hS; simp only [At] at hS; subst hS; contradiction) | (intro k hk hl hS; simp only [At] at hS; subst hS; exact Grow.old (by omega) (by assumption) hk) | (intro k hk hl hS; (try simp only [At, From, No, Grow, New] at hk hS); omega))
                                                              replace hB10 := hB10.upd hu26 (by first | (with_reducible assumption) | exact (fun h => h) | exact (fun _ _ _ h => h) | (simp only [At]; omega) | (simp only [At, New, Grow, From, No]; omega) | (intro k hk hl hS; simp only [At] at hS; subst hS; contradiction) | (intro k hk hl hS; simp only [At] at hS; subst hS; exact Grow.old (by omega) (by assumption) hk) | (intro k hk hl hS; (try simp only [At, From, No, Grow, New] at hk hS); omega))
                                                              replace hB15 := hB15.upd hu26 (by first | (with_reducible assumption) | exact (fun h => h) | exact (fun _ _ _ h => h) | (simp only [At]; omega) | (simp only [At, New, Grow, From, No]; omega) | (intro k hk hl hS; simp only [At] at hS; subst hS; contradiction) | (intro k hk hl hS; simp only [At] at hS; subst hS; exact Grow.old (by omega) (by assumption) hk) | (intro k hk hl hS; (try simp only [At, From, No, Grow, New] at hk hS); omega))
                                                              replace hBl := hBl.upd hu26 (by first | (with_reducible assumption) | exact (fun h => h) | exact (fun _ _ _ h => h) | (simp only [At]; omega) | (simp only [At, New, Grow, From, No]; omega) | (intro k hk hl hS; simp only [At] at hS; subst hS; contradiction) | (intro k hk hl hS; simp only [At] at hS; subst hS; exact Grow.old (by omega) (by assumption) hk) | (intro k hk hl hS; (try simp only [At, From, No, Grow, New] at hk hS); omega))
                                                              replace hV := hV.trans_same (Upd.mono hu26 (fun k _ h => .inr h))
                                                              rw [show 0 + (k : Int).toNat * 1 = k by omega, comp_set hk2] at hBh
                                                              refine WL.nil ?_
                                                              refine WX.keep [(0, _), (3, _), (5, _), (7, _), (8, _), (10, _), (12, _), (13, _), (15, _), (16, _), (17, _), (18, _), (19, _)] ⟨rfl, rfl, rfl, rfl, rfl, rfl, rfl, rfl, rfl, rfl, rfl, rfl, rfl, trivial⟩ ?_
                                                              replace hBh : Blk w26 w18.heap.size #[.int .i64 (maxK hi p (k + 1)).1, .int .i64 (maxK hi p (k + 1)).2] 54 := by rw [(maxK_step hk2).1 hc24]; exact hBh
                                                              refine WX.blockNormal ?_
                                                              refine WX.next ?_
                                                              -- region 21 law.go:38
                                                              refine WC.region ?_
                                                              refine WL.val rfl rfl rfl rfl (r_move rfl (ev_t rfl)) ?_
                                                              first | refine WL.val rfl rfl rfl rfl (r_addN rfl (ev_t rfl) ev_c (by simp only [inK]; omega)) ?_ | refine WL.val rfl rfl rfl rfl (r_add rfl (ev_t rfl) ev_c) ?_
                                                              refine WL.val rfl rfl rfl rfl (r_assign rfl (ev_t rfl)) ?_
                                                              refine WL.nil ?_
                                                              refine WX.keep [(0, _), (3, _), (5, _), (7, _), (8, _), (10, _), (12, _), (13, _), (15, _), (16, _), (17, _), (18, _), (19, _)] ⟨rfl, rfl, rfl, rfl, rfl, rfl, rfl, rfl, rfl, rfl, rfl, rfl, rfl, trivial⟩ ?_
                                                              refine WX.meet [(0, _), (3, _), (5, _), (7, _), (8, _), (10, _), (12, _), (13, _), (15, _), (16, _), (17, _), (18, _), (19, _)] ⟨rfl, rfl, rfl, rfl, rfl, rfl, rfl, rfl, rfl, rfl, rfl, rfl, rfl, trivial⟩ ?_
                                                              exact ⟨2 - (k + 1), by omega, k + 1, by omega, rfl, hU, hV, hBl, hBh, rfl⟩
                                                          · try (exfalso; first | (simp at hc24; done) | (simp only [decide_eq_true_eq, decide_eq_false_iff_not, Bool.not_eq_true', Bool.not_eq_false', Bool.not_eq_true, Bool.not_eq_false] at hc24; omega) | omega)
                                                            all_goals
                                                              try simp only [decide_eq_true_eq, decide_eq_false_iff_not, Bool.not_eq_true', Bool.not_eq_false', Bool.not_eq_true, Bool.not_eq_false, Option.isNone_none, Option.isNone_some, Option.isSome_none, Option.isSome_some, ne_eq, Decidable.not_not] at hc24
                                                              replace hBh : Blk w25 w18.heap.size #[.int .i64 (maxK hi p (k + 1)).1, .int .i64 (maxK hi p (k + 1)).2] 54 := by rw [(maxK_step hk2).2 (by omega)]; exact hBh
                                                              refine WC.skip ?_
                                                              refine WX.blockNormal ?_
                                                              refine WX.next ?_
                                                              -- region 21 law.go:38
                                                              refine WC.region ?_
                                                              refine WL.val rfl rfl rfl rfl (r_move rfl (ev_t rfl)) ?_
                                                              first | refine WL.val rfl rfl rfl rfl (r_addN rfl (ev_t rfl) ev_c (by simp only [inK]; omega)) ?_ | refine WL.val rfl rfl rfl rfl (r_add rfl (ev_t rfl) ev_c) ?_
                                                              refine WL.val rfl rfl rfl rfl (r_assign rfl (ev_t rfl)) ?_
                                                              refine WL.nil ?_
                                                              refine WX.keep [(0, _), (3, _), (5, _), (7, _), (8, _), (10, _), (12, _), (13, _), (15, _), (16, _), (17, _), (18, _), (19, _)] ⟨rfl, rfl, rfl, rfl, rfl, rfl, rfl, rfl, rfl, rfl, rfl, rfl, rfl, trivial⟩ ?_
                                                              refine WX.meet [(0, _), (3, _), (5, _), (7, _), (8, _), (10, _), (12, _), (13, _), (15, _), (16, _), (17, _), (18, _), (19, _)] ⟨rfl, rfl, rfl, rfl, rfl, rfl, rfl, rfl, rfl, rfl, rfl, rfl, rfl, trivial⟩ ?_
                                                              exact ⟨2 - (k + 1), by omega, k + 1, by omega, rfl, hU, hV, hBl, hBh, rfl⟩
                                                  · try (exfalso; first | (simp at hc20; done) | (simp only [decide_eq_true_eq, decide_eq_false_iff_not, Bool.not_eq_true', Bool.not_eq_false', Bool.not_eq_true, Bool.not_eq_false] at hc20; omega) | omega)
                                                    all_goals
                                                      try simp only [decide_eq_true_eq, decide_eq_false_iff_not, Bool.not_eq_true', Bool.not_eq_false', Bool.not_eq_true, Bool.not_eq_false, Option.isNone_none, Option.isNone_some, Option.isSome_none, Option.isSome_some, ne_eq, Decidable.not_not] at hc20
                                                      obtain rfl : k = 2 := by omega
                                                      replace hBl : Blk w2' w16.heap.size #[.int .i64 (minP lo p).1, .int .i64 (minP lo p).2] 54 := hBl
                                                      replace hBh : Blk w2' w18.heap.size #[.int .i64 (maxP hi p).1, .int .i64 (maxP hi p).2] 54 := hBh
                                                      have hlo2 : minP lo p = lowP (out.take (i + 1)) := by rw [hlo]; exact hlo'.symm
                                                      have hhi2 : maxP hi p = highP (out.take (i + 1)) := by rw [hhi]; exact hhi'.symm
                                                      refine WC.exit ?_
                                                      refine WX.thenExit ?_
                                                      refine WX.thenExit ?_
                                                      refine WX.blockHere ?_
                                                      refine WX.next ?_
                                                      refine WC.seq ?_
                                                      -- region 26 law.go:46
                                                      refine WC.region ?_
                                                      refine WL.val rfl rfl rfl rfl (r_move rfl (ev_t rfl)) ?_
                                                      refine WL.val rfl rfl rfl rfl (r_gtr rfl (ev_t rfl) ev_c) ?_
                                                      refine WL.nil ?_
                                                      refine WX.keep [(0, _), (3, _), (5, _), (7, _), (8, _), (10, _), (12, _), (13, _), (15, _), (16, _), (17, _), (18, _), (178, _)] ⟨rfl, rfl, rfl, rfl, rfl, rfl, rfl, rfl, rfl, rfl, rfl, rfl, rfl, trivial⟩ ?_
                                                      refine WX.next ?_
                                                      refine WC.cond rfl (ev_t rfl) (fun hc26 => ?_) (fun hc26 => ?_)
                                                      · try (exfalso; first | (simp at hc26; done) | (simp only [decide_eq_true_eq, decide_eq_false_iff_not, Bool.not_eq_true', Bool.not_eq_false', Bool.not_eq_true, Bool.not_eq_false] at hc26; omega) | omega)
                                                        all_goals
                                                          try simp only [decide_eq_true_eq, decide_eq_false_iff_not, Bool.not_eq_true', Bool.not_eq_false', Bool.not_eq_true, Bool.not_eq_false, Option.isNone_none, Option.isNone_some, Option.isSome_none, Option.isSome_some, ne_eq, Decidable.not_not] at hc26
                                                          have hg0 := List.getElem?_eq_getElem (show i - 1 < out.length by omega)
                                                          have hcp0 := movP_get hg0
                                                          have hp0 := hpb _ (List.getElem_mem (show i - 1 < out.length by omega))
                                                          have hat := areaP_take hg0 (by rw [show i - 1 + 1 = i by omega]; exact hg)
                                                          rw [show i - 1 + 2 = i + 1 by omega, show i - 1 + 1 = i by omega] at hat
                                                          generalize out[i - 1] = p0 at *
                                                          have m1 := mul_bound hp0.1 hpb1.2
                                                          have m2 := mul_bound hpb1.1 hp0.2
                                                          have hz' : IntKind.i64.wrap (z + (p0.1 * p.2 - p.1 * p0.2)) = IntKind.i64.wrap (areaP (out.take (i + 1))) := by rw [hz, wrap_add_wrap, hat]; rfl
                                                          -- region 27 law.go:47 DRAWS
                                                          refine WC.draws' (fun u0_ u1_ => Upd No u0_ u1_) (fun j => [0, 0, 0, 0, 0, 0, 0, 0, 0, 0, 0, 0, 0, 0, 0, 0, 0, 0, 0, 0, 0, 0, 0, 1, 0, 0, 0, 0].getD j 0) (.calm 0 (.calm 1 (.calm 2 (.calm 3 (.calm 4 (.calm 5 (.calm 7 (.calm 8 (.calm 9 (.calm 10 (.calm 13 (.calm 14 (.calm 15 (.calm 16 (.calm 18 (.calm 19 (.calm 20 (.calm 21 (.calm 22 (.held 6 (.held 11 (.calm 12 (.held 17 (.one 23 (.calm 24 (.calm 25 (.calm 26 (.calm 27 (.done))))))))))))))))))))))))))))) mixed (by kernel_rfl) (by repeat (first | with_reducible exact Deaf.body | with_reducible apply Deaf.then | with_reducible apply Deaf.block)) ?_
                                                          intro w27 hu27
                                                          have hz27 := congrArg Array.size hu27.2.2.2
                                                          replace hu27 := Upd.of_draw hu27
                                                          have hs27 := hu27.size
                                                          replace hU := hU.trans hu27 (by first | exact (fun _ _ h => h) | exact (fun _ _ h => h.elim) | (intro k hl hk; (try simp only [At, New, Grow, From, No] at hk ⊢); omega))
                                                          replace hr := hr.upd hu27 (by first | exact (fun _ _ _ h => h) | (intro k hk hl hS; have : k < w.heap.size := hk; simp only [At, New, Grow, From, No] at hS; omega))
                                                          replace hp := hp.upd hu27 (by first | (with_reducible assumption) | exact (fun h => h) | exact (fun _ _ _ h => h) | (simp only [At]; omega) | (simp only [At, New, Grow, From, No]; omega) | (intro k hk hl hS; simp only [At] at hS; subst hS; contradiction) | (intro k hk hl hS; simp only [At] at hS; subst hS; exact Grow.old (by omega) (by assumption) hk) | (intro k hk hl hS; (try simp only [At, From, No, Grow, New] at hk hS); omega))
                                                          replace hq := hq.upd hu27 (by first | (with_reducible assumption) | exact (fun h => h) | exact (fun _ _ _ h => h) | (simp only [At]; omega) | (simp only [At, New, Grow, From, No]; omega) | (intro k hk hl hS; simp only [At] at hS; subst hS; contradiction) | (intro k hk hl hS; simp only [At] at hS; subst hS; exact Grow.old (by omega) (by assumption) hk) | (intro k hk hl hS; (try simp only [At, From, No, Grow, New] at hk hS); omega))
                                                          replace hB6 := hB6.upd hu27 (by first | (with_reducible assumption) | exact (fun h => h) | exact (fun _ _ _ h => h) | (simp only [At]; omega) | (simp only [At, New, Grow, From, No]; omega) | (intro k hk hl hS; simp only [At] at hS; subst hS; contradiction) | (intro k hk hl hS; simp only [At] at hS; subst hS; exact Grow.old (by omega) (by assumption) hk) | (intro k hk hl hS; (try simp only [At, From, No, Grow, New] at hk hS); omega))
                                                          replace hB9 := hB9.upd hu27 (by first | (with_reducible assumption) | exact (fun h => h) | exact (fun _ _ _ h => h) | (simp only [At]; omega) | (simp only [At, New, Grow, From, No]; omega) | (intro k hk hl hS; simp only [At] at hS; subst hS; contradiction) | (intro k hk hl hS; simp only [At] at hS; subst hS; exact Grow.old (by omega) (by assumption) hk) | (intro k hk hl hS; (try simp only [At, From, No, Grow, New] at hk hS); omega))
                                                          replace hB10 := hB10.upd hu27 (by first | (with_reducible assumption) | exact (fun h => h) | exact (fun _ _ _ h => h) | (simp only [At]; omega) | (simp only [At, New, Grow, From, No]; omega) | (intro k hk hl hS; simp only [At] at hS; subst hS; contradiction) | (intro k hk hl hS; simp only [At] at hS; subst hS; exact Grow.old (by omega) (by assumption) hk) | (intro k hk hl hS; (try simp only [At, From, No, Grow, New] at hk hS); omega))
                                                          replace hB15 := hB15.upd hu27 (by first | (with_reducible assumption) | exact (fun h => h) | exact (fun _ _ _ h => h) | (simp only [At]; omega) | (simp only [At, New, Grow, From, No]; omega) | (intro k hk hl hS; simp only [At] at hS; subst hS; contradiction) | (intro k hk hl hS; simp only [At] at hS; subst hS; exact Grow.old (by omega) (by assumption) hk) | (intro k hk hl hS; (try simp only [At, From, No, Grow, New] at hk hS); omega))
                                                          replace hBl := hBl.upd hu27 (by first | (with_reducible assumption) | exact (fun h => h) | exact (fun _ _ _ h => h) | (simp only [At]; omega) | (simp only [At, New, Grow, From, No]; omega) | (intro k hk hl hS; simp only [At] at hS; subst hS; contradiction) | (intro k hk hl hS; simp only [At] at hS; subst hS; exact Grow.old (by omega) (by assumption) hk) | (intro k hk hl hS; (try simp only [At, From, No, Grow, New] at hk hS); omega))
                                                          replace hBh := hBh.upd hu27 (by first | (with_reducible assumption) | exact (fun h => h) | exact (fun _ _ _ h => h) | (simp only [At]; omega) | (simp only [At, New, Grow, From, No]; omega) | (intro k hk hl hS; simp only [At] at hS; subst hS; contradiction) | (intro k hk hl hS; simp only [At] at hS; subst hS; exact Grow.old (by omega) (by assumption) hk) | (intro k hk hl hS; (try simp only [At, From, No, Grow, New] at hk hS); omega))
                                                          have hS27 := Upd.refl No w27
                                                          refine WN.calm _ rfl rfl rfl rfl rfl (fun _ => r_move rfl (ev_t rfl)) ?_
                                                          refine WN.calm _ rfl rfl rfl rfl rfl (fun _ => r_move rfl (ev_t rfl)) ?_
                                                          refine WN.calm _ rfl rfl rfl rfl rfl (fun _ => r_move rfl (ev_t rfl)) ?_
                                                          first | refine WN.calm _ rfl rfl rfl rfl rfl (fun _ => r_subN rfl (ev_t rfl) ev_c (by simp only [inK]; omega)) ?_ | refine WN.calm _ rfl rfl rfl rfl rfl (fun _ => r_sub rfl (ev_t rfl) ev_c) ?_
                                                          refine WN.calm _ rfl rfl rfl rfl rfl (fun _ => r_indexAddr rfl (ev_t rfl) (ev_t rfl) elem_53 size_54 (by omega) (by omega)) ?_
                                                          refine WN.calm _ rfl rfl rfl rfl rfl (fun _ => r_indexArr rfl (ev_t rfl) ev_c arr_54 size_2 (by omega) (by omega)) ?_
                                                          refine WN.calm _ rfl rfl rfl rfl rfl (fun _ => r_move rfl (ev_t rfl)) ?_
                                                          refine WN.calm _ rfl rfl rfl rfl rfl (fun _ => r_move rfl (ev_t rfl)) ?_
                                                          refine WN.calm _ rfl rfl rfl rfl rfl (fun _ => r_indexAddr rfl (ev_t rfl) (ev_t rfl) elem_53 size_54 (by omega) (by omega)) ?_
                                                          refine WN.calm _ rfl rfl rfl rfl rfl (fun _ => r_indexArr rfl (ev_t rfl) ev_c arr_54 size_2 (by omega) (by omega)) ?_
                                                          refine WN.calm _ rfl rfl rfl rfl rfl (fun _ => r_move rfl (ev_t rfl)) ?_
                                                          refine WN.calm _ rfl rfl rfl rfl rfl (fun _ => r_move rfl (ev_t rfl)) ?_
                                                          refine WN.calm _ rfl rfl rfl rfl rfl (fun _ => r_indexAddr rfl (ev_t rfl) (ev_t rfl) elem_53 size_54 (by omega) (by omega)) ?_
                                                          refine WN.calm _ rfl rfl rfl rfl rfl (fun _ => r_indexArr rfl (ev_t rfl) ev_c arr_54 size_2 (by omega) (by omega)) ?_
                                                          refine WN.calm _ rfl rfl rfl rfl rfl (fun _ => r_move rfl (ev_t rfl)) ?_
                                                          refine WN.calm _ rfl rfl rfl rfl rfl (fun _ => r_move rfl (ev_t rfl)) ?_
                                                          first | refine WN.calm _ rfl rfl rfl rfl rfl (fun _ => r_subN rfl (ev_t rfl) ev_c (by simp only [inK]; omega)) ?_ | refine WN.calm _ rfl rfl rfl rfl rfl (fun _ => r_sub rfl (ev_t rfl) ev_c) ?_
                                                          refine WN.calm _ rfl rfl rfl rfl rfl (fun _ => r_indexAddr rfl (ev_t rfl) (ev_t rfl) elem_53 size_54 (by omega) (by omega)) ?_
                                                          refine WN.calm _ rfl rfl rfl rfl rfl (fun _ => r_indexArr rfl (ev_t rfl) ev_c arr_54 size_2 (by omega) (by omega)) ?_
                                                          refine WN.held _ rfl rfl rfl rfl rfl hS27 (fun w' hS => r_load rfl (ev_t rfl) flat_2 (((hq.upd hS (fun _ _ _ h => h)).rd (by omega)).cell (j := (i - 1) * 2) (by omega) hcp0.1)) ?_
                                                          refine WN.held _ rfl rfl rfl rfl rfl hS27 (fun w' hS => r_load rfl (ev_t rfl) flat_2 (((hq.upd hS (fun _ _ _ h => h)).rd (by omega)).cell (j := i * 2 + 1) (by omega) hcm.2)) ?_
                                                          first | refine WN.calm _ rfl rfl rfl rfl rfl (fun _ => r_mulN rfl (ev_t rfl) (ev_t rfl) (by simp only [inK]; omega)) ?_ | refine WN.calm _ rfl rfl rfl rfl rfl (fun _ => r_mul rfl (ev_t rfl) (ev_t rfl)) ?_
                                                          refine WN.held _ rfl rfl rfl rfl rfl hS27 (fun w' hS => r_load rfl (ev_t rfl) flat_2 (((hq.upd hS (fun _ _ _ h => h)).rd (by omega)).cell (j := i * 2) (by omega) hcm.1)) ?_
                                                          first | refine WN.step _ rfl (SO.val rfl rfl rfl rfl (r_load rfl (ev_t rfl) flat_2 ((hq.rd (by omega)).cell (j := (i - 1) * 2 + 1) (by omega) hcp0.2)) ?_) | refine WN.step _ rfl (SO.val rfl rfl rfl rfl (r_load rfl (ev_t rfl) flat_2 ((hq.rd (by omega)).cell (j := (i - 1) * 2 + 1) (by omega) hcp0.2)) ?_)
                                                          refine ⟨hS27, ?_⟩
                                                          first | refine WN.calm _ rfl rfl rfl rfl rfl (fun _ => r_mulN rfl (ev_t rfl) (ev_t rfl) (by simp only [inK]; omega)) ?_ | refine WN.calm _ rfl rfl rfl rfl rfl (fun _ => r_mul rfl (ev_t rfl) (ev_t rfl)) ?_
                                                          first | refine WN.calm _ rfl rfl rfl rfl rfl (fun _ => r_subN rfl (ev_t rfl) (ev_t rfl) (by simp only [inK]; omega)) ?_ | refine WN.calm _ rfl rfl rfl rfl rfl (fun _ => r_sub rfl (ev_t rfl) (ev_t rfl)) ?_
                                                          refine WN.calm _ rfl rfl rfl rfl rfl (fun _ => r_add rfl (ev_t rfl) (ev_t rfl)) ?_
                                                          refine WN.calm _ rfl rfl rfl rfl rfl (fun _ => r_assign rfl (ev_t rfl)) ?_
                                                          refine WN.done ?_
                                                          refine WX.keep [(0, _), (3, _), (5, _), (7, _), (8, _), (10, _), (12, _), (13, _), (15, _), (16, _), (17, _), (18, _)] ⟨rfl, rfl, rfl, rfl, rfl, rfl, rfl, rfl, rfl, rfl, rfl, rfl, trivial⟩ ?_
                                                          refine WX.blockNormal ?_
                                                          refine WX.next ?_
                                                          -- region 16 law.go:34
                                                          refine WC.region ?_
                                                          refine WL.val rfl rfl rfl rfl (r_move rfl (ev_t rfl)) ?_
                                                          first | refine WL.val rfl rfl rfl rfl (r_addN rfl (ev_t rfl) ev_c (by simp only [inK]; omega)) ?_ | refine WL.val rfl rfl rfl rfl (r_add rfl (ev_t rfl) ev_c) ?_
                                                          refine WL.val rfl rfl rfl rfl (r_assign rfl (ev_t rfl)) ?_
                                                          refine WL.nil ?_
                                                          refine WX.keep [(0, _), (3, _), (5, _), (7, _), (8, _), (10, _), (12, _), (13, _), (15, _), (16, _), (17, _), (18, _)] ⟨rfl, rfl, rfl, rfl, rfl, rfl, rfl, rfl, rfl, rfl, rfl, rfl, trivial⟩ ?_
                                                          refine WX.meet [(0, _), (3, _), (5, _), (7, _), (8, _), (10, _), (12, _), (13, _), (15, _), (16, _), (17, _), (18, _)] ⟨rfl, rfl, rfl, rfl, rfl, rfl, rfl, rfl, rfl, rfl, rfl, rfl, trivial⟩ ?_
                                                          first
                                                            | exact ⟨out.length - (i + 1), by omega, i + 1, _, _, _, by omega, rfl, hz', hlo2, hhi2, hU, by omega, hr, hp, hq, hB6, hB9, hB10, hB15, hBl, hBh, rfl⟩
                                                            | exact ⟨out.length - (0 + 1), by omega, 0 + 1, _, _, _, by omega, rfl, hz', hlo2, hhi2, hU, by omega, hr, hp, hq, hB6, hB9, hB10, hB15, hBl, hBh, rfl⟩
                                                      · try (exfalso; first | (simp at hc26; done) | (simp only [decide_eq_true_eq, decide_eq_false_iff_not, Bool.not_eq_true', Bool.not_eq_false', Bool.not_eq_true, Bool.not_eq_false] at hc26; omega) | omega)
                                                        all_goals
                                                          try simp only [decide_eq_true_eq, decide_eq_false_iff_not, Bool.not_eq_true', Bool.not_eq_false', Bool.not_eq_true, Bool.not_eq_false, Option.isNone_none, Option.isNone_some, Option.isSome_none, Option.isSome_some, ne_eq, Decidable.not_not] at hc26
                                                          obtain rfl : i = 0 := by omega
                                                          have hz' : z = IntKind.i64.wrap (areaP (out.take (0 + 1))) := by rw [hz, areaP_one]; rfl
                                                          refine WC.skip ?_
                                                          refine WX.blockNormal ?_
                                                          refine WX.next ?_
                                                          -- region 16 law.go:34
                                                          refine WC.region ?_
                                                          refine WL.val rfl rfl rfl rfl (r_move rfl (ev_t rfl)) ?_
                                                          first | refine WL.val rfl rfl rfl rfl (r_addN rfl (ev_t rfl) ev_c (by simp only [inK]; omega)) ?_ | refine WL.val rfl rfl rfl rfl (r_add rfl (ev_t rfl) ev_c) ?_
                                                          refine WL.val rfl rfl rfl rfl (r_assign rfl (ev_t rfl)) ?_
                                                          refine WL.nil ?_
                                                          refine WX.keep [(0, _), (3, _), (5, _), (7, _), (8, _), (10, _), (12, _), (13, _), (15, _), (16, _), (17, _), (18, _)] ⟨rfl, rfl, rfl, rfl, rfl, rfl, rfl, rfl, rfl, rfl, rfl, rfl, trivial⟩ ?_
                                                          refine WX.meet [(0, _), (3, _), (5, _), (7, _), (8, _), (10, _), (12, _), (13, _), (15, _), (16, _), (17, _), (18, _)] ⟨rfl, rfl, rfl, rfl, rfl, rfl, rfl, rfl, rfl, rfl, rfl, rfl, trivial⟩ ?_
                                                          first
                                                            | exact ⟨out.length - (i + 1), by omega, i + 1, _, _, _, by omega, rfl, hz', hlo2, hhi2, hU, by omega, hr, hp, hq, hB6, hB9, hB10, hB15, hBl, hBh, rfl⟩
                                                            | exact ⟨out.length - (0 + 1), by omega, 0 + 1, _, _, _, by omega, rfl, hz', hlo2, hhi2, hU, by omega, hr, hp, hq, hB6, hB9, hB10, hB15, hBl, hBh, rfl⟩
                                    · try (exfalso; first | (simp at hc15; done) | (simp only [decide_eq_true_eq, decide_eq_false_iff_not, Bool.not_eq_true', Bool.not_eq_false', Bool.not_eq_true, Bool.not_eq_false] at hc15; omega) | omega)
                                      all_goals
                                        try simp only [decide_eq_true_eq, decide_eq_false_iff_not, Bool.not_eq_true', Bool.not_eq_false', Bool.not_eq_true, Bool.not_eq_false, Option.isNone_none, Option.isNone_some, Option.isSome_none, Option.isSome_some, ne_eq, Decidable.not_not] at hc15
                                        have ht : out.take i = out := List.take_of_length_le (by omega)
                                        rw [ht] at hz hlo hhi
                                        obtain rfl : z = ar := by rw [hz, har]
                                        subst hlo hhi
                                        obtain ⟨A0, z0, hA0⟩ := hlast her
                                        have hz0 : out[out.length - 1]? = some z0 := by rw [hA0]; simp
                                        have hl0 : 0 < out.length := by rw [hA0]; simp
                                        obtain ⟨b2, off2, rfl, _⟩ := (hq.rd (by omega)).open (by omega)
                                        have hcz := movP_get hz0
                                        have hcl1 : closedR l = decide (z0 = (0, 0)) := by rw [hcl, hz0, her]; simp
                                        refine WC.exit ?_
                                        refine WX.thenExit ?_
                                        refine WX.thenExit ?_
                                        refine WX.blockHere ?_
                                        refine WX.next ?_
                                        refine WC.seq ?_
                                        -- region 28 law.go:50
                                        refine WC.region ?_
                                        refine WL.val rfl rfl rfl rfl (r_move rfl (ev_t rfl)) ?_
                                        refine WL.val rfl rfl rfl rfl (r_move rfl (ev_t rfl)) ?_
                                        refine WL.val rfl rfl rfl rfl (r_lenSlice (ts := #[]) rfl (ev_t rfl) elem_53) ?_
                                        first | refine WL.val rfl rfl rfl rfl (r_subN rfl (ev_t rfl) ev_c (by simp only [inK]; omega)) ?_ | refine WL.val rfl rfl rfl rfl (r_sub rfl (ev_t rfl) ev_c) ?_
                                        refine WL.val rfl rfl rfl rfl (r_indexAddr rfl (ev_t rfl) (ev_t rfl) elem_53 size_54 (by omega) (by omega)) ?_
                                        refine WL.val rfl rfl rfl rfl (r_loadAgg (vs := [_, _]) rfl (ev_t rfl) agg_54 size_54 ((hq.rd (by omega)).cells2 (i := out.length - 1) hcz.1 hcz.2 (by omega))) ?_
                                        refine WL.cons (SO.alloc rfl rfl rfl rfl (r_alloc rfl zero_54) ?_)
                                        intro w28 hu28 hB28 hz28
                                        have hs28 := hu28.size
                                        replace hU := hU.trans hu28 (by first | exact (fun _ _ h => h) | exact (fun _ _ h => h.elim) | (intro k hl hk; (try simp only [At, New, Grow, From, No] at hk ⊢); omega))
                                        replace hr := hr.upd hu28 (by first | exact (fun _ _ _ h => h) | (intro k hk hl hS; have : k < w.heap.size := hk; simp only [At, New, Grow, From, No] at hS; omega))
                                        replace hp := hp.upd hu28 (by first | (with_reducible assumption) | exact (fun h => h) | exact (fun _ _ _ h => h) | (simp only [At]; omega) | (simp only [At, New, Grow, From, No]; omega) | (intro k hk hl hS; simp only [At] at hS; subst hS; contradiction) | (intro k hk hl hS; simp only [At] at hS; subst hS; exact Grow.old (by omega) (by assumption) hk) | (intro k hk hl hS; (try simp only [At, From, No, Grow, New] at hk hS); omega))
                                        replace hq := hq.upd hu28 (by first | (with_reducible assumption) | exact (fun h => h) | exact (fun _ _ _ h => h) | (simp only [At]; omega) | (simp only [At, New, Grow, From, No]; omega) | (intro k hk hl hS; simp only [At] at hS; subst hS; contradiction) | (intro k hk hl hS; simp only [At] at hS; subst hS; exact Grow.old (by omega) (by assumption) hk) | (intro k hk hl hS; (try simp only [At, From, No, Grow, New] at hk hS); omega))
                                        replace hB6 := hB6.upd hu28 (by first | (with_reducible assumption) | exact (fun h => h) | exact (fun _ _ _ h => h) | (simp only [At]; omega) | (simp only [At, New, Grow, From, No]; omega) | (intro k hk hl hS; simp only [At] at hS; subst hS; contradiction) | (intro k hk hl hS; simp only [At] at hS; subst hS; exact Grow.old (by omega) (by assumption) hk) | (intro k hk hl hS; (try simp only [At, From, No, Grow, New] at hk hS); omega))
                                        replace hB9 := hB9.upd hu28 (by first | (with_reducible assumption) | exact (fun h => h) | exact (fun _ _ _ h => h) | (simp only [At]; omega) | (simp only [At, New, Grow, From, No]; omega) | (intro k hk hl hS; simp only [At] at hS; subst hS; contradiction) | (intro k hk hl hS; simp only [At] at hS; subst hS; exact Grow.old (by omega) (by assumption) hk) | (intro k hk hl hS; (try simp only [At, From, No, Grow, New] at hk hS); omega))
                                        replace hB10 := hB10.upd hu28 (by first | (with_reducible assumption) | exact (fun h => h) | exact (fun _ _ _ h => h) | (simp only [At]; omega) | (simp only [At, New, Grow, From, No]; omega) | (intro k hk hl hS; simp only [At] at hS; subst hS; contradiction) | (intro k hk hl hS; simp only [At] at hS; subst hS; exact Grow.old (by omega) (by assumption) hk) | (intro k hk hl hS; (try simp only [At, From, No, Grow, New] at hk hS); omega))
                                        replace hB15 := hB15.upd hu28 (by first | (with_reducible assumption) | exact (fun h => h) | exact (fun _ _ _ h => h) | (simp only [At]; omega) | (simp only [At, New, Grow, From, No]; omega) | (intro k hk hl hS; simp only [At] at hS; subst hS; contradiction) | (intro k hk hl hS; simp only [At] at hS; subst hS; exact Grow.old (by omega) (by assumption) hk) | (intro k hk hl hS; (try simp only [At, From, No, Grow, New] at hk hS); omega))
                                        replace hBl := hBl.upd hu28 (by first | (with_reducible assumption) | exact (fun h => h) | exact (fun _ _ _ h => h) | (simp only [At]; omega) | (simp only [At, New, Grow, From, No]; omega) | (intro k hk hl hS; simp only [At] at hS; subst hS; contradiction) | (intro k hk hl hS; simp only [At] at hS; subst hS; exact Grow.old (by omega) (by assumption) hk) | (intro k hk hl hS; (try simp only [At, From, No, Grow, New] at hk hS); omega))
                                        replace hBh := hBh.upd hu28 (by first | (with_reducible assumption) | exact (fun h => h) | exact (fun _ _ _ h => h) | (simp only [At]; omega) | (simp only [At, New, Grow, From, No]; omega) | (intro k hk hl hS; simp only [At] at hS; subst hS; contradiction) | (intro k hk hl hS; simp only [At] at hS; subst hS; exact Grow.old (by omega) (by assumption) hk) | (intro k hk hl hS; (try simp only [At, From, No, Grow, New] at hk hS); omega))
                                        refine WL.cons (SO.store2 rfl (ev_t rfl) (ev_t rfl) size_54 hB28 rfl rfl rfl rfl rfl rfl ?_)
                                        intro w29 hu29 hB28 hz29
                                        have hs29 := hu29.size
                                        replace hU := hU.trans hu29 (by first | exact (fun _ _ h => h) | exact (fun _ _ h => h.elim) | (intro k hl hk; (try simp only [At, New, Grow, From, No] at hk ⊢); omega))
                                        replace hr := hr.upd hu29 (by first | exact (fun _ _ _ h => h) | (intro k hk hl hS; have : k < w.heap.size := hk; simp only [At, New, Grow, From, No] at hS; omega))
                                        replace hp := hp.upd hu29 (by first | (with_reducible assumption) | exact (fun h => h) | exact (fun _ _ _ h => h) | (simp only [At]; omega) | (simp only [At, New, Grow, From, No]; omega) | (intro k hk hl hS; simp only [At] at hS; subst hS; contradiction) | (intro k hk hl hS; simp only [At] at hS; subst hS; exact Grow.old (by omega) (by assumption) hk) | (intro k hk hl hS; (try simp only [At, From, No, Grow, New] at hk hS); omega))
                                        replace hq := hq.upd hu29 (by first | (with_reducible assumption) | exact (fun h => h) | exact (fun _ _ _ h => h) | (simp only [At]; omega) | (simp only [At, New, Grow, From, No]; omega) | (intro k hk hl hS; simp only [At] at hS; subst hS; contradiction) | (intro k hk hl hS; simp only [At] at hS; subst hS; exact Grow.old (by omega) (by assumption) hk) | (intro k hk hl hS; (try simp only [At, From, No, Grow, New] at hk hS); omega))
                                        replace hB6 := hB6.upd hu29 (by first | (with_reducible assumption) | exact (fun h => h) | exact (fun _ _ _ h => h) | (simp only [At]; omega) | (simp only [At, New, Grow, From, No]; omega) | (intro k hk hl hS; simp only [At] at hS; subst hS; contradiction) | (intro k hk hl hS; simp only [At] at hS; subst hS; exact Grow.old (by omega) (by assumption) hk) | (intro k hk hl hS; (try simp only [At, From, No, Grow, New] at hk hS); omega))
                                        replace hB9 := hB9.upd hu29 (by first | (with_reducible assumption) | exact (fun h => h) | exact (fun _ _ _ h => h) | (simp only [At]; omega) | (simp only [At, New, Grow, From, No]; omega) | (intro k hk hl hS; simp only [At] at hS; subst hS; contradiction) | (intro k hk hl hS; simp only [At] at hS; subst hS; exact Grow.old (by omega) (by assumption) hk) | (intro k hk hl hS; (try simp only [At, From, No, Grow, New] at hk hS); omega))
                                        replace hB10 := hB10.upd hu29 (by first | (with_reducible assumption) | exact (fun h => h) | exact (fun _ _ _ h => h) | (simp only [At]; omega) | (simp only [At, New, Grow, From, No]; omega) | (intro k hk hl hS; simp only [At] at hS; subst hS; contradiction) | (intro k hk hl hS; simp only [At] at hS; subst hS; exact Grow.old (by omega) (by assumption) hk) | (intro k hk hl hS; (try simp only [At, From, No, Grow, New] at hk hS); omega))
                                        replace hB15 := hB15.upd hu29 (by first | (with_reducible assumption) | exact (fun h => h) | exact (fun _ _ _ h => h) | (simp only [At]; omega) | (simp only [At, New, Grow, From, No]; omega) | (intro k hk hl hS; simp only [At] at hS; subst hS; contradiction) | (intro k hk hl hS; simp only [At] at hS; subst hS; exact Grow.old (by omega) (by assumption) hk) | (intro k hk hl hS; (try simp only [At, From, No, Grow, New] at hk hS); omega))
                                        replace hBl := hBl.upd hu29 (by first | (with_reducible assumption) | exact (fun h => h) | exact (fun _ _ _ h => h) | (simp only [At]; omega) | (simp only [At, New, Grow, From, No]; omega) | (intro k hk hl hS; simp only [At] at hS; subst hS; contradiction) | (intro k hk hl hS; simp only [At] at hS; subst hS; exact Grow.old (by omega) (by assumption) hk) | (intro k hk hl hS; (try simp only [At, From, No, Grow, New] at hk hS); omega))
                                        replace hBh := hBh.upd hu29 (by first | (with_reducible assumption) | exact (fun h => h) | exact (fun _ _ _ h => h) | (simp only [At]; omega) | (simp only [At, New, Grow, From, No]; omega) | (intro k hk hl hS; simp only [At] at hS; subst hS; contradiction) | (intro k hk hl hS; simp only [At] at hS; subst hS; exact Grow.old (by omega) (by assumption) hk) | (intro k hk hl hS; (try simp only [At, From, No, Grow, New] at hk hS); omega))
                                        refine WL.nil ?_
                                        refine WX.keep [(0, _), (5, _), (7, _), (8, _), (10, _), (13, _), (15, _), (16, _), (17, _), (20, _)] ⟨rfl, rfl, rfl, rfl, rfl, rfl, rfl, rfl, rfl, rfl, trivial⟩ ?_
                                        replace hB28 : Blk w29 _ #[.int .i64 z0.1, .int .i64 z0.2] 54 := hB28
                                        refine WX.next ?_
                                        refine WC.seq ?_
                                        -- region 29 law.go:51 DRAWS
                                        refine WC.draws' (fun u0_ u1_ => Upd No u0_ u1_) (fun j => [0, 0, 0, 1, 0, 0, 0, 0, 0, 1, 0, 0, 0, 0, 0, 0, 1, 0, 0, 0, 0, 0, 0, 1, 0, 0, 0, 0, 0, 0, 1, 0, 0, 0, 0, 0, 0, 1, 0, 0, 0, 0, 0, 0, 0, 0, 0, 1, 0, 0, 0, 0, 0, 2, 0, 0, 0, 0, 0].getD j 0) (.calm 0 (.calm 2 (.held 1 (.one 3 (.calm 4 (.calm 5 (.calm 6 (.calm 8 (.held 7 (.one 9 (.calm 10 (.calm 11 (.calm 12 (.calm 13 (.calm 15 (.held 14 (.one 16 (.calm 17 (.calm 18 (.calm 19 (.calm 20 (.calm 22 (.held 21 (.one 23 (.calm 24 (.calm 25 (.calm 26 (.calm 27 (.calm 29 (.held 28 (.one 30 (.calm 31 (.calm 32 (.calm 33 (.calm 34 (.calm 36 (.held 35 (.one 37 (.calm 38 (.calm 39 (.calm 40 (.calm 41 (.calm 42 (.calm 43 (.calm 44 (.calm 45 (.calm 46 (.calm 48 (.held 49 (.calm 50 (.one 47 (.calm 51 (.calm 52 (.one 53 (.calm 54 (.calm 55 (.calm 56 (.calm 57 (.calm 58 (.done)))))))))))))))))))))))))))))))))))))))))))))))))))))))))))) mixed (by kernel_rfl) (by repeat (first | with_reducible exact Deaf.body | with_reducible apply Deaf.then | with_reducible apply Deaf.block)) ?_
                                        intro w30 hu30
                                        have hz30 := congrArg Array.size hu30.2.2.2
                                        replace hu30 := Upd.of_draw hu30
                                        have hs30 := hu30.size
                                        replace hU := hU.trans hu30 (by first | exact (fun _ _ h => h) | exact (fun _ _ h => h.elim) | (intro k hl hk; (try simp only [At, New, Grow, From, No] at hk ⊢); omega))
                                        replace hr := hr.upd hu30 (by first | exact (fun _ _ _ h => h) | (intro k hk hl hS; have : k < w.heap.size := hk; simp only [At, New, Grow, From, No] at hS; omega))
                                        replace hp := hp.upd hu30 (by first | (with_reducible assumption) | exact (fun h => h) | exact (fun _ _ _ h => h) | (simp only [At]; omega) | (simp only [At, New, Grow, From, No]; omega) | (intro k hk hl hS; simp only [At] at hS; subst hS; contradiction) | (intro k hk hl hS; simp only [At] at hS; subst hS; exact Grow.old (by omega) (by assumption) hk) | (intro k hk hl hS; (try simp only [At, From, No, Grow, New] at hk hS); omega))
                                        replace hq := hq.upd hu30 (by first | (with_reducible assumption) | exact (fun h => h) | exact (fun _ _ _ h => h) | (simp only [At]; omega) | (simp only [At, New, Grow, From, No]; omega) | (intro k hk hl hS; simp only [At] at hS; subst hS; contradiction) | (intro k hk hl hS; simp only [At] at hS; subst hS; exact Grow.old (by omega) (by assumption) hk) | (intro k hk hl hS; (try simp only [At, From, No, Grow, New] at hk hS); omega))
                                        replace hB6 := hB6.upd hu30 (by first | (with_reducible assumption) | exact (fun h => h) | exact (fun _ _ _ h => h) | (simp only [At]; omega) | (simp only [At, New, Grow, From, No]; omega) | (intro k hk hl hS; simp only [At] at hS; subst hS; contradiction) | (intro k hk hl hS; simp only [At] at hS; subst hS; exact Grow.old (by omega) (by assumption) hk) | (intro k hk hl hS; (try simp only [At, From, No, Grow, New] at hk hS); omega))
                                        replace hB9 := hB9.upd hu30 (by first | (with_reducible assumption) | exact (fun h => h) | exact (fun _ _ _ h => h) | (simp only [At]; omega) | (simp only [At, New, Grow, From, No]; omega) | (intro k hk hl hS; simp only [At] at hS; subst hS; contradiction) | (intro k hk hl hS; simp only [At] at hS; subst hS; exact Grow.old (by omega) (by assumption) hk) | (intro k hk hl hS; (try simp only [At, From, No, Grow, New] at hk hS); omega))
                                        replace hB10 := hB10.upd hu30 (by first | (with_reducible assumption) | exact (fun h => h) | exact (fun _ _ _ h => h) | (simp only [At]; omega) | (simp only [At, New, Grow, From, No]; omega) | (intro k hk hl hS; simp only [At] at hS; subst hS; contradiction) | (intro k hk hl hS; simp only [At] at hS; subst hS; exact Grow.old (by omega) (by assumption) hk) | (intro k hk hl hS; (try simp only [At, From, No, Grow, New] at hk hS); omega))
                                        replace hB15 := hB15.upd hu30 (by first | (with_reducible assumption) | exact (fun h => h) | exact (fun _ _ _ h => h) | (simp only [At]; omega) | (simp only [At, New, Grow, From, No]; omega) | (intro k hk hl hS; simp only [At] at hS; subst hS; contradiction) | (intro k hk hl hS; simp only [At] at hS; subst hS; exact Grow.old (by omega) (by assumption) hk) | (intro k hk hl hS; (try simp only [At, From, No, Grow, New] at hk hS); omega))
                                        replace hBl := hBl.upd hu30 (by first | (with_reducible assumption) | exact (fun h => h) | exact (fun _ _ _ h => h) | (simp only [At]; omega) | (simp only [At, New, Grow, From, No]; omega) | (intro k hk hl hS; simp only [At] at hS; subst hS; contradiction) | (intro k hk hl hS; simp only [At] at hS; subst hS; exact Grow.old (by omega) (by assumption) hk) | (intro k hk hl hS; (try simp only [At, From, No, Grow, New] at hk hS); omega))
                                        replace hBh := hBh.upd hu30 (by first | (with_reducible assumption) | exact (fun h => h) | exact (fun _ _ _ h => h) | (simp only [At]; omega) | (simp only [At, New, Grow, From, No]; omega) | (intro k hk hl hS; simp only [At] at hS; subst hS; contradiction) | (intro k hk hl hS; simp only [At] at hS; subst hS; exact Grow.old (by omega) (by assumption) hk) | (intro k hk hl hS; (try simp only [At, From, No, Grow, New] at hk hS); omega))
                                        replace hB28 := hB28.upd hu30 (by first | (with_reducible assumption) | exact (fun h => h) | exact (fun _ _ _ h => h) | (simp only [At]; omega) | (simp only [At, New, Grow, From, No]; omega) | (intro k hk hl hS; simp only [At] at hS; subst hS; contradiction) | (intro k hk hl hS; simp only [At] at hS; subst hS; exact Grow.old (by omega) (by assumption) hk) | (intro k hk hl hS; (try simp only [At, From, No, Grow, New] at hk hS); omega))
                                        have hS29 := Upd.refl No w30
                                        first | refine WN.calm _ rfl rfl rfl rfl rfl (fun _ => r_field0 rfl (ev_t rfl) fld_32_0) ?_ | refine WN.calm _ rfl rfl rfl rfl rfl (fun _ => r_fieldAt rfl (ev_t rfl) fld_32_0) ?_
                                        refine WN.calm _ rfl rfl rfl rfl rfl (fun _ => r_indexArr rfl (ev_t rfl) ev_c arr_54 size_2 (by omega) (by omega)) ?_
                                        refine WN.held _ rfl rfl rfl rfl rfl hS29 (fun w' hS => r_load rfl (ev_t rfl) flat_2 (Blk.cell (hB6.upd hS (fun h => h)) rfl)) ?_
                                        refine WN.step _ rfl (SO.val rfl rfl rfl rfl (r_load rfl (ev_t rfl) flat_2 (Blk.cell hB15 rfl)) ?_)
                                        refine ⟨hS29, ?_⟩
                                        refine WN.calm _ rfl rfl rfl rfl rfl (fun _ => r_eql rfl (ev_t rfl) (ev_t rfl)) ?_
                                        refine WN.calm _ rfl rfl rfl rfl rfl (fun _ => r_move rfl (ev_t rfl)) ?_
                                        refine WN.cases 217 rfl (fun hb29_5 => ?_) (fun hb29_5 => ?_)
                                        · try (exfalso; first | (simp at hb29_5; done) | (simp only [decide_eq_true_eq, decide_eq_false_iff_not, Bool.not_eq_true', Bool.not_eq_false', Bool.not_eq_true, Bool.not_eq_false] at hb29_5; omega) | omega)
                                          all_goals
                                            try simp only [decide_eq_true_eq, decide_eq_false_iff_not, Bool.not_eq_true', Bool.not_eq_false', Bool.not_eq_true, Bool.not_eq_false, Option.isNone_none, Option.isNone_some, Option.isSome_none, Option.isSome_some, ne_eq, Decidable.not_not] at hb29_5
                                            first | refine WN.calm _ rfl rfl rfl rfl rfl (fun _ => r_field0 rfl (ev_t rfl) fld_32_1) ?_ | refine WN.calm _ rfl rfl rfl rfl rfl (fun _ => r_fieldAt rfl (ev_t rfl) fld_32_1) ?_
                                            refine WN.calm _ rfl rfl rfl rfl rfl (fun _ => r_indexArr rfl (ev_t rfl) ev_c arr_54 size_2 (by omega) (by omega)) ?_
                                            refine WN.held _ rfl rfl rfl rfl rfl hS29 (fun w' hS => r_load rfl (ev_t rfl) flat_2 (Blk.cell (hB6.upd hS (fun h => h)) rfl)) ?_
                                            refine WN.step _ rfl (SO.val rfl rfl rfl rfl (r_load rfl (ev_t rfl) flat_2 (Blk.cell hB15 rfl)) ?_)
                                            refine ⟨hS29, ?_⟩
                                            refine WN.calm _ rfl rfl rfl rfl rfl (fun _ => r_eql rfl (ev_t rfl) (ev_t rfl)) ?_
                                            refine WN.calm _ rfl rfl rfl rfl rfl (fun _ => r_pickT rfl (ev_t rfl) (ev_t rfl)) ?_
                                            refine WN.calm _ rfl rfl rfl rfl rfl (fun _ => r_move rfl (ev_t rfl)) ?_
                                            refine WN.cases 224 rfl (fun hb29_12 => ?_) (fun hb29_12 => ?_)
                                            · try (exfalso; first | (simp at hb29_12; done) | (simp only [decide_eq_true_eq, decide_eq_false_iff_not, Bool.not_eq_true', Bool.not_eq_false', Bool.not_eq_true, Bool.not_eq_false] at hb29_12; omega) | omega)
                                              all_goals
                                                try simp only [decide_eq_true_eq, decide_eq_false_iff_not, Bool.not_eq_true', Bool.not_eq_false', Bool.not_eq_true, Bool.not_eq_false, Option.isNone_none, Option.isNone_some, Option.isSome_none, Option.isSome_some, ne_eq, Decidable.not_not] at hb29_12
                                                first | refine WN.calm _ rfl rfl rfl rfl rfl (fun _ => r_field0 rfl (ev_t rfl) fld_32_0) ?_ | refine WN.calm _ rfl rfl rfl rfl rfl (fun _ => r_fieldAt rfl (ev_t rfl) fld_32_0) ?_
                                                refine WN.calm _ rfl rfl rfl rfl rfl (fun _ => r_indexArr rfl (ev_t rfl) ev_c arr_54 size_2 (by omega) (by omega)) ?_
                                                refine WN.held _ rfl rfl rfl rfl rfl hS29 (fun w' hS => r_load rfl (ev_t rfl) flat_2 (Blk.cell (hB9.upd hS (fun h => h)) rfl)) ?_
                                                refine WN.step _ rfl (SO.val rfl rfl rfl rfl (r_load rfl (ev_t rfl) flat_2 (Blk.cell hBl rfl)) ?_)
                                                refine ⟨hS29, ?_⟩
                                                refine WN.calm _ rfl rfl rfl rfl rfl (fun _ => r_eql rfl (ev_t rfl) (ev_t rfl)) ?_
                                                refine WN.calm _ rfl rfl rfl rfl rfl (fun _ => r_pickT rfl (ev_t rfl) (ev_t rfl)) ?_
                                                refine WN.calm _ rfl rfl rfl rfl rfl (fun _ => r_move rfl (ev_t rfl)) ?_
                                                refine WN.cases 231 rfl (fun hb29_19 => ?_) (fun hb29_19 => ?_)
                                                · try (exfalso; first | (simp at hb29_19; done) | (simp only [decide_eq_true_eq, decide_eq_false_iff_not, Bool.not_eq_true', Bool.not_eq_false', Bool.not_eq_true, Bool.not_eq_false] at hb29_19; omega) | omega)
                                                  all_goals
                                                    try simp only [decide_eq_true_eq, decide_eq_false_iff_not, Bool.not_eq_true', Bool.not_eq_false', Bool.not_eq_true, Bool.not_eq_false, Option.isNone_none, Option.isNone_some, Option.isSome_none, Option.isSome_some, ne_eq, Decidable.not_not] at hb29_19
                                                    first | refine WN.calm _ rfl rfl rfl rfl rfl (fun _ => r_field0 rfl (ev_t rfl) fld_32_1) ?_ | refine WN.calm _ rfl rfl rfl rfl rfl (fun _ => r_fieldAt rfl (ev_t rfl) fld_32_1) ?_
                                                    refine WN.calm _ rfl rfl rfl rfl rfl (fun _ => r_indexArr rfl (ev_t rfl) ev_c arr_54 size_2 (by omega) (by omega)) ?_
                                                    refine WN.held _ rfl rfl rfl rfl rfl hS29 (fun w' hS => r_load rfl (ev_t rfl) flat_2 (Blk.cell (hB9.upd hS (fun h => h)) rfl)) ?_
                                                    refine WN.step _ rfl (SO.val rfl rfl rfl rfl (r_load rfl (ev_t rfl) flat_2 (Blk.cell hBl rfl)) ?_)
                                                    refine ⟨hS29, ?_⟩
                                                    refine WN.calm _ rfl rfl rfl rfl rfl (fun _ => r_eql rfl (ev_t rfl) (ev_t rfl)) ?_
                                                    refine WN.calm _ rfl rfl rfl rfl rfl (fun _ => r_pickT rfl (ev_t rfl) (ev_t rfl)) ?_
                                                    refine WN.calm _ rfl rfl rfl rfl rfl (fun _ => r_move rfl (ev_t rfl)) ?_
                                                    refine WN.cases 238 rfl (fun hb29_26 => ?_) (fun hb29_26 => ?_)
                                                    · try (exfalso; first | (simp at hb29_26; done) | (simp only [decide_eq_true_eq, decide_eq_false_iff_not, Bool.not_eq_true', Bool.not_eq_false', Bool.not_eq_true, Bool.not_eq_false] at hb29_26; omega) | omega)
                                                      all_goals
                                                        try simp only [decide_eq_true_eq, decide_eq_false_iff_not, Bool.not_eq_true', Bool.not_eq_false', Bool.not_eq_true, Bool.not_eq_false, Option.isNone_none, Option.isNone_some, Option.isSome_none, Option.isSome_some, ne_eq, Decidable.not_not] at hb29_26
                                                        first | refine WN.calm _ rfl rfl rfl rfl rfl (fun _ => r_field0 rfl (ev_t rfl) fld_32_0) ?_ | refine WN.calm _ rfl rfl rfl rfl rfl (fun _ => r_fieldAt rfl (ev_t rfl) fld_32_0) ?_
                                                        refine WN.calm _ rfl rfl rfl rfl rfl (fun _ => r_indexArr rfl (ev_t rfl) ev_c arr_54 size_2 (by omega) (by omega)) ?_
                                                        refine WN.held _ rfl rfl rfl rfl rfl hS29 (fun w' hS => r_load rfl (ev_t rfl) flat_2 (Blk.cell (hB10.upd hS (fun h => h)) rfl)) ?_
                                                        refine WN.step _ rfl (SO.val rfl rfl rfl rfl (r_load rfl (ev_t rfl) flat_2 (Blk.cell hBh rfl)) ?_)
                                                        refine ⟨hS29, ?_⟩
                                                        refine WN.calm _ rfl rfl rfl rfl rfl (fun _ => r_eql rfl (ev_t rfl) (ev_t rfl)) ?_
                                                        refine WN.calm _ rfl rfl rfl rfl rfl (fun _ => r_pickT rfl (ev_t rfl) (ev_t rfl)) ?_
                                                        refine WN.calm _ rfl rfl rfl rfl rfl (fun _ => r_move rfl (ev_t rfl)) ?_
                                                        refine WN.cases 245 rfl (fun hb29_33 => ?_) (fun hb29_33 => ?_)
                                                        · try (exfalso; first | (simp at hb29_33; done) | (simp only [decide_eq_true_eq, decide_eq_false_iff_not, Bool.not_eq_true', Bool.not_eq_false', Bool.not_eq_true, Bool.not_eq_false] at hb29_33; omega) | omega)
                                                          all_goals
                                                            try simp only [decide_eq_true_eq, decide_eq_false_iff_not, Bool.not_eq_true', Bool.not_eq_false', Bool.not_eq_true, Bool.not_eq_false, Option.isNone_none, Option.isNone_some, Option.isSome_none, Option.isSome_some, ne_eq, Decidable.not_not] at hb29_33
                                                            first | refine WN.calm _ rfl rfl rfl rfl rfl (fun _ => r_field0 rfl (ev_t rfl) fld_32_1) ?_ | refine WN.calm _ rfl rfl rfl rfl rfl (fun _ => r_fieldAt rfl (ev_t rfl) fld_32_1) ?_
                                                            refine WN.calm _ rfl rfl rfl rfl rfl (fun _ => r_indexArr rfl (ev_t rfl) ev_c arr_54 size_2 (by omega) (by omega)) ?_
                                                            refine WN.held _ rfl rfl rfl rfl rfl hS29 (fun w' hS => r_load rfl (ev_t rfl) flat_2 (Blk.cell (hB10.upd hS (fun h => h)) rfl)) ?_
                                                            refine WN.step _ rfl (SO.val rfl rfl rfl rfl (r_load rfl (ev_t rfl) flat_2 (Blk.cell hBh rfl)) ?_)
                                                            refine ⟨hS29, ?_⟩
                                                            refine WN.calm _ rfl rfl rfl rfl rfl (fun _ => r_eql rfl (ev_t rfl) (ev_t rfl)) ?_
                                                            refine WN.calm _ rfl rfl rfl rfl rfl (fun _ => r_pickT rfl (ev_t rfl) (ev_t rfl)) ?_
                                                            refine WN.calm _ rfl rfl rfl rfl rfl (fun _ => r_move rfl (ev_t rfl)) ?_
                                                            refine WN.cases 252 rfl (fun hb29_40 => ?_) (fun hb29_40 => ?_)
                                                            · try (exfalso; first | (simp at hb29_40; done) | (simp only [decide_eq_true_eq, decide_eq_false_iff_not, Bool.not_eq_true', Bool.not_eq_false', Bool.not_eq_true, Bool.not_eq_false] at hb29_40; omega) | omega)
                                                              all_goals
                                                                try simp only [decide_eq_true_eq, decide_eq_false_iff_not, Bool.not_eq_true', Bool.not_eq_false', Bool.not_eq_true, Bool.not_eq_false, Option.isNone_none, Option.isNone_some, Option.isSome_none, Option.isSome_some, ne_eq, Decidable.not_not] at hb29_40
                                                                refine WN.calm _ rfl rfl rfl rfl rfl (fun _ => r_move rfl (ev_t rfl)) ?_
                                                                refine WN.calm _ rfl rfl rfl rfl rfl (fun _ => r_move rfl (ev_t rfl)) ?_
                                                                refine WN.calm _ rfl rfl rfl rfl rfl (fun _ => r_eql rfl (ev_t rfl) (ev_t rfl)) ?_
                                                                refine WN.calm _ rfl rfl rfl rfl rfl (fun _ => r_pickT rfl (ev_t rfl) (ev_t rfl)) ?_
                                                                refine WN.calm _ rfl rfl rfl rfl rfl (fun _ => r_move rfl (ev_t rfl)) ?_
                                                                refine WN.cases 257 rfl (fun hb29_45 => ?_) (fun hb29_45 => ?_)
                                                                · try (exfalso; first | (simp at hb29_45; done) | (simp only [decide_eq_true_eq, decide_eq_false_iff_not, Bool.not_eq_true', Bool.not_eq_false', Bool.not_eq_true, Bool.not_eq_false] at hb29_45; omega) | omega)
                                                                  all_goals
                                                                    try simp only [decide_eq_true_eq, decide_eq_false_iff_not, Bool.not_eq_true', Bool.not_eq_false', Bool.not_eq_true, Bool.not_eq_false, Option.isNone_none, Option.isNone_some, Option.isSome_none, Option.isSome_some, ne_eq, Decidable.not_not] at hb29_45
                                                                    refine WN.calm _ rfl rfl rfl rfl rfl (fun _ => r_move rfl (ev_t rfl)) ?_
                                                                    refine WN.calm _ rfl rfl rfl rfl rfl (fun _ => r_indexArr rfl (ev_t rfl) ev_c arr_54 size_2 (by omega) (by omega)) ?_
                                                                    refine WN.held _ rfl rfl rfl rfl rfl hS29 (fun w' hS => r_load rfl (ev_t rfl) flat_2 (Blk.cell (hB28.upd hS (fun h => h)) rfl)) ?_
                                                                    refine WN.calm _ rfl rfl rfl rfl rfl (fun _ => r_eql rfl (ev_t rfl) ev_c) ?_
                                                                    refine WN.step _ rfl (SO.call (Closed_ok hr hN) rfl body_24 ⟨(ev_t rfl), trivial⟩ rfl rfl rfl rfl ?_)
                                                                    rintro v w31 ⟨rfl, hu31⟩
                                                                    rw [hcl1]
                                                                    have hs31 := hu31.size
                                                                    replace hS29 := Upd.trans_same hS29 (Upd.mono hu31 (by first | exact (fun _ _ h => h) | exact (fun _ _ h => h.elim) | (intro k _ hk; (try simp only [At, New, Grow, From, No] at hk ⊢); omega)))
                                                                    replace hU := hU.trans hu31 (by first | exact (fun _ _ h => h) | exact (fun _ _ h => h.elim) | (intro k hl hk; (try simp only [At, New, Grow, From, No] at hk ⊢); omega))
                                                                    replace hr := hr.upd hu31 (by first | exact (fun _ _ _ h => h) | (intro k hk hl hS; have : k < w.heap.size := hk; simp only [At, New, Grow, From, No] at hS; omega))
                                                                    replace hp := hp.upd hu31 (by first | (with_reducible assumption) | exact (fun h => h) | exact (fun _ _ _ h => h) | (simp only [At]; omega) | (simp only [At, New, Grow, From, No]; omega) | (intro k hk hl hS; simp only [At] at hS; subst hS; contradiction) | (intro k hk hl hS; simp only [At] at hS; subst hS; exact Grow.old (by omega) (by assumption) hk) | (intro k hk hl hS; (try simp only [At, From, No, Grow, New] at hk hS); omega))
                                                                    replace hq := hq.upd hu31 (by first | (with_reducible assumption) | exact (fun h => h) | exact (fun _ _ _ h => h) | (simp only [At]; omega) | (simp only [At, New, Grow, From, No]; omega) | (intro k hk hl hS; simp only [At] at hS; subst hS; contradiction) | (intro k hk hl hS; simp only [At] at hS; subst hS; exact Grow.old (by omega) (by assumption) hk) | (intro k hk hl hS; (try simp only [At, From, No, Grow, New] at hk hS); omega))
                                                                    replace hB6 := hB6.upd hu31 (by first | (with_reducible assumption) | exact (fun h => h) | exact (fun _ _ _ h => h) | (simp only [At]; omega) | (simp only [At, New, Grow, From, No]; omega) | (intro k hk hl hS; simp only [At] at hS; subst hS; contradiction) | (intro k hk hl hS; simp only [At] at hS; subst hS; exact Grow.old (by omega) (by assumption) hk) | (intro k hk hl hS; (try simp only [At, From, No, Grow, New] at hk hS); omega))
                                                                    replace hB9 := hB9.upd hu31 (by first | (with_reducible assumption) | exact (fun h => h) | exact (fun _ _ _ h => h) | (simp only [At]; omega) | (simp only [At, New, Grow, From, No]; omega) | (intro k hk hl hS; simp only [At] at hS; subst hS; contradiction) | (intro k hk hl hS; simp only [At] at hS; subst hS; exact Grow.old (by omega) (by assumption) hk) | (intro k hk hl hS; (try simp only [At, From, No, Grow, New] at hk hS); omega))
                                                                    replace hB10 := hB10.upd hu31 (by first | (with_reducible assumption) | exact (fun h => h) | exact (fun _ _ _ h => h) | (simp only [At]; omega) | (simp only [At, New, Grow, From, No]; omega) | (intro k hk hl hS; simp only [At] at hS; subst hS; contradiction) | (intro k hk hl hS; simp only [At] at hS; subst hS; exact Grow.old (by omega) (by assumption) hk) | (intro k hk hl hS; (try simp only [At, From, No, Grow, New] at hk hS); omega))
                                                                    replace hB15 := hB15.upd hu31 (by first | (with_reducible assumption) | exact (fun h => h) | exact (fun _ _ _ h => h) | (simp only [At]; omega) | (simp only [At, New, Grow, From, No]; omega) | (intro k hk hl hS; simp only [At] at hS; subst hS; contradiction) | (intro k hk hl hS; simp only [At] at hS; subst hS; exact Grow.old (by omega) (by assumption) hk) | (intro k hk hl hS; (try simp only [At, From, No, Grow, New] at hk hS); omega))
                                                                    replace hBl := hBl.upd hu31 (by first | (with_reducible assumption) | exact (fun h => h) | exact (fun _ _ _ h => h) | (simp only [At]; omega) | (simp only [At, New, Grow, From, No]; omega) | (intro k hk hl hS; simp only [At] at hS; subst hS; contradiction) | (intro k hk hl hS; simp only [At] at hS; subst hS; exact Grow.old (by omega) (by assumption) hk) | (intro k hk hl hS; (try simp only [At, From, No, Grow, New] at hk hS); omega))
                                                                    replace hBh := hBh.upd hu31 (by first | (with_reducible assumption) | exact (fun h => h) | exact (fun _ _ _ h => h) | (simp only [At]; omega) | (simp only [At, New, Grow, From, No]; omega) | (intro k hk hl hS; simp only [At] at hS; subst hS; contradiction) | (intro k hk hl hS; simp only [At] at hS; subst hS; exact Grow.old (by omega) (by assumption) hk) | (intro k hk hl hS; (try simp only [At, From, No, Grow, New] at hk hS); omega))
                                                                    replace hB28 := hB28.upd hu31 (by first | (with_reducible assumption) | exact (fun h => h) | exact (fun _ _ _ h => h) | (simp only [At]; omega) | (simp only [At, New, Grow, From, No]; omega) | (intro k hk hl hS; simp only [At] at hS; subst hS; contradiction) | (intro k hk hl hS; simp only [At] at hS; subst hS; exact Grow.old (by omega) (by assumption) hk) | (intro k hk hl hS; (try simp only [At, From, No, Grow, New] at hk hS); omega))
                                                                    refine ⟨hS29, ?_⟩
                                                                    refine WN.calm _ rfl rfl rfl rfl rfl (fun _ => r_move rfl (ev_t rfl)) ?_
                                                                    refine WN.cases 263 rfl (fun hb29_51 => ?_) (fun hb29_51 => ?_)
                                                                    · try (exfalso; first | (simp at hb29_51; done) | (simp only [decide_eq_true_eq, decide_eq_false_iff_not, Bool.not_eq_true', Bool.not_eq_false', Bool.not_eq_true, Bool.not_eq_false] at hb29_51; omega) | omega)
                                                                      all_goals
                                                                        try simp only [decide_eq_true_eq, decide_eq_false_iff_not, Bool.not_eq_true', Bool.not_eq_false', Bool.not_eq_true, Bool.not_eq_false, Option.isNone_none, Option.isNone_some, Option.isSome_none, Option.isSome_some, ne_eq, Decidable.not_not] at hb29_51
                                                                        refine WN.calm _ rfl rfl rfl rfl rfl (fun _ => r_indexArr rfl (ev_t rfl) ev_c arr_54 size_2 (by omega) (by omega)) ?_
                                                                        first | refine WN.step _ rfl (SO.val rfl rfl rfl rfl (r_load rfl (ev_t rfl) flat_2 (Blk.cell (hB28.upd hS (fun h => h)) rfl)) ?_) | refine WN.step _ rfl (SO.val rfl rfl rfl rfl (r_load rfl (ev_t rfl) flat_2 (Blk.cell hB28 rfl)) ?_)
                                                                        refine ⟨trivial, ?_⟩
                                                                        refine WN.calm _ rfl rfl rfl rfl rfl (fun _ => r_eql rfl (ev_t rfl) ev_c) ?_
                                                                        refine WN.calm _ rfl rfl rfl rfl rfl (fun _ => r_pickT rfl (ev_t rfl) (ev_t rfl)) ?_
                                                                        refine WN.calm _ rfl rfl rfl rfl rfl (fun _ => r_eqlBool rfl (ev_t rfl) (ev_t rfl) bool_4) ?_
                                                                        refine WN.calm _ rfl rfl rfl rfl rfl (fun _ => r_pickT rfl (ev_t rfl) (ev_t rfl)) ?_
                                                                        refine WN.calm _ rfl rfl rfl rfl rfl (fun _ => r_assign rfl (ev_t rfl)) ?_
                                                                        refine WN.done ?_
                                                                        refine WX.keep [(2, _)] ⟨rfl, trivial⟩ ?_
                                                                        refine WX.next ?_
                                                                        refine WC.ret ?_
                                                                        refine WX.retE1 rfl rfl ?_
                                                                        first
                                                                          | exact ⟨rfl, hU⟩
                                                                          | (refine ⟨?_, hU⟩
                                                                             obtain ⟨z1, z2⟩ := z0
                                                                             rw [Value.bool.injEq, beq_iff_eq]
                                                                             simp at *
                                                                             simp [*])
                                                                          | (refine ⟨?_, hU⟩; simp; done)
                                                                    · try (exfalso; first | (simp at hb29_51; done) | (simp only [decide_eq_true_eq, decide_eq_false_iff_not, Bool.not_eq_true', Bool.not_eq_false', Bool.not_eq_true, Bool.not_eq_false] at hb29_51; omega) | omega)
                                                                      all_goals
                                                                        try simp only [decide_eq_true_eq, decide_eq_false_iff_not, Bool.not_eq_true', Bool.not_eq_false', Bool.not_eq_true, Bool.not_eq_false, Option.isNone_none, Option.isNone_some, Option.isSome_none, Option.isSome_some, ne_eq, Decidable.not_not] at hb29_51
                                                                        refine WN.skip _ rfl rfl rfl rfl ?_
                                                                        refine WN.step _ rfl (SO.skip rfl rfl rfl ?_)
                                                                        refine ⟨trivial, ?_⟩
                                                                        refine WN.skip _ rfl rfl rfl rfl ?_
                                                                        refine WN.calm _ rfl rfl rfl rfl rfl (fun _ => r_pickF rfl (ev_t rfl) ev_c) ?_
                                                                        refine WN.calm _ rfl rfl rfl rfl rfl (fun _ => r_eqlBool rfl (ev_t rfl) (ev_t rfl) bool_4) ?_
                                                                        refine WN.calm _ rfl rfl rfl rfl rfl (fun _ => r_pickT rfl (ev_t rfl) (ev_t rfl)) ?_
                                                                        refine WN.calm _ rfl rfl rfl rfl rfl (fun _ => r_assign rfl (ev_t rfl)) ?_
                                                                        refine WN.done ?_
                                                                        refine WX.keep [(2, _)] ⟨rfl, trivial⟩ ?_
                                                                        refine WX.next ?_
                                                                        refine WC.ret ?_
                                                                        refine WX.retE1 rfl rfl ?_
                                                                        first
                                                                          | exact ⟨rfl, hU⟩
                                                                          | (refine ⟨?_, hU⟩
                                                                             obtain ⟨z1, z2⟩ := z0
                                                                             rw [Value.bool.injEq, beq_iff_eq]
                                                                             simp at *
                                                                             simp [*])
                                                                          | (refine ⟨?_, hU⟩; simp; done)
                                                                · try (exfalso; first | (simp at hb29_45; done) | (simp only [decide_eq_true_eq, decide_eq_false_iff_not, Bool.not_eq_true', Bool.not_eq_false', Bool.not_eq_true, Bool.not_eq_false] at hb29_45; omega) | omega)
                                                                  all_goals
                                                                    try simp only [decide_eq_true_eq, decide_eq_false_iff_not, Bool.not_eq_true', Bool.not_eq_false', Bool.not_eq_true, Bool.not_eq_false, Option.isNone_none, Option.isNone_some, Option.isSome_none, Option.isSome_some, ne_eq, Decidable.not_not] at hb29_45
                                                                    refine WN.skip _ rfl rfl rfl rfl ?_
                                                                    refine WN.skip _ rfl rfl rfl rfl ?_
                                                                    refine WN.heldSkip _ rfl rfl rfl rfl hS29 ?_
                                                                    refine WN.skip _ rfl rfl rfl rfl ?_
                                                                    refine WN.step _ rfl (SO.skip rfl rfl rfl ?_)
                                                                    refine ⟨hS29, ?_⟩
                                                                    refine WN.skip _ rfl rfl rfl rfl ?_
                                                                    refine WN.skip _ rfl rfl rfl rfl ?_
                                                                    refine WN.step _ rfl (SO.skip rfl rfl rfl ?_)
                                                                    refine ⟨trivial, ?_⟩
                                                                    refine WN.skip _ rfl rfl rfl rfl ?_
                                                                    refine WN.skip _ rfl rfl rfl rfl ?_
                                                                    refine WN.skip _ rfl rfl rfl rfl ?_
                                                                    refine WN.calm _ rfl rfl rfl rfl rfl (fun _ => r_pickF rfl (ev_t rfl) ev_c) ?_
                                                                    refine WN.calm _ rfl rfl rfl rfl rfl (fun _ => r_assign rfl (ev_t rfl)) ?_
                                                                    refine WN.done ?_
                                                                    refine WX.keep [(2, _)] ⟨rfl, trivial⟩ ?_
                                                                    refine WX.next ?_
                                                                    refine WC.ret ?_
                                                                    refine WX.retE1 rfl rfl ?_
                                                                    first
                                                                      | exact ⟨rfl, hU⟩
                                                                      | (refine ⟨?_, hU⟩
                                                                         obtain ⟨z1, z2⟩ := z0
                                                                         rw [Value.bool.injEq, beq_iff_eq]
                                                                         simp at *
                                                                         simp [*])
                                                                      | (refine ⟨?_, hU⟩; simp; done)
                                                            · try (exfalso; first | (simp at hb29_40; done) | (simp only [decide_eq_true_eq, decide_eq_false_iff_not, Bool.not_eq_true', Bool.not_eq_false', Bool.not_eq_true, Bool.not_eq_false] at hb29_40; omega) | omega)
                                                              all_goals
                                                                try simp only [decide_eq_true_eq, decide_eq_false_iff_not, Bool.not_eq_true', Bool.not_eq_false', Bool.not_eq_true, Bool.not_eq_false, Option.isNone_none, Option.isNone_some, Option.isSome_none, Option.isSome_some, ne_eq, Decidable.not_not] at hb29_40
                                                                refine WN.skip _ rfl rfl rfl rfl ?_
                                                                refine WN.skip _ rfl rfl rfl rfl ?_
                                                                refine WN.skip _ rfl rfl rfl rfl ?_
                                                                refine WN.calm _ rfl rfl rfl rfl rfl (fun _ => r_pickF rfl (ev_t rfl) ev_c) ?_
                                                                refine WN.calm _ rfl rfl rfl rfl rfl (fun _ => r_move rfl (ev_t rfl)) ?_
                                                                refine WN.skip _ rfl rfl rfl rfl ?_
                                                                refine WN.skip _ rfl rfl rfl rfl ?_
                                                                refine WN.heldSkip _ rfl rfl rfl rfl hS29 ?_
                                                                refine WN.skip _ rfl rfl rfl rfl ?_
                                                                refine WN.step _ rfl (SO.skip rfl rfl rfl ?_)
                                                                refine ⟨hS29, ?_⟩
                                                                refine WN.skip _ rfl rfl rfl rfl ?_
                                                                refine WN.skip _ rfl rfl rfl rfl ?_
                                                                refine WN.step _ rfl (SO.skip rfl rfl rfl ?_)
                                                                refine ⟨trivial, ?_⟩
                                                                refine WN.skip _ rfl rfl rfl rfl ?_
                                                                refine WN.skip _ rfl rfl rfl rfl ?_
                                                                refine WN.skip _ rfl rfl rfl rfl ?_
                                                                refine WN.calm _ rfl rfl rfl rfl rfl (fun _ => r_pickF rfl (ev_t rfl) ev_c) ?_
                                                                refine WN.calm _ rfl rfl rfl rfl rfl (fun _ => r_assign rfl (ev_t rfl)) ?_
                                                                refine WN.done ?_
                                                                refine WX.keep [(2, _)] ⟨rfl, trivial⟩ ?_
                                                                refine WX.next ?_
                                                                refine WC.ret ?_
                                                                refine WX.retE1 rfl rfl ?_
                                                                first
                                                                  | exact ⟨rfl, hU⟩
                                                                  | (refine ⟨?_, hU⟩
                                                                     obtain ⟨z1, z2⟩ := z0
                                                                     rw [Value.bool.injEq, beq_iff_eq]
                                                                     simp at *
                                                                     simp [*])
                                                                  | (refine ⟨?_, hU⟩; simp; done)
                                                        · try (exfalso; first | (simp at hb29_33; done) | (simp only [decide_eq_true_eq, decide_eq_false_iff_not, Bool.not_eq_true', Bool.not_eq_false', Bool.not_eq_true, Bool.not_eq_false] at hb29_33; omega) | omega)
                                                          all_goals
                                                            try simp only [decide_eq_true_eq, decide_eq_false_iff_not, Bool.not_eq_true', Bool.not_eq_false', Bool.not_eq_true, Bool.not_eq_false, Option.isNone_none, Option.isNone_some, Option.isSome_none, Option.isSome_some, ne_eq, Decidable.not_not] at hb29_33
                                                            refine WN.skip _ rfl rfl rfl rfl ?_
                                                            refine WN.skip _ rfl rfl rfl rfl ?_
                                                            refine WN.heldSkip _ rfl rfl rfl rfl hS29 ?_
                                                            refine WN.step _ rfl (SO.skip rfl rfl rfl ?_)
                                                            refine ⟨hS29, ?_⟩
                                                            refine WN.skip _ rfl rfl rfl rfl ?_
                                                            refine WN.calm _ rfl rfl rfl rfl rfl (fun _ => r_pickF rfl (ev_t rfl) ev_c) ?_
                                                            refine WN.calm _ rfl rfl rfl rfl rfl (fun _ => r_move rfl (ev_t rfl)) ?_
                                                            refine WN.skip _ rfl rfl rfl rfl ?_
                                                            refine WN.skip _ rfl rfl rfl rfl ?_
                                                            refine WN.skip _ rfl rfl rfl rfl ?_
                                                            refine WN.calm _ rfl rfl rfl rfl rfl (fun _ => r_pickF rfl (ev_t rfl) ev_c) ?_
                                                            refine WN.calm _ rfl rfl rfl rfl rfl (fun _ => r_move rfl (ev_t rfl)) ?_
                                                            refine WN.skip _ rfl rfl rfl rfl ?_
                                                            refine WN.skip _ rfl rfl rfl rfl ?_
                                                            refine WN.heldSkip _ rfl rfl rfl rfl hS29 ?_
                                                            refine WN.skip _ rfl rfl rfl rfl ?_
                                                            refine WN.step _ rfl (SO.skip rfl rfl rfl ?_)
                                                            refine ⟨hS29, ?_⟩
                                                            refine WN.skip _ rfl rfl rfl rfl ?_
                                                            refine WN.skip _ rfl rfl rfl rfl ?_
                                                            refine WN.step _ rfl (SO.skip rfl rfl rfl ?_)
                                                            refine ⟨trivial, ?_⟩
                                                            refine WN.skip _ rfl rfl rfl rfl ?_
                                                            refine WN.skip _ rfl rfl rfl rfl ?_
                                                            refine WN.skip _ rfl rfl rfl rfl ?_
                                                            refine WN.calm _ rfl rfl rfl rfl rfl (fun _ => r_pickF rfl (ev_t rfl) ev_c) ?_
                                                            refine WN.calm _ rfl rfl rfl rfl rfl (fun _ => r_assign rfl (ev_t rfl)) ?_
                                                            refine WN.done ?_
                                                            refine WX.keep [(2, _)] ⟨rfl, trivial⟩ ?_
                                                            refine WX.next ?_
                                                            refine WC.ret ?_
                                                            refine WX.retE1 rfl rfl ?_
                                                            first
                                                              | exact ⟨rfl, hU⟩
                                                              | (refine ⟨?_, hU⟩
                                                                 obtain ⟨z1, z2⟩ := z0
                                                                 rw [Value.bool.injEq, beq_iff_eq]
                                                                 simp at *
                                                                 simp [*])
                                                              | (refine ⟨?_, hU⟩; simp; done)
                                                    · try (exfalso; first | (simp at hb29_26; done) | (simp only [decide_eq_true_eq, decide_eq_false_iff_not, Bool.not_eq_true', Bool.not_eq_false', Bool.not_eq_true, Bool.not_eq_false] at hb29_26; omega) | omega)
                                                      all_goals
                                                        try simp only [decide_eq_true_eq, decide_eq_false_iff_not, Bool.not_eq_true', Bool.not_eq_false', Bool.not_eq_true, Bool.not_eq_false, Option.isNone_none, Option.isNone_some, Option.isSome_none, Option.isSome_some, ne_eq, Decidable.not_not] at hb29_26
                                                        refine WN.skip _ rfl rfl rfl rfl ?_
                                                        refine WN.skip _ rfl rfl rfl rfl ?_
                                                        refine WN.heldSkip _ rfl rfl rfl rfl hS29 ?_
                                                        refine WN.step _ rfl (SO.skip rfl rfl rfl ?_)
                                                        refine ⟨hS29, ?_⟩
                                                        refine WN.skip _ rfl rfl rfl rfl ?_
                                                        refine WN.calm _ rfl rfl rfl rfl rfl (fun _ => r_pickF rfl (ev_t rfl) ev_c) ?_
                                                        refine WN.calm _ rfl rfl rfl rfl rfl (fun _ => r_move rfl (ev_t rfl)) ?_
                                                        refine WN.skip _ rfl rfl rfl rfl ?_
                                                        refine WN.skip _ rfl rfl rfl rfl ?_
                                                        refine WN.heldSkip _ rfl rfl rfl rfl hS29 ?_
                                                        refine WN.step _ rfl (SO.skip rfl rfl rfl ?_)
                                                        refine ⟨hS29, ?_⟩
                                                        refine WN.skip _ rfl rfl rfl rfl ?_
                                                        refine WN.calm _ rfl rfl rfl rfl rfl (fun _ => r_pickF rfl (ev_t rfl) ev_c) ?_
                                                        refine WN.calm _ rfl rfl rfl rfl rfl (fun _ => r_move rfl (ev_t rfl)) ?_
                                                        refine WN.skip _ rfl rfl rfl rfl ?_
                                                        refine WN.skip _ rfl rfl rfl rfl ?_
                                                        refine WN.skip _ rfl rfl rfl rfl ?_
                                                        refine WN.calm _ rfl rfl rfl rfl rfl (fun _ => r_pickF rfl (ev_t rfl) ev_c) ?_
                                                        refine WN.calm _ rfl rfl rfl rfl rfl (fun _ => r_move rfl (ev_t rfl)) ?_
                                                        refine WN.skip _ rfl rfl rfl rfl ?_
                                                        refine WN.skip _ rfl rfl rfl rfl ?_
                                                        refine WN.heldSkip _ rfl rfl rfl rfl hS29 ?_
                                                        refine WN.skip _ rfl rfl rfl rfl ?_
                                                        refine WN.step _ rfl (SO.skip rfl rfl rfl ?_)
                                                        refine ⟨hS29, ?_⟩
                                                        refine WN.skip _ rfl rfl rfl rfl ?_
                                                        refine WN.skip _ rfl rfl rfl rfl ?_
                                                        refine WN.step _ rfl (SO.skip rfl rfl rfl ?_)
                                                        refine ⟨trivial, ?_⟩
                                                        refine WN.skip _ rfl rfl rfl rfl ?_
                                                        refine WN.skip _ rfl rfl rfl rfl ?_
                                                        refine WN.skip _ rfl rfl rfl rfl ?_
                                                        refine WN.calm _ rfl rfl rfl rfl rfl (fun _ => r_pickF rfl (ev_t rfl) ev_c) ?_
                                                        refine WN.calm _ rfl rfl rfl rfl rfl (fun _ => r_assign rfl (ev_t rfl)) ?_
                                                        refine WN.done ?_
                                                        refine WX.keep [(2, _)] ⟨rfl, trivial⟩ ?_
                                                        refine WX.next ?_
                                                        refine WC.ret ?_
                                                        refine WX.retE1 rfl rfl ?_
                                                        first
                                                          | exact ⟨rfl, hU⟩
                                                          | (refine ⟨?_, hU⟩
                                                             obtain ⟨z1, z2⟩ := z0
                                                             rw [Value.bool.injEq, beq_iff_eq]
                                                             simp at *
                                                             simp [*])
                                                          | (refine ⟨?_, hU⟩; simp; done)
                                                · try (exfalso; first | (simp at hb29_19; done) | (simp only [decide_eq_true_eq, decide_eq_false_iff_not, Bool.not_eq_true', Bool.not_eq_false', Bool.not_eq_true, Bool.not_eq_false] at hb29_19; omega) | omega)
                                                  all_goals
                                                    try simp only [decide_eq_true_eq, decide_eq_false_iff_not, Bool.not_eq_true', Bool.not_eq_false', Bool.not_eq_true, Bool.not_eq_false, Option.isNone_none, Option.isNone_some, Option.isSome_none, Option.isSome_some, ne_eq, Decidable.not_not] at hb29_19
                                                    refine WN.skip _ rfl rfl rfl rfl ?_
                                                    refine WN.skip _ rfl rfl rfl rfl ?_
                                                    refine WN.heldSkip _ rfl rfl rfl rfl hS29 ?_
                                                    refine WN.step _ rfl (SO.skip rfl rfl rfl ?_)
                                                    refine ⟨hS29, ?_⟩
                                                    refine WN.skip _ rfl rfl rfl rfl ?_
                                                    refine WN.calm _ rfl rfl rfl rfl rfl (fun _ => r_pickF rfl (ev_t rfl) ev_c) ?_
                                                    refine WN.calm _ rfl rfl rfl rfl rfl (fun _ => r_move rfl (ev_t rfl)) ?_
                                                    refine WN.skip _ rfl rfl rfl rfl ?_
                                                    refine WN.skip _ rfl rfl rfl rfl ?_
                                                    refine WN.heldSkip _ rfl rfl rfl rfl hS29 ?_
                                                    refine WN.step _ rfl (SO.skip rfl rfl rfl ?_)
                                                    refine ⟨hS29, ?_⟩
                                                    refine WN.skip _ rfl rfl rfl rfl ?_
                                                    refine WN.calm _ rfl rfl rfl rfl rfl (fun _ => r_pickF rfl (ev_t rfl) ev_c) ?_
                                                    refine WN.calm _ rfl rfl rfl rfl rfl (fun _ => r_move rfl (ev_t rfl)) ?_
                                                    refine WN.skip _ rfl rfl rfl rfl ?_
                                                    refine WN.skip _ rfl rfl rfl rfl ?_
                                                    refine WN.heldSkip _ rfl rfl rfl rfl hS29 ?_
                                                    refine WN.step _ rfl (SO.skip rfl rfl rfl ?_)
                                                    refine ⟨hS29, ?_⟩
                                                    refine WN.skip _ rfl rfl rfl rfl ?_
                                                    refine WN.calm _ rfl rfl rfl rfl rfl (fun _ => r_pickF rfl (ev_t rfl) ev_c) ?_
                                                    refine WN.calm _ rfl rfl rfl rfl rfl (fun _ => r_move rfl (ev_t rfl)) ?_
                                                    refine WN.skip _ rfl rfl rfl rfl ?_
                                                    refine WN.skip _ rfl rfl rfl rfl ?_
                                                    refine WN.skip _ rfl rfl rfl rfl ?_
                                                    refine WN.calm _ rfl rfl rfl rfl rfl (fun _ => r_pickF rfl (ev_t rfl) ev_c) ?_
                                                    refine WN.calm _ rfl rfl rfl rfl rfl (fun _ => r_move rfl (ev_t rfl)) ?_
                                                    refine WN.skip _ rfl rfl rfl rfl ?_
                                                    refine WN.skip _ rfl rfl rfl rfl ?_
                                                    refine WN.heldSkip _ rfl rfl rfl rfl hS29 ?_
                                                    refine WN.skip _ rfl rfl rfl rfl ?_
                                                    refine WN.step _ rfl (SO.skip rfl rfl rfl ?_)
                                                    refine ⟨hS29, ?_⟩
                                                    refine WN.skip _ rfl rfl rfl rfl ?_
                                                    refine WN.skip _ rfl rfl rfl rfl ?_
                                                    refine WN.step _ rfl (SO.skip rfl rfl rfl ?_)
                                                    refine ⟨trivial, ?_⟩
                                                    refine WN.skip _ rfl rfl rfl rfl ?_
                                                    refine WN.skip _ rfl rfl rfl rfl ?_
                                                    refine WN.skip _ rfl rfl rfl rfl ?_
                                                    refine WN.calm _ rfl rfl rfl rfl rfl (fun _ => r_pickF rfl (ev_t rfl) ev_c) ?_
                                                    refine WN.calm _ rfl rfl rfl rfl rfl (fun _ => r_assign rfl (ev_t rfl)) ?_
                                                    refine WN.done ?_
                                                    refine WX.keep [(2, _)] ⟨rfl, trivial⟩ ?_
                                                    refine WX.next ?_
                                                    refine WC.ret ?_
                                                    refine WX.retE1 rfl rfl ?_
                                                    first
                                                      | exact ⟨rfl, hU⟩
                                                      | (refine ⟨?_, hU⟩
                                                         obtain ⟨z1, z2⟩ := z0
                                                         rw [Value.bool.injEq, beq_iff_eq]
                                                         simp at *
                                                         simp [*])
                                                      | (refine ⟨?_, hU⟩; simp; done)
                                            · try (exfalso; first | (simp at hb29_12; done) | (simp only [decide_eq_true_eq, decide_eq_false_iff_not, Bool.not_eq_true', Bool.not_eq_false', Bool.not_eq_true, Bool.not_eq_false] at hb29_12; omega) | omega)
                                              all_goals
                                                try simp only [decide_eq_true_eq, decide_eq_false_iff_not, Bool.not_eq_true', Bool.not_eq_false', Bool.not_eq_true, Bool.not_eq_false, Option.isNone_none, Option.isNone_some, Option.isSome_none, Option.isSome_some, ne_eq, Decidable.not_not] at hb29_12
                                                refine WN.skip _ rfl rfl rfl rfl ?_
                                                refine WN.skip _ rfl rfl rfl rfl ?_
                                                refine WN.heldSkip _ rfl rfl rfl rfl hS29 ?_
                                                refine WN.step _ rfl (SO.skip rfl rfl rfl ?_)
                                                refine ⟨hS29, ?_⟩
                                                refine WN.skip _ rfl rfl rfl rfl ?_
                                                refine WN.calm _ rfl rfl rfl rfl rfl (fun _ => r_pickF rfl (ev_t rfl) ev_c) ?_
                                                refine WN.calm _ rfl rfl rfl rfl rfl (fun _ => r_move rfl (ev_t rfl)) ?_
                                                refine WN.skip _ rfl rfl rfl rfl ?_
                                                refine WN.skip _ rfl rfl rfl rfl ?_
                                                refine WN.heldSkip _ rfl rfl rfl rfl hS29 ?_
                                                refine WN.step _ rfl (SO.skip rfl rfl rfl ?_)
                                                refine ⟨hS29, ?_⟩
                                                refine WN.skip _ rfl rfl rfl rfl ?_
                                                refine WN.calm _ rfl rfl rfl rfl rfl (fun _ => r_pickF rfl (ev_t rfl) ev_c) ?_
                                                refine WN.calm _ rfl rfl rfl rfl rfl (fun _ => r_move rfl (ev_t rfl)) ?_
                                                refine WN.skip _ rfl rfl rfl rfl ?_
                                                refine WN.skip _ rfl rfl rfl rfl ?_
                                                refine WN.heldSkip _ rfl rfl rfl rfl hS29 ?_
                                                refine WN.step _ rfl (SO.skip rfl rfl rfl ?_)
                                                refine ⟨hS29, ?_⟩
                                                refine WN.skip _ rfl rfl rfl rfl ?_
                                                refine WN.calm _ rfl rfl rfl rfl rfl (fun _ => r_pickF rfl (ev_t rfl) ev_c) ?_
                                                refine WN.calm _ rfl rfl rfl rfl rfl (fun _ => r_move rfl (ev_t rfl)) ?_
                                                refine WN.skip _ rfl rfl rfl rfl ?_
                                                refine WN.skip _ rfl rfl rfl rfl ?_
                                                refine WN.heldSkip _ rfl rfl rfl rfl hS29 ?_
                                                refine WN.step _ rfl (SO.skip rfl rfl rfl ?_)
                                                refine ⟨hS29, ?_⟩
                                                refine WN.skip _ rfl rfl rfl rfl ?_
                                                refine WN.calm _ rfl rfl rfl rfl rfl (fun _ => r_pickF rfl (ev_t rfl) ev_c) ?_
                                                refine WN.calm _ rfl rfl rfl rfl rfl (fun _ => r_move rfl (ev_t rfl)) ?_
                                                refine WN.skip _ rfl rfl rfl rfl ?_
                                                refine WN.skip _ rfl rfl rfl rfl ?_
                                                refine WN.skip _ rfl rfl rfl rfl ?_
                                                refine WN.calm _ rfl rfl rfl rfl rfl (fun _ => r_pickF rfl (ev_t rfl) ev_c) ?_
                                                refine WN.calm _ rfl rfl rfl rfl rfl (fun _ => r_move rfl (ev_t rfl)) ?_
                                                refine WN.skip _ rfl rfl rfl rfl ?_
                                                refine WN.skip _ rfl rfl rfl rfl ?_
                                                refine WN.heldSkip _ rfl rfl rfl rfl hS29 ?_
                                                refine WN.skip _ rfl rfl rfl rfl ?_
                                                refine WN.step _ rfl (SO.skip rfl rfl rfl ?_)
                                                refine ⟨hS29, ?_⟩
                                                refine WN.skip _ rfl rfl rfl rfl ?_
                                                refine WN.skip _ rfl rfl rfl rfl ?_
                                                refine WN.step _ rfl (SO.skip rfl rfl rfl ?_)
                                                refine ⟨trivial, ?_⟩
                                                refine WN.skip _ rfl rfl rfl rfl ?_
                                                refine WN.skip _ rfl rfl rfl rfl ?_
                                                refine WN.skip _ rfl rfl rfl rfl ?_
                                                refine WN.calm _ rfl rfl rfl rfl rfl (fun _ => r_pickF rfl (ev_t rfl) ev_c) ?_
                                                refine WN.calm _ rfl rfl rfl rfl rfl (fun _ => r_assign rfl (ev_t rfl)) ?_
                                                refine WN.done ?_
                                                refine WX.keep [(2, _)] ⟨rfl, trivial⟩ ?_
                                                refine WX.next ?_
                                                refine WC.ret ?_
                                                refine WX.retE1 rfl rfl ?_
                                                first
                                                  | exact ⟨rfl, hU⟩
                                                  | (refine ⟨?_, hU⟩
                                                     obtain ⟨z1, z2⟩ := z0
                                                     rw [Value.bool.injEq, beq_iff_eq]
                                                     simp at *
                                                     simp [*])
                                                  | (refine ⟨?_, hU⟩; simp; done)
                                        · try (exfalso; first | (simp at hb29_5; done) | (simp only [decide_eq_true_eq, decide_eq_false_iff_not, Bool.not_eq_true', Bool.not_eq_false', Bool.not_eq_true, Bool.not_eq_false] at hb29_5; omega) | omega)
                                          all_goals
                                            try simp only [decide_eq_true_eq, decide_eq_false_iff_not, Bool.not_eq_true', Bool.not_eq_false', Bool.not_eq_true, Bool.not_eq_false, Option.isNone_none, Option.isNone_some, Option.isSome_none, Option.isSome_some, ne_eq, Decidable.not_not] at hb29_5
                                            refine WN.skip _ rfl rfl rfl rfl ?_
                                            refine WN.skip _ rfl rfl rfl rfl ?_
                                            refine WN.heldSkip _ rfl rfl rfl rfl hS29 ?_
                                            refine WN.step _ rfl (SO.skip rfl rfl rfl ?_)
                                            refine ⟨hS29, ?_⟩
                                            refine WN.skip _ rfl rfl rfl rfl ?_
                                            refine WN.calm _ rfl rfl rfl rfl rfl (fun _ => r_pickF rfl (ev_t rfl) ev_c) ?_
                                            refine WN.calm _ rfl rfl rfl rfl rfl (fun _ => r_move rfl (ev_t rfl)) ?_
                                            refine WN.skip _ rfl rfl rfl rfl ?_
                                            refine WN.skip _ rfl rfl rfl rfl ?_
                                            refine WN.heldSkip _ rfl rfl rfl rfl hS29 ?_
                                            refine WN.step _ rfl (SO.skip rfl rfl rfl ?_)
                                            refine ⟨hS29, ?_⟩
                                            refine WN.skip _ rfl rfl rfl rfl ?_
                                            refine WN.calm _ rfl rfl rfl rfl rfl (fun _ => r_pickF rfl (ev_t rfl) ev_c) ?_
                                            refine WN.calm _ rfl rfl rfl rfl rfl (fun _ => r_move rfl (ev_t rfl)) ?_
                                            refine WN.skip _ rfl rfl rfl rfl ?_
                                            refine WN.skip _ rfl rfl rfl rfl ?_
                                            refine WN.heldSkip _ rfl rfl rfl rfl hS29 ?_
                                            refine WN.step _ rfl (SO.skip rfl rfl rfl ?_)
                                            refine ⟨hS29, ?_⟩
                                            refine WN.skip _ rfl rfl rfl rfl ?_
                                            refine WN.calm _ rfl rfl rfl rfl rfl (fun _ => r_pickF rfl (ev_t rfl) ev_c) ?_
                                            refine WN.calm _ rfl rfl rfl rfl rfl (fun _ => r_move rfl (ev_t rfl)) ?_
                                            refine WN.skip _ rfl rfl rfl rfl ?_
                                            refine WN.skip _ rfl rfl rfl rfl ?_
                                            refine WN.heldSkip _ rfl rfl rfl rfl hS29 ?_
                                            refine WN.step _ rfl (SO.skip rfl rfl rfl ?_)
                                            refine ⟨hS29, ?_⟩
                                            refine WN.skip _ rfl rfl rfl rfl ?_
                                            refine WN.calm _ rfl rfl rfl rfl rfl (fun _ => r_pickF rfl (ev_t rfl) ev_c) ?_
                                            refine WN.calm _ rfl rfl rfl rfl rfl (fun _ => r_move rfl (ev_t rfl)) ?_
                                            refine WN.skip _ rfl rfl rfl rfl ?_
                                            refine WN.skip _ rfl rfl rfl rfl ?_
                                            refine WN.heldSkip _ rfl rfl rfl rfl hS29 ?_
                                            refine WN.step _ rfl (SO.skip rfl rfl rfl ?_)
                                            refine ⟨hS29, ?_⟩
                                            refine WN.skip _ rfl rfl rfl rfl ?_
                                            refine WN.calm _ rfl rfl rfl rfl rfl (fun _ => r_pickF rfl (ev_t rfl) ev_c) ?_
                                            refine WN.calm _ rfl rfl rfl rfl rfl (fun _ => r_move rfl (ev_t rfl)) ?_
                                            refine WN.skip _ rfl rfl rfl rfl ?_
                                            refine WN.skip _ rfl rfl rfl rfl ?_
                                            refine WN.skip _ rfl rfl rfl rfl ?_
                                            refine WN.calm _ rfl rfl rfl rfl rfl (fun _ => r_pickF rfl (ev_t rfl) ev_c) ?_
                                            refine WN.calm _ rfl rfl rfl rfl rfl (fun _ => r_move rfl (ev_t rfl)) ?_
                                            refine WN.skip _ rfl rfl rfl rfl ?_
                                            refine WN.skip _ rfl rfl rfl rfl ?_
                                            refine WN.heldSkip _ rfl rfl rfl rfl hS29 ?_
                                            refine WN.skip _ rfl rfl rfl rfl ?_
                                            refine WN.step _ rfl (SO.skip rfl rfl rfl ?_)
                                            refine ⟨hS29, ?_⟩
                                            refine WN.skip _ rfl rfl rfl rfl ?_
                                            refine WN.skip _ rfl rfl rfl rfl ?_
                                            refine WN.step _ rfl (SO.skip rfl rfl rfl ?_)
                                            refine ⟨trivial, ?_⟩
                                            refine WN.skip _ rfl rfl rfl rfl ?_
                                            refine WN.skip _ rfl rfl rfl rfl ?_
                                            refine WN.skip _ rfl rfl rfl rfl ?_
                                            refine WN.calm _ rfl rfl rfl rfl rfl (fun _ => r_pickF rfl (ev_t rfl) ev_c) ?_
                                            refine WN.calm _ rfl rfl rfl rfl rfl (fun _ => r_assign rfl (ev_t rfl)) ?_
                                            refine WN.done ?_
                                            refine WX.keep [(2, _)] ⟨rfl, trivial⟩ ?_
                                            refine WX.next ?_
                                            refine WC.ret ?_
                                            refine WX.retE1 rfl rfl ?_
                                            first
                                              | exact ⟨rfl, hU⟩
                                              | (refine ⟨?_, hU⟩
                                                 obtain ⟨z1, z2⟩ := z0
                                                 rw [Value.bool.injEq, beq_iff_eq]
                                                 simp at *
                                                 simp [*])
                                              | (refine ⟨?_, hU⟩; simp; done)
end Go.Proofs.Ytjiafgnibhgfbaa
