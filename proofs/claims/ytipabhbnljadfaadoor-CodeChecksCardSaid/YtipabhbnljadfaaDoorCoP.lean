/-
  Functions that may run: the forced labels. No program in sight.
-/
import Derived.Test.YtipabhbnljadfaaDoorFr
import Derived.Test.YtipabhbnljadfaaDoorFf
namespace Go.Proofs.YtipabhbnljadfaaDoor
open Go
set_option linter.unusedSimpArgs false
set_option linter.unusedVariables false

/-- an instruction; a function -/
structure In where
  op : Nat
  n : Int
  a : Int
  s : List UInt8
deriving DecidableEq
structure Fn where
  caps : Int
  code : List In
deriving DecidableEq
structure In.ok (i : In) : Prop where
  op : i.op < 256
  n : inK .i64 i.n
  a : inK .i64 i.a
  s : i.s.length ≤ 140737488351232
def insC (i : In) : List Value := [.int .u8 (i.op : Int), .int .i64 i.n, .int .i64 i.a, .string ⟨i.s.toArray⟩]
theorem insC_len (i : In) : (insC i).length = 4 := rfl
def takesT : List Int := [0, 0, 0, 0, 0, 0, -1, 2, 1, -1, 1, 1, 0, 1, 1, 1, 1, 1, -1, 1, 2, 1, 1, 1, 0, 0, 0]
def leavesT : List Int := [1, 1, 1, 1, 1, 1, 1, 1, 0, 1, 1, 1, 0, 0, 1, 1, 1, 1, 1, 0, 1, 1, 1, 1, 0, 0, 1]
def tkT (op : Nat) : Int := takesT.getD op 0
def lvT (op : Nat) : Int := leavesT.getD op 0
/-- what an instruction takes; whether the next one follows; tries -/
def nnI (i : In) : Int := if i.op = 6 then i.a else if i.op = 9 then i.n else if i.op = 18 then i.n + 1 else tkT i.op
def nextB (i : In) : Bool := decide (i.op ≠ 8) && (decide (i.op ≠ 12) && decide (i.op ≠ 26))
def dtI (i : In) : Int := if i.op = 24 then 1 else if i.op = 25 then -1 else 0
def fineB (f : Fn) (i : In) (d t : Int) (all : List Fn) (globs : Int) : Bool :=
  if 27 ≤ i.op then false
  else if i.op = 2 then decide (0 ≤ i.n) && decide (i.n < d)
  else if i.op = 3 then decide (0 ≤ i.n) && decide (i.n < f.caps)
  else if i.op = 5 then decide (0 ≤ i.n) && decide (i.n < globs)
  else if i.op = 6 then decide (0 ≤ i.n) && decide (i.n < (all.length : Int)) && decide ((all[i.n.toNat]?).map (·.caps) = some i.a) && decide (i.a < d)
  else if i.op = 9 then decide (2 ≤ i.n) && decide (i.n < d) && decide (i.n ≤ 1000)
  else if i.op = 18 then decide (1 ≤ i.n) && decide (i.n < d - 1)
  else if i.op = 20 then decide (0 ≤ i.n) && decide (i.n ≤ 10) && decide (2 < d)
  else if i.op = 25 then decide (0 < t)
  else if i.op = 8 then decide (d = 2) && decide (t = 0)
  else if i.op = 11 ∨ i.op = 10 ∨ i.op = 17 then decide (0 ≤ i.n) && decide (i.n ≤ 100000) && decide (1 < d)
  else decide (tkT i.op < d)
/-- where one comes to -/
def succsI (i : In) (at_ : Nat) (d t : Int) : List (Int × Int × Int) :=
  (if nextB i = true then [((at_ : Int) + 1, d - nnI i + lvT i.op, t + dtI i)] else []) ++
    (if i.op = 12 ∨ i.op = 13 then [(i.n, d - nnI i + lvT i.op, t + dtI i)] else if i.op = 24 then [(i.n, d + 1, t)] else [])

section
variable (f : Fn) (all : List Fn) (globs : Int)
/-- labels that hold -/
def GoodL (L : Nat → Option (Int × Int)) : Prop := L 0 = some (1, 0) ∧ ∀ k d t, L k = some (d, t) → ∃ i, f.code[k]? = some i ∧ fineB f i d t all globs = true ∧
  ∀ x ∈ succsI i k d t, (k : Int) < x.1 ∧ x.1 < (f.code.length : Int) ∧ L x.1.toNat = some (x.2.1, x.2.2)
def GoodF : Prop := ∃ L, GoodL f all globs L
def PosAll : Prop := ∀ g ∈ all, 0 ≤ g.caps

variable {f all globs}
theorem op_cases {i : In} {d t : Int} (h : fineB f i d t all globs = true) : i.op < 27 := by
  refine Nat.lt_of_not_le fun h27 => ?_
  unfold fineB at h
  rw [if_pos h27] at h
  cases h
theorem tk_le {op : Nat} (h : op < 27) : tkT op ≤ 2 ∧ -1 ≤ tkT op ∧ 0 ≤ lvT op ∧ lvT op ≤ 1 := by
  have key : ∀ q : Fin 27, tkT q.1 ≤ 2 ∧ -1 ≤ tkT q.1 ∧ 0 ≤ lvT q.1 ∧ lvT q.1 ≤ 1 := by decide
  exact key ⟨op, h⟩
theorem tk_pos {op : Nat} (h : op < 27) (h6 : op ≠ 6) (h9 : op ≠ 9) (h18 : op ≠ 18) : 0 ≤ tkT op := by
  have key : ∀ q : Fin 27, q.1 ≠ 6 → q.1 ≠ 9 → q.1 ≠ 18 → 0 ≤ tkT q.1 := by decide
  exact key ⟨op, h⟩ h6 h9 h18
theorem tk_lv {op : Nat} (h : op < 27) (h6 : op ≠ 6) (h9 : op ≠ 9) (h18 : op ≠ 18) (h8 : op ≠ 8) (h25 : op ≠ 25) : lvT op = 0 → tkT op ≤ 1 := by
  have key : ∀ q : Fin 27, lvT q.1 = 0 → tkT q.1 ≤ 1 := by decide
  exact key ⟨op, h⟩
/-- what is taken is there -/
theorem fine_takes {i : In} {d t : Int} (h : fineB f i d t all globs = true) (hp : PosAll all) (hd : 1 ≤ d) : 0 ≤ nnI i ∧ nnI i < d := by
  have hop := op_cases h
  unfold fineB at h
  rw [if_neg (by omega)] at h
  unfold nnI
  by_cases h2 : i.op = 2
  · rw [h2]; simp; have : tkT 2 = 0 := rfl; omega
  by_cases h3 : i.op = 3
  · rw [h3]; simp; have : tkT 3 = 0 := rfl; omega
  by_cases h5 : i.op = 5
  · rw [h5]; simp; have : tkT 5 = 0 := rfl; omega
  by_cases h6 : i.op = 6
  · simp only [h6, if_true, if_false] at h ⊢
    simp only [Nat.reduceEqDiff, if_false, Bool.and_eq_true, decide_eq_true_eq] at h
    obtain ⟨⟨_, h7⟩, h8⟩ := h
    refine ⟨?_, h8⟩
    cases hg : all[i.n.toNat]? with
    | none => rw [hg] at h7; cases h7
    | some g =>
      rw [hg] at h7
      simp only [Option.map_some, Option.some.injEq] at h7
      rw [← h7]
      exact hp g (List.mem_of_getElem? hg)
  by_cases h9 : i.op = 9
  · simp only [h9] at h ⊢
    simp at h ⊢
    omega
  by_cases h18 : i.op = 18
  · simp only [h18] at h ⊢
    simp at h ⊢
    omega
  rw [if_neg h6, if_neg h9, if_neg h18]
  refine ⟨tk_pos hop h6 h9 h18, ?_⟩
  rw [if_neg h2, if_neg h3, if_neg h5, if_neg h6, if_neg h9, if_neg h18] at h
  by_cases h20 : i.op = 20
  · simp only [h20] at h ⊢
    have : tkT 20 = 2 := rfl
    simp at h
    omega
  rw [if_neg h20] at h
  by_cases h25 : i.op = 25
  · rw [h25]; have : tkT 25 = 0 := rfl; omega
  rw [if_neg h25] at h
  by_cases h8 : i.op = 8
  · simp only [h8] at h ⊢
    have : tkT 8 = 1 := rfl
    simp at h
    omega
  rw [if_neg h8] at h
  by_cases h11 : i.op = 11 ∨ i.op = 10 ∨ i.op = 17
  · rw [if_pos h11] at h
    simp at h
    have : tkT i.op = 1 := by rcases h11 with h | h | h <;> rw [h] <;> rfl
    omega
  · rw [if_neg h11] at h
    simpa using h
theorem fine_try {i : In} {d t : Int} (h : fineB f i d t all globs = true) (ht : 0 ≤ t) : 0 ≤ t + dtI i ∧ t + dtI i ≤ t + 1 := by
  unfold dtI
  split
  · omega
  · split
    · rename_i h24 h25
      unfold fineB at h
      simp only [h25] at h
      simp at h
      omega
    · omega
/-- where one comes to the labels stay small -/
theorem succ_bound {i : In} {k : Nat} {d t : Int} {x : Int × Int × Int} (h : fineB f i d t all globs = true) (hp : PosAll all) (hd : 1 ≤ d ∧ d ≤ (k : Int) + 1) (ht : 0 ≤ t ∧ t ≤ k) (hx : x ∈ succsI i k d t) (hk : (k : Int) < x.1) :
    1 ≤ x.2.1 ∧ x.2.1 ≤ x.1 + 1 ∧ 0 ≤ x.2.2 ∧ x.2.2 ≤ x.1 := by
  have h1 := fine_takes h hp hd.1
  have h2 := fine_try h ht.1
  have h3 := tk_le (op_cases h)
  unfold succsI at hx
  rcases List.mem_append.1 hx with hx | hx
  · split at hx
    · simp only [List.mem_singleton] at hx
      subst hx
      simp only at hk ⊢
      omega
    · cases hx
  · split at hx
    · simp only [List.mem_singleton] at hx
      subst hx
      simp only at hk ⊢
      omega
    · split at hx
      · simp only [List.mem_singleton] at hx
        subst hx
        simp only at hk ⊢
        omega
      · cases hx

/-- a place is done -/
def ProcD (f : Fn) (all : List Fn) (globs : Int) (D R : List Int) (k : Nat) : Prop := ∃ i, f.code[k]? = some i ∧ fineB f i (D.getD k 0) (R.getD k 0) all globs = true ∧
  ∀ x ∈ succsI i k (D.getD k 0) (R.getD k 0), (k : Int) < x.1 ∧ x.1 < (f.code.length : Int) ∧ D.getD x.1.toNat 0 = x.2.1 ∧ R.getD x.1.toNat 0 = x.2.2
/-- the labels so far; X is what is being done -/
structure InvD (f : Fn) (all : List Fn) (globs : Int) (X : Nat → Prop) (D R : List Int) (T : List Nat) : Prop where
  dl : D.length = f.code.length
  rl : R.length = f.code.length
  d0 : D.getD 0 0 = 1
  r0 : R.getD 0 0 = 0
  bd : ∀ k, D.getD k 0 ≠ 0 → 1 ≤ D.getD k 0 ∧ D.getD k 0 ≤ (k : Int) + 1 ∧ 0 ≤ R.getD k 0 ∧ R.getD k 0 ≤ k
  pr : ∀ k, D.getD k 0 ≠ 0 → k ∈ T ∨ X k ∨ ProcD f all globs D R k
  td : ∀ k ∈ T, k < f.code.length ∧ D.getD k 0 ≠ 0
  lb : ∀ L, GoodL f all globs L → ∀ k, D.getD k 0 ≠ 0 → L k = some (D.getD k 0, R.getD k 0)

def reachP (n at_ : Nat) (to d t : Int) (D R : List Int) (T : List Nat) : Bool × List Int × List Int × List Nat :=
  if to ≤ (at_ : Int) ∨ (n : Int) ≤ to then (false, D, R, T)
  else if D.getD to.toNat 0 = 0 then (true, D.set to.toNat d, R.set to.toNat t, T ++ [to.toNat])
  else (decide (D.getD to.toNat 0 = d) && decide (R.getD to.toNat 0 = t), D, R, T)

theorem getD_set {l : List Int} {k j : Nat} {v : Int} (h : k < l.length) : (l.set k v).getD j 0 = if j = k then v else l.getD j 0 := by
  simp only [List.getD_eq_getElem?_getD, List.getElem?_set]
  by_cases hj : j = k
  · subst hj; simp [h]
  · have : ¬ k = j := fun e => hj e.symm
    simp [this, hj]

theorem reach_inv {X : Nat → Prop} {D R D' R' : List Int} {T T' : List Nat} {k : Nat} {i : In} {to d t : Int} {b : Bool} (h : InvD f all globs X D R T) (hk : D.getD k 0 ≠ 0) (hi : f.code[k]? = some i)
    (hf : fineB f i (D.getD k 0) (R.getD k 0) all globs = true) (hp : PosAll all) (hx : (to, d, t) ∈ succsI i k (D.getD k 0) (R.getD k 0)) (he : reachP f.code.length k to d t D R T = (b, D', R', T')) :
    (b = false → ¬ GoodF f all globs) ∧ (b = true → InvD f all globs X D' R' T' ∧ (k : Int) < to ∧ to < (f.code.length : Int) ∧ D'.getD to.toNat 0 = d ∧ R'.getD to.toNat 0 = t ∧ ∀ j, D.getD j 0 ≠ 0 → D'.getD j 0 = D.getD j 0 ∧ R'.getD j 0 = R.getD j 0) := by
  have hgood : ∀ L, GoodL f all globs L → (k : Int) < to ∧ to < (f.code.length : Int) ∧ L to.toNat = some (d, t) := fun L hL => by
    obtain ⟨i', hi', hf', hs⟩ := hL.2 k _ _ (h.lb L hL k hk)
    rw [hi] at hi'
    have := Option.some.inj hi'
    subst this
    exact hs _ hx
  have hb := h.bd k hk
  unfold reachP at he
  split at he
  · rename_i hr
    simp only [Prod.mk.injEq] at he
    obtain ⟨rfl, rfl, rfl, rfl⟩ := he
    refine ⟨fun _ ⟨L, hL⟩ => ?_, fun h => by cases h⟩
    have := hgood L hL
    omega
  · rename_i hr
    obtain ⟨m, rfl⟩ : ∃ m : Nat, to = m := ⟨to.toNat, by omega⟩
    simp only [Int.toNat_natCast] at he hgood ⊢
    have hsb := succ_bound hf hp ⟨hb.1, hb.2.1⟩ ⟨hb.2.2.1, hb.2.2.2⟩ hx (by simp only; omega)
    simp only at hsb
    split at he
    · rename_i h0
      simp only [Prod.mk.injEq] at he
      obtain ⟨rfl, rfl, rfl, rfl⟩ := he
      have hmD : m < D.length := by rw [h.dl]; omega
      have hmR : m < R.length := by rw [h.rl]; omega
      have hkm : k ≠ m := by omega
      have hold : ∀ j, D.getD j 0 ≠ 0 → j ≠ m := fun j hj e => hj (e ▸ h0)
      refine ⟨(fun h => by cases h), fun _ => ⟨⟨by simp [h.dl], by simp [h.rl], ?_, ?_, fun j hj => ?_, fun j hj => ?_, fun j hj => ?_, fun L hL j hj => ?_⟩, by omega, by omega, by rw [getD_set hmD, if_pos rfl], by rw [getD_set hmR, if_pos rfl], fun j hj => ⟨by rw [getD_set hmD, if_neg (hold j hj)], by rw [getD_set hmR, if_neg (hold j hj)]⟩⟩⟩
      · rw [getD_set hmD, if_neg (hold 0 (by rw [h.d0]; decide)), h.d0]
      · rw [getD_set hmR, if_neg (hold 0 (by rw [h.d0]; decide)), h.r0]
      · rw [getD_set hmD, getD_set hmR]
        rw [getD_set hmD] at hj
        by_cases e : j = m
        · subst e; simp; omega
        · rw [if_neg e] at hj
          simp only [if_neg e]
          exact h.bd j hj
      · rw [getD_set hmD] at hj
        by_cases e : j = m
        · subst e; exact .inl (List.mem_append.2 (.inr (List.mem_singleton.2 rfl)))
        · rw [if_neg e] at hj
          rcases h.pr j hj with h1 | h1 | ⟨i', a1, a2, a3⟩
          · exact .inl (List.mem_append.2 (.inl h1))
          · exact .inr (.inl h1)
          · refine .inr (.inr ⟨i', a1, ?_, fun x hx => ?_⟩)
            · rw [getD_set hmD, getD_set hmR, if_neg e, if_neg e]; exact a2
            · rw [getD_set hmD, getD_set hmR, if_neg e, if_neg e] at hx
              obtain ⟨b1, b2, b3, b4⟩ := a3 x hx
              have hj' := h.bd j hj
              have hxb := succ_bound a2 hp ⟨hj'.1, hj'.2.1⟩ ⟨hj'.2.2.1, hj'.2.2.2⟩ hx b1
              have hne : x.1.toNat ≠ m := hold _ (by rw [b3]; omega)
              rw [getD_set hmD, getD_set hmR, if_neg hne, if_neg hne]
              exact ⟨b1, b2, b3, b4⟩
      · rw [getD_set hmD]
        rcases List.mem_append.1 hj with hj | hj
        · obtain ⟨c1, c2⟩ := h.td j hj
          exact ⟨c1, by rw [if_neg (hold j c2)]; exact c2⟩
        · rw [List.mem_singleton] at hj
          subst hj
          rw [if_pos rfl]
          exact ⟨by omega, by omega⟩
      · rw [getD_set hmD] at hj ⊢
        rw [getD_set hmR]
        by_cases e : j = m
        · subst e; simp only [if_true]; exact (hgood L hL).2.2
        · rw [if_neg e] at hj
          simp only [if_neg e]
          exact h.lb L hL j hj
    · rename_i h0
      simp only [Prod.mk.injEq] at he
      obtain ⟨rfl, rfl, rfl, rfl⟩ := he
      refine ⟨fun hb ⟨L, hL⟩ => ?_, fun hb => ?_⟩
      · have h1 := (hgood L hL).2.2
        rw [h.lb L hL m h0] at h1
        simp only [Option.some.injEq, Prod.mk.injEq] at h1
        rcases Bool.and_eq_false_iff.1 hb with hb | hb
        · exact of_decide_eq_false hb h1.1
        · exact of_decide_eq_false hb h1.2
      · simp only [Bool.and_eq_true, decide_eq_true_eq] at hb
        exact ⟨h, by omega, by omega, hb.1, hb.2, fun j _ => ⟨rfl, rfl⟩⟩

/-- the todo list's weight -/
def wtT (n : Nat) (T : List Nat) : Nat := (T.map fun k => 3 ^ (n - k)).sum
theorem wt_snoc (n : Nat) (T : List Nat) (k : Nat) : wtT n (T ++ [k]) = wtT n T + 3 ^ (n - k) := by simp [wtT]
theorem wt_reach {n at_ : Nat} {to d t : Int} {D R D' R' : List Int} {T T' : List Nat} {b : Bool} (hat : at_ < n) (he : reachP n at_ to d t D R T = (b, D', R', T')) : 3 * wtT n T' ≤ 3 * wtT n T + 3 ^ (n - at_) ∧ D'.length = D.length ∧ R'.length = R.length ∧ (∀ k ∈ T', k ∈ T ∨ (at_ < k ∧ k < n)) := by
  unfold reachP at he
  split at he
  · simp only [Prod.mk.injEq] at he
    obtain ⟨rfl, rfl, rfl, rfl⟩ := he
    exact ⟨Nat.le_add_right _ _, rfl, rfl, fun k hk => .inl hk⟩
  · split at he
    · rename_i h1 h2
      simp only [Prod.mk.injEq] at he
      obtain ⟨rfl, rfl, rfl, rfl⟩ := he
      refine ⟨?_, by simp, by simp, fun k hk => ?_⟩
      · rw [wt_snoc]
        have h3 : 3 * 3 ^ (n - to.toNat) ≤ 3 ^ (n - at_) := by
          rw [← Nat.pow_succ']
          exact Nat.pow_le_pow_right (by omega) (by omega)
        omega
      · rcases List.mem_append.1 hk with hk | hk
        · exact .inl hk
        · rw [List.mem_singleton] at hk
          subst hk
          exact .inr (by omega)
    · simp only [Prod.mk.injEq] at he
      obtain ⟨rfl, rfl, rfl, rfl⟩ := he
      exact ⟨Nat.le_add_right _ _, rfl, rfl, fun k hk => .inl hk⟩

theorem inv_start (hne : f.code ≠ []) : InvD f all globs (fun _ => False) ((List.replicate f.code.length 0).set 0 1) (List.replicate f.code.length 0) [0] := by
  have hl : 0 < f.code.length := List.length_pos_iff.2 hne
  have hz : ∀ j, (List.replicate f.code.length (0 : Int)).getD j 0 = 0 := fun j => by
    rw [List.getD_eq_getElem?_getD, List.getElem?_replicate]
    split <;> rfl
  have hg : ∀ j, ((List.replicate f.code.length (0 : Int)).set 0 1).getD j 0 = if j = 0 then 1 else 0 := fun j => by
    rw [getD_set (by simpa using hl), hz]
  have h0 : ∀ j, ((List.replicate f.code.length (0 : Int)).set 0 1).getD j 0 ≠ 0 → j = 0 := fun j hj => by
    rw [hg] at hj
    by_cases e : j = 0
    · exact e
    · rw [if_neg e] at hj; exact absurd rfl hj
  refine ⟨by simp, by simp, by rw [hg]; rfl, hz 0, fun j hj => ?_, fun j hj => ?_, fun j hj => ?_, fun L hL j hj => ?_⟩
  · obtain rfl := h0 j hj
    rw [hg, hz]
    simp
  · obtain rfl := h0 j hj
    exact .inl List.mem_cons_self
  · rw [List.mem_singleton] at hj
    subst hj
    exact ⟨hl, by rw [hg]; decide⟩
  · obtain rfl := h0 j hj
    rw [hg, hz]
    exact hL.1
theorem inv_end {D R : List Int} (hp : PosAll all) (h : InvD f all globs (fun _ => False) D R []) : GoodF f all globs := by
  refine ⟨fun k => if D.getD k 0 ≠ 0 then some (D.getD k 0, R.getD k 0) else none, ?_, fun k d t hk => ?_⟩
  · simp only [h.d0, h.r0]
    rfl
  · simp only at hk
    split at hk
    · rename_i h0
      simp only [Option.some.injEq, Prod.mk.injEq] at hk
      obtain ⟨rfl, rfl⟩ := hk
      rcases h.pr k h0 with h1 | h1 | ⟨i, h1, h2, h3⟩
      · cases h1
      · exact h1.elim
      · refine ⟨i, h1, h2, fun x hx => ?_⟩
        obtain ⟨a1, a2, a3, a4⟩ := h3 x hx
        refine ⟨a1, a2, ?_⟩
        have hb := h.bd k h0
        have hxb := succ_bound h2 hp ⟨hb.1, hb.2.1⟩ ⟨hb.2.2.1, hb.2.2.2⟩ hx a1
        show (if D.getD x.1.toNat 0 ≠ 0 then some (D.getD x.1.toNat 0, R.getD x.1.toNat 0) else none) = _
        rw [if_pos (by rw [a3]; omega), a3, a4]
    · cases hk
end
end Go.Proofs.YtipabhbnljadfaaDoor
