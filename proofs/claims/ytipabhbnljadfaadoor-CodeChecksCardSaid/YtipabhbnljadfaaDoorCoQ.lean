/-
  A round of a check. No program in sight.
-/
import Derived.Test.YtipabhbnljadfaaDoorCoP
namespace Go.Proofs.YtipabhbnljadfaaDoor
open Go
set_option linter.unusedSimpArgs false
set_option linter.unusedVariables false

section
variable {f : Fn} {all : List Fn} {globs : Int}
theorem inv_pop {D R : List Int} {T : List Nat} {a : Nat} (h : InvD f all globs (fun _ => False) D R (T ++ [a])) : InvD f all globs (fun k => k = a) D R T := by
  refine ⟨h.dl, h.rl, h.d0, h.r0, h.bd, fun k hk => ?_, fun k hk => h.td k (List.mem_append.2 (.inl hk)), h.lb⟩
  rcases h.pr k hk with h1 | h1 | h1
  · rcases List.mem_append.1 h1 with h1 | h1
    · exact .inl h1
    · exact .inr (.inl (List.mem_singleton.1 h1))
  · exact h1.elim
  · exact .inr (.inr h1)
theorem inv_done {D R : List Int} {T : List Nat} {a : Nat} (h : InvD f all globs (fun k => k = a) D R T) (hp : ProcD f all globs D R a) : InvD f all globs (fun _ => False) D R T := by
  refine ⟨h.dl, h.rl, h.d0, h.r0, h.bd, fun k hk => ?_, h.td, h.lb⟩
  rcases h.pr k hk with h1 | h1 | h1
  · exact .inl h1
  · subst h1; exact .inr (.inr hp)
  · exact .inr (.inr h1)
theorem fine_bad {X : Nat → Prop} {D R : List Int} {T : List Nat} {a : Nat} {i : In} (h : InvD f all globs X D R T) (ha : D.getD a 0 ≠ 0) (hi : f.code[a]? = some i) (hf : fineB f i (D.getD a 0) (R.getD a 0) all globs = false) : ¬ GoodF f all globs := by
  rintro ⟨L, hL⟩
  obtain ⟨i', hi', hf', _⟩ := hL.2 a _ _ (h.lb L hL a ha)
  rw [hi] at hi'
  have := Option.some.inj hi'
  subst this
  rw [hf] at hf'
  cases hf'
theorem proc_of {D R : List Int} {a : Nat} {i : In} {d t : Int} (hi : f.code[a]? = some i) (hd : D.getD a 0 = d) (ht : R.getD a 0 = t) (hf : fineB f i d t all globs = true)
    (h1 : nextB i = true → a + 1 < f.code.length ∧ D.getD (a + 1) 0 = d - nnI i + lvT i.op ∧ R.getD (a + 1) 0 = t + dtI i)
    (h2 : i.op = 12 ∨ i.op = 13 → (a : Int) < i.n ∧ i.n < (f.code.length : Int) ∧ D.getD i.n.toNat 0 = d - nnI i + lvT i.op ∧ R.getD i.n.toNat 0 = t + dtI i)
    (h3 : i.op = 24 → (a : Int) < i.n ∧ i.n < (f.code.length : Int) ∧ D.getD i.n.toNat 0 = d + 1 ∧ R.getD i.n.toNat 0 = t) : ProcD f all globs D R a := by
  refine ⟨i, hi, by rw [hd, ht]; exact hf, fun x hx => ?_⟩
  rw [hd, ht] at hx
  unfold succsI at hx
  rcases List.mem_append.1 hx with hx | hx
  · split at hx
    · rename_i hn
      simp only [List.mem_singleton] at hx
      subst hx
      obtain ⟨a1, a2, a3⟩ := h1 hn
      simp only
      rw [show ((a : Int) + 1).toNat = a + 1 by omega]
      exact ⟨by omega, by omega, a2, a3⟩
    · cases hx
  · split at hx
    · rename_i hn
      simp only [List.mem_singleton] at hx
      subst hx
      exact h2 hn
    · split at hx
      · rename_i hn
        simp only [List.mem_singleton] at hx
        subst hx
        exact h3 hn
      · cases hx
theorem good_ne (h : GoodF f all globs) : f.code ≠ [] := by
  rintro e
  obtain ⟨L, hL⟩ := h
  obtain ⟨i, hi, _⟩ := hL.2 0 1 0 hL.1
  rw [e] at hi
  simp at hi

/-- a stack that rises -/
def Stk (T : List Nat) : Prop := ∀ j v : Nat, T[j]? = some v → j ≤ v
theorem Stk.pop {T : List Nat} {a : Nat} (h : Stk (T ++ [a])) : Stk T ∧ T.length ≤ a := by
  refine ⟨fun j v hj => h j v ?_, h T.length a (by simp)⟩
  rw [List.getElem?_append_left (List.getElem?_eq_some_iff.1 hj).1]
  exact hj
theorem Stk.reach {n at_ : Nat} {to d t : Int} {D R D' R' : List Int} {T T' : List Nat} {b : Bool} (h : Stk T) (hl : T.length ≤ at_ + 1) (he : reachP n at_ to d t D R T = (b, D', R', T')) : Stk T' ∧ T'.length ≤ T.length + 1 := by
  unfold reachP at he
  split at he
  · simp only [Prod.mk.injEq] at he
    obtain ⟨rfl, rfl, rfl, rfl⟩ := he
    exact ⟨h, by omega⟩
  · split at he
    · simp only [Prod.mk.injEq] at he
      obtain ⟨rfl, rfl, rfl, rfl⟩ := he
      refine ⟨fun j v hj => ?_, by simp⟩
      rcases Nat.lt_trichotomy j T.length with h1 | h1 | h1
      · rw [List.getElem?_append_left h1] at hj
        exact h j v hj
      · subst h1
        simp at hj
        omega
      · rw [List.getElem?_eq_none (by simp; omega)] at hj
        cases hj
    · simp only [Prod.mk.injEq] at he
      obtain ⟨rfl, rfl, rfl, rfl⟩ := he
      exact ⟨h, by omega⟩
theorem Stk.len {T : List Nat} {n : Nat} (h : Stk T) (hn : ∀ k ∈ T, k < n) : T.length ≤ n := by
  rcases List.eq_nil_or_concat T with rfl | ⟨T0, a, rfl⟩
  · simp
  · have h1 := h T0.length a (by simp)
    have h2 := hn a (by simp)
    simp
    omega
end
section
variable {w : World} {F : Nat → Prop} {T : TypeId} {sz n m c : Nat} {A : Option Addr} {xs : List Value}
theorem Own.shrink (h : Own w F T sz (.slice A n c) n xs) (hm : m ≤ n) : Own w F T sz (.slice A m c) m (xs.take (m * sz)) := by
  by_cases h0 : n = 0
  · subst h0
    obtain rfl : m = 0 := by omega
    have := h.len
    rw [List.take_of_length_le (by omega)]
    exact h
  · obtain ⟨g, cap, cur, e, hg, hF, h1, h2, h3, h4⟩ := h.open (by omega)
    simp only [Value.slice.injEq, true_and] at e
    obtain ⟨rfl, rfl⟩ := e
    have h5 := Own.shut (sz := sz) (n := m) hg hF (by omega) h2 h3
    rw [← h4, List.take_take]
    have : min (m * sz) (n * sz) = m * sz := Nat.min_eq_left (Nat.mul_le_mul_right _ hm)
    rw [this]
    exact h5
end
end Go.Proofs.YtipabhbnljadfaaDoor
