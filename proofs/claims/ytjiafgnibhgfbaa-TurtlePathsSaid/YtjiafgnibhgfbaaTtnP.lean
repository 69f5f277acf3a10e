/-
  Turns add up; no program in sight.
-/
import Derived.Test.YtjiafgnibhgfbaaTsm
namespace Go.Proofs.Ytjiafgnibhgfbaa
open Go
set_option linter.unusedSimpArgs false
set_option linter.unusedVariables false

theorem rot4 (l : Int × Int) : rot (rot (rot (rot l))) = l := by
  obtain ⟨a, b⟩ := l
  simp [rot]
theorem rotN_add (l : Int × Int) (b : Nat) : ∀ a, rotN (a + b) l = rotN a (rotN b l)
  | 0 => by rw [Nat.zero_add]; rfl
  | a + 1 => by rw [show a + 1 + b = (a + b) + 1 by omega, rotN, rotN_add l b a]; rfl
theorem rotN_four (l : Int × Int) : ∀ q, rotN (4 * q) l = l
  | 0 => rfl
  | q + 1 => by
    rw [show 4 * (q + 1) = 4 + 4 * q by omega, rotN_add, rotN_four l q]
    exact rot4 l
theorem rotN_mod (l : Int × Int) (j : Nat) : rotN j l = rotN (j % 4) l := by
  have h : j = j % 4 + 4 * (j / 4) := by omega
  rw [h, rotN_add, rotN_four]
  congr 1
  omega
theorem rotN_same {i j : Nat} (l : Int × Int) (h : i % 4 = j % 4) : rotN i l = rotN j l := by
  rw [rotN_mod l i, rotN_mod l j, h]

theorem go_small : ∀ {m : List Mv} {s : TS}, (∀ q ∈ m, -1000000 ≤ q.2 ∧ q.2 ≤ 1000000) → ∃ s', goM m s = some s'
  | [], s, _ => ⟨s, rfl⟩
  | q :: m, s, h => by
    rw [goM_cons]
    have hq := h q (by simp)
    cases hs : stepM s q with
    | none =>
      unfold stepM at hs
      split at hs
      · cases hs
      · rw [if_neg (by omega)] at hs
        cases hs
    | some t => exact go_small fun r hr => h r (by simp [hr])

theorem step_turn (s : TS) (n : Int) : stepM s (true, n) = some { s with look := rotN (n % 4).toNat s.look } := by
  unfold stepM
  rw [if_pos rfl]

theorem turns_eq {m : List Mv} (n k : Int) (hm : ∀ q ∈ m, -1000 < q.2 ∧ q.2 < 1000) (hl : m.length ≤ 200) :
    ∃ out lk, pathR (m ++ [(true, n), (true, k), (false, 5)]) = (out, lk, 0) ∧ pathR (m ++ [(true, n.tmod 4 + k.tmod 4), (false, 5)]) = (out, lk, 0) := by
  obtain ⟨s, hs⟩ := go_small (m := m) (s := ts0) (fun q hq => by have := hm q hq; omega)
  have e : rotN (k % 4).toNat (rotN (n % 4).toNat s.look) = rotN ((n.tmod 4 + k.tmod 4) % 4).toNat s.look := by
    rw [← rotN_add]
    refine rotN_same _ ?_
    have h1 := Int.tmod_def n 4
    have h2 := Int.tmod_def k 4
    omega
  obtain ⟨s', hs'⟩ := go_small (m := [(false, 5)]) (s := { s with look := rotN (k % 4).toNat (rotN (n % 4).toNat s.look) }) (by intro q hq; simp at hq; subst hq; simp)
  refine ⟨s'.out, s'.look, ?_, ?_⟩
  · unfold pathR
    rw [if_neg (by simp; omega), goM_append, hs, Option.bind_some, goM_cons, step_turn, Option.bind_some, goM_cons, step_turn, Option.bind_some]
    simp only [hs']
  · unfold pathR
    rw [if_neg (by simp; omega), goM_append, hs, Option.bind_some, goM_cons, step_turn, Option.bind_some, ← e]
    simp only [hs']
end Go.Proofs.Ytjiafgnibhgfbaa
