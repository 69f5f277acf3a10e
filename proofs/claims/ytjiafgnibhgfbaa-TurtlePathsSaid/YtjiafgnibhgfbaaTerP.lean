/-
  A move that is too far; no program in sight.
-/
import Derived.Test.YtjiafgnibhgfbaaTtnP
namespace Go.Proofs.Ytjiafgnibhgfbaa
open Go
set_option linter.unusedSimpArgs false
set_option linter.unusedVariables false

theorem errs_far {a b : List Mv} {far : Int} (ha : ∀ q ∈ a, -1000 < q.2 ∧ q.2 < 1000) (hb : ∀ q ∈ b, -1000 < q.2 ∧ q.2 < 1000) (hl : a.length + b.length ≤ 200) :
    (pathR (a ++ [(false, far)] ++ b)).2.2 = if far < -1000000 ∨ 1000000 < far then 1 else 0 := by
  obtain ⟨s, hs⟩ := go_small (m := a) (s := ts0) (fun q hq => by have := ha q hq; omega)
  unfold pathR
  rw [if_neg (by simp; omega), List.append_assoc, goM_append, hs, Option.bind_some, List.singleton_append, goM_cons]
  by_cases h : far < -1000000 ∨ 1000000 < far
  · have hst : stepM s (false, far) = none := by
      unfold stepM
      rw [if_neg (by simp), if_pos h]
    rw [hst, if_pos h]
    rfl
  · obtain ⟨t, ht⟩ : ∃ t, stepM s (false, far) = some t := by
      unfold stepM
      rw [if_neg (by simp), if_neg h]
      exact ⟨_, rfl⟩
    obtain ⟨s', hs'⟩ := go_small (m := b) (s := t) (fun q hq => by have := hb q hq; omega)
    rw [ht, if_neg h, Option.bind_some, hs']
theorem errs_many (n : Nat) : (pathR (List.replicate n (false, 0))).2.2 = if 1000 < n then 2 else 0 := by
  obtain ⟨s', hs'⟩ := go_small (m := List.replicate n (false, 0)) (s := ts0) (fun q hq => by rw [List.eq_of_mem_replicate hq]; simp)
  unfold pathR
  rw [List.length_replicate, hs']
  split <;> rfl
theorem movC_replicate : ∀ n, movC (List.replicate n (false, 0)) = (List.replicate n [Value.bool false, .int .i64 0]).flatten
  | 0 => rfl
  | n + 1 => by
    rw [List.replicate_succ, List.replicate_succ, movC_cons, List.flatten_cons, movC_replicate n]
    rfl
end Go.Proofs.Ytjiafgnibhgfbaa
