/-
  What was read is what had been laid: the octet's bytes are the only ones. No program in sight.
-/
import Derived.Test.YtipabhbnljadfaaWrtP
namespace Go.Proofs.Ytipabhbnljadfaa
open Go
set_option linter.unusedSimpArgs false
set_option linter.unusedVariables false

theorem decU_canon {l r : List UInt8} {x : Nat} (h : decU l = some (x, r)) : l = encU x ++ r := by
  cases l with
  | nil => cases h
  | cons k q =>
    simp only [decU] at h
    split at h
    · rename_i hc
      simp only [Option.some.injEq, Prod.mk.injEq] at h
      obtain ⟨rfl, rfl⟩ := h
      have hl : (q.take k.toNat).length = k.toNat := by rw [List.length_take]; omega
      have h1 := (encU_beN (l := q.take k.toNat) (by omega)).2 (by
        rcases hc.2.2 with h0 | h0
        · exact .inl (by omega)
        · by_cases h00 : k.toNat = 0
          · exact .inl (by omega)
          · right
            rw [List.head?_take, if_neg h00]
            exact h0)
      rw [h1, hl]
      simp
    · cases h
theorem uintR_some {s : Option (List UInt8)} {x : Nat} {r : List UInt8} (h : uintR s = (x, some r)) : s = some (encU x ++ r) ∧ x < 18446744073709551616 := by
  have hlt := uintR_lt s
  rw [h] at hlt
  refine ⟨?_, hlt⟩
  cases s with
  | none => cases h
  | some l =>
    cases hd : decU l with
    | none => simp only [uintR, hd] at h; cases h
    | some p =>
      obtain ⟨y, q⟩ := p
      simp only [uintR, hd] at h
      simp only [Prod.mk.injEq, Option.some.injEq] at h
      obtain ⟨rfl, rfl⟩ := h
      rw [decU_canon hd]
theorem bytes_encN {most : Int} {b : List UInt8} (hb : (b.length : Int) ≤ most) (hl : b.length < 18446744073709551616) (r : List UInt8) : bytesR most (some (encU b.length ++ (b ++ r))) = (b, some r) := by
  have h1 : uptoR most (some (encU b.length ++ (b ++ r))) = (b.length, some (b ++ r)) := by
    unfold uptoR
    rw [uint_enc hl]
    exact if_pos (by omega)
  unfold bytesR
  rw [h1]
  simp
theorem bytesR_some {most : Int} {s : Option (List UInt8)} {b r : List UInt8} (h : bytesR most s = (b, some r)) : s = some (encU b.length ++ (b ++ r)) ∧ (b.length : Int) ≤ most ∧ b.length < 18446744073709551616 := by
  unfold bytesR at h
  have hu : ∀ n q, uptoR most s = (n, some q) → uintR s = (n, some q) ∧ (n : Int) ≤ most := fun n q hq => by
    unfold uptoR at hq
    split at hq
    · split at hq
      · rename_i h1 h2
        rw [h1]
        simp only [Prod.mk.injEq, Option.some.injEq] at hq
        obtain ⟨rfl, rfl⟩ := hq
        exact ⟨rfl, h2.2⟩
      · cases hq
    · cases hq
  split at h
  · rename_i n q hq
    obtain ⟨h1, h2⟩ := hu n q hq
    obtain ⟨h3, h4⟩ := uintR_some h1
    split at h
    · simp only [Prod.mk.injEq, Option.some.injEq] at h
      obtain ⟨rfl, rfl⟩ := h
      have hl : (q.take n).length = n := by rw [List.length_take]; omega
      rw [hl, List.take_append_drop]
      exact ⟨h3, h2, h4⟩
    · cases h
  · cases h

end Go.Proofs.Ytipabhbnljadfaa
