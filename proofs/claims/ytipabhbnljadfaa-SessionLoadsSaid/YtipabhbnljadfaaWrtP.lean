/-
  What is laid is read back; no program in sight.
-/
import Derived.Test.YtipabhbnljadfaaRdrP
namespace Go.Proofs.Ytipabhbnljadfaa
open Go
set_option linter.unusedSimpArgs false
set_option linter.unusedVariables false

theorem beN_append_one (l : List UInt8) (b : UInt8) : beN (l ++ [b]) = beN l * 256 + b.toNat := beN_snoc l b

theorem beN_beB (n : Nat) : ∀ k, beN (beB n k) = n % 256 ^ k
  | 0 => by simp [beB, beN, Nat.mod_one]
  | k + 1 => by
    rw [beB, beN_cons, beN_beB n k, beB_length, byteAt_nat, Nat.mod_pow_succ, Nat.mul_comm]
    omega
where
  byteAt_nat {n i : Nat} : (byteAt n i).toNat = n / 256 ^ i % 256 := by
    unfold byteAt
    rw [UInt8.toNat_ofNat']
    omega

theorem beN_enc (n : Nat) : beN (beB n (blen n)) = n := by rw [beN_beB, Nat.mod_eq_of_lt (lt_pow_blen n)]

theorem head_beB {n : Nat} (h : blen n ≠ 0) : (beB n (blen n)).head? ≠ some 0 := by
  obtain ⟨k, hk⟩ : ∃ k, blen n = k + 1 := ⟨blen n - 1, by omega⟩
  rw [hk, beB]
  simp only [List.head?_cons, ne_eq, Option.some.injEq]
  intro h0
  have h1 : n / 256 ^ k % 256 = 0 := by
    have := congrArg UInt8.toNat h0
    unfold byteAt at this
    rw [UInt8.toNat_ofNat'] at this
    simp at this
    omega
  have h2 := (lt_blen k n).1 (by omega)
  have h3 := lt_pow_blen n
  rw [hk, Nat.pow_succ] at h3
  have h4 : n / 256 ^ k < 256 := Nat.div_lt_of_lt_mul (by rw [Nat.mul_comm] at h3; rw [Nat.mul_comm]; omega)
  omega

theorem decU_enc {n : Nat} (hn : n < 18446744073709551616) (r : List UInt8) : decU (encU n ++ r) = some (n, r) := by
  have hb : blen n ≤ 8 := blen_le (by simpa using hn)
  have hl := beB_length n (blen n)
  have h1 : (UInt8.ofNat (blen n)).toNat = blen n := by rw [UInt8.toNat_ofNat']; omega
  unfold encU
  rw [List.cons_append, decU, h1, if_pos]
  · have e1 : (beB n (blen n) ++ r).take (blen n) = beB n (blen n) := by rw [List.take_append_of_le_length (by omega), List.take_of_length_le (by omega)]
    have e2 : (beB n (blen n) ++ r).drop (blen n) = r := by
      have := List.drop_left (l₁ := beB n (blen n)) (l₂ := r)
      rwa [hl] at this
    rw [e1, e2, beN_enc]
  · refine ⟨hb, by rw [List.length_append, hl]; omega, ?_⟩
    by_cases h0 : blen n = 0
    · exact .inl h0
    · refine .inr ?_
      have := head_beB h0
      rw [List.head?_append]
      cases hh : (beB n (blen n)).head? with
      | none =>
        rw [List.head?_eq_none_iff] at hh
        rw [hh] at hl
        exact absurd hl.symm h0
      | some b =>
        rw [hh] at this
        simpa using this

theorem uint_enc {n : Nat} (hn : n < 18446744073709551616) (r : List UInt8) : uintR (some (encU n ++ r)) = (n, some r) := by
  simp only [uintR, decU_enc hn]

theorem zag_zig {x : Int} : zag (zig x) = x := by
  unfold zag zig
  split <;> split <;> omega

theorem bytes_enc {b : List UInt8} (hb : b.length ≤ 5000) (r : List UInt8) : bytesR 5000 (some (encU b.length ++ b ++ r)) = (b, some r) := by
  have h1 : uptoR 5000 (some (encU b.length ++ b ++ r)) = (b.length, some (b ++ r)) := by
    unfold uptoR
    rw [List.append_assoc, uint_enc (by omega)]
    exact if_pos (by omega)
  unfold bytesR
  rw [h1]
  simp
end Go.Proofs.Ytipabhbnljadfaa
