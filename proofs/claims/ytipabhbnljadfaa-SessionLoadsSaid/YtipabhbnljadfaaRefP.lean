/-
  CRC-32C bit by bit is CRC-32C: no program in sight.
-/
import Derived.Test.YtipabhbnljadfaaSumP
namespace Go.Proofs.Ytipabhbnljadfaa
open Go
set_option linter.unusedSimpArgs false
set_option linter.unusedVariables false

def refB (b c k : Nat) : Nat := if (c + b / 2 ^ k) % 2 = 1 then (c / 2) ^^^ 2197175160 else c / 2
def refN (b : Nat) : Nat → Nat → Nat
  | 0, c => c
  | k + 1, c => refB b (refN b k c) k

theorem xor_half (x z : Nat) : (x ^^^ z) / 2 = x / 2 ^^^ z / 2 := by
  have := Nat.shiftRight_xor_distrib (a := x) (b := z) (i := 1)
  simpa [Nat.shiftRight_succ] using this

theorem refN_step (b c : Nat) : ∀ k, stepN k (c ^^^ b) = refN b k c ^^^ (b / 2 ^ k)
  | 0 => by simp [stepN, refN]
  | k + 1 => by
    have ih := refN_step b c k
    have hz : b / 2 ^ (k + 1) = b / 2 ^ k / 2 := by rw [Nat.pow_succ, Nat.div_div_eq_div_mul]
    simp only [stepN, refN, ih, hz]
    unfold stepC refB
    generalize refN b k c = x
    generalize b / 2 ^ k = z
    rw [xor_half]
    have h2 : ((x ^^^ z) % 2 = 1) = ((x + z) % 2 = 1) := by
      rw [eq_iff_iff, Nat.xor_mod_two_eq_one]
      omega
    simp only [h2]
    split
    · rw [Nat.xor_assoc, Nat.xor_comm (z / 2), ← Nat.xor_assoc]
    · rw [Nat.xor_zero]

theorem refN_byte (c : Nat) (b : UInt8) : refN b.toNat 8 c = crcB c b := by
  have h := refN_step b.toNat c 8
  have hb := b.toNat_lt
  rw [Nat.div_eq_of_lt (by simpa using hb), Nat.xor_zero] at h
  exact h.symm
theorem refB_lt {b c k : Nat} (h : c < 4294967296) : refB b c k < 4294967296 := by
  unfold refB
  split
  · exact Nat.xor_lt_two_pow (n := 32) (by omega) (by omega)
  · omega
theorem refN_lt (b : Nat) : ∀ (k : Nat) {c : Nat}, c < 4294967296 → refN b k c < 4294967296
  | 0, _, h => h
  | k + 1, _, h => refB_lt (refN_lt b k h)

theorem low_bits {c b k : Nat} (hc : c < 4294967296) (hb : b < 256) :
    bits .xor .u32 (bits .and .u32 (c : Int) 1) (bits .and .u32 (IntKind.u32.wrap ((b : Int) / 2 ^ ((k : Int)).toNat)) 1) = (((c + b / 2 ^ k) % 2 : Nat) : Int) := by
  have e : (b : Int) / 2 ^ ((k : Int)).toNat = ((b / 2 ^ k : Nat) : Int) := by
    rw [Int.toNat_natCast]
    exact_mod_cast rfl
  have hk : b / 2 ^ k ≤ b := Nat.div_le_self _ _
  rw [e]
  generalize b / 2 ^ k = z at hk ⊢
  rw [wrap_u32_in (by omega) (by omega), show (1 : Int) = ((1 : Nat) : Int) from rfl, bits_and_u32 _ _ hc (by omega), bits_and_u32 _ _ (by omega) (by omega), Nat.and_one_is_mod, Nat.and_one_is_mod, bits_xor_u32 _ _ (by omega) (by omega)]
  congr 1
  rcases Nat.mod_two_eq_zero_or_one c with h | h <;> rcases Nat.mod_two_eq_zero_or_one z with h' | h' <;> rw [h, h'] <;> simp <;> omega
theorem refB_T {b c k : Nat} (h : (((c + b / 2 ^ k) % 2 : Nat) : Int) = 1) (hc : c < 4294967296) : bits .xor .u32 ((c : Int) / 2 ^ Int.toNat 1) 2197175160 = ((refB b c k : Nat) : Int) := by
  have e1 : (c : Int) / 2 ^ Int.toNat 1 = ((c / 2 : Nat) : Int) := by
    show (c : Int) / 2 ^ 1 = _
    omega
  have h' : (c + b / 2 ^ k) % 2 = 1 := by exact_mod_cast h
  rw [e1, show (2197175160 : Int) = ((2197175160 : Nat) : Int) from rfl, bits_xor_u32 _ _ (by omega) (by omega), refB, if_pos h']
theorem refB_F {b c k : Nat} (h : ¬ (((c + b / 2 ^ k) % 2 : Nat) : Int) = 1) : (c : Int) / 2 ^ Int.toNat 1 = ((refB b c k : Nat) : Int) := by
  have e1 : (c : Int) / 2 ^ Int.toNat 1 = ((c / 2 : Nat) : Int) := by
    show (c : Int) / 2 ^ 1 = _
    omega
  have h' : ¬ (c + b / 2 ^ k) % 2 = 1 := by exact_mod_cast h
  rw [e1, refB, if_neg h']
end Go.Proofs.Ytipabhbnljadfaa
