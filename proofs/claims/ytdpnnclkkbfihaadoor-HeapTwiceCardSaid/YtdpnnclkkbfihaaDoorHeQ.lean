/-
  heap: a word out of bytes, byte by byte. No program in sight.
-/
import Derived.Test.YtdpnnclkkbfihaaDoorHeP
namespace Go.Proofs.YtdpnnclkkbfihaaDoor
open Go
set_option linter.unusedSimpArgs false
set_option linter.unusedVariables false

theorem pow256 (k : Nat) : 256 ^ k = 2 ^ (8 * k) := by rw [Nat.pow_mul]
theorem or_step {l : List UInt8} {k : Nat} {b : UInt8} (hl : l.length = k) : leW l ||| (b.toNat * 2 ^ (8 * k)) = leW (l ++ [b]) := by
  have h := leW_lt l
  rw [hl, pow256] at h
  have h2 := Nat.shiftLeft_add_eq_or_of_lt (i := 8 * k) (b := leW l) h b.toNat
  rw [Nat.shiftLeft_eq] at h2
  rw [leW_snoc, hl, pow256, Nat.or_comm, ← h2, Nat.mul_comm]
  omega
theorem put_byte {l : List UInt8} {k : Nat} {b : UInt8} (hl : l.length = k) (hk : k < 8) : bits .or .u64 ((leW l : Nat) : Int) (IntKind.u64.wrap ((b.toNat : Int) * 2 ^ (8 * k))) = ((leW (l ++ [b]) : Nat) : Int) := by
  have hb : b.toNat < 256 := by have := b.toNat_lt; simpa using this
  have h1 := leW_lt l
  have h3 : 256 ^ l.length ≤ 256 ^ 8 := Nat.pow_le_pow_right (by decide) (by omega)
  have h4 : (256 : Nat) ^ 8 = 18446744073709551616 := by decide
  have h5 : b.toNat * 2 ^ (8 * k) < 18446744073709551616 := by
    rw [← pow256]
    have h6 : 256 ^ k * 256 ≤ 256 ^ 8 := by
      rw [← Nat.pow_succ]
      exact Nat.pow_le_pow_right (by decide) (by omega)
    have h7 : 0 < 256 ^ k := Nat.pow_pos (by decide)
    have h8 : b.toNat * 256 ^ k ≤ 255 * 256 ^ k := Nat.mul_le_mul_right _ (by omega)
    omega
  have e : IntKind.u64.wrap ((b.toNat : Int) * 2 ^ (8 * k)) = ((b.toNat * 2 ^ (8 * k) : Nat) : Int) := by
    rw [wrap_u64]
    have : ((b.toNat * 2 ^ (8 * k) : Nat) : Int) = (b.toNat : Int) * 2 ^ (8 * k) := by simp
    rw [← this]
    omega
  rw [e, bits_or_u64 _ _ (by omega) h5, or_step hl]
end Go.Proofs.YtdpnnclkkbfihaaDoor
