/-
  CRC-32C, in plain Lean: no program in sight.
-/
import Derived.Test.YtipabhbnljadfaaOctP
namespace Go.Proofs.Ytipabhbnljadfaa
open Go
set_option linter.unusedSimpArgs false
set_option linter.unusedVariables false

theorem bits_xor_u32 (a b : Nat) (ha : a < 4294967296) (hb : b < 4294967296) : bits .xor .u32 (a : Int) (b : Int) = ((a ^^^ b : Nat) : Int) := by
  have h1 : a ^^^ b < 2 ^ 32 := Nat.xor_lt_two_pow (n := 32) ha hb
  show IntKind.u32.wrap (((BitVec.ofInt 32 (a : Int) ^^^ BitVec.ofInt 32 (b : Int) : BitVec 32).toNat : Nat) : Int) = _
  rw [BitVec.ofInt_natCast, BitVec.ofInt_natCast, BitVec.toNat_xor, BitVec.toNat_ofNat, BitVec.toNat_ofNat, Nat.mod_eq_of_lt (by simpa using ha), Nat.mod_eq_of_lt (by simpa using hb)]
  exact wrap_u32_in (by omega) (by omega)
theorem bits_and_u32 (a b : Nat) (ha : a < 4294967296) (hb : b < 4294967296) : bits .and .u32 (a : Int) (b : Int) = ((a &&& b : Nat) : Int) := by
  have h1 : a &&& b < 2 ^ 32 := Nat.and_lt_two_pow (n := 32) a hb
  show IntKind.u32.wrap (((BitVec.ofInt 32 (a : Int) &&& BitVec.ofInt 32 (b : Int) : BitVec 32).toNat : Nat) : Int) = _
  rw [BitVec.ofInt_natCast, BitVec.ofInt_natCast, BitVec.toNat_and, BitVec.toNat_ofNat, BitVec.toNat_ofNat, Nat.mod_eq_of_lt (by simpa using ha), Nat.mod_eq_of_lt (by simpa using hb)]
  exact wrap_u32_in (by omega) (by omega)

/-- one bit -/
def stepC (c : Nat) : Nat := (c / 2) ^^^ (if c % 2 = 1 then 2197175160 else 0)
def stepN : Nat → Nat → Nat
  | 0, c => c
  | j + 1, c => stepC (stepN j c)
/-- one byte -/
def crcB (c : Nat) (b : UInt8) : Nat := stepN 8 (c ^^^ b.toNat)
def crcR (l : List UInt8) : Nat := l.foldl crcB 4294967295
/-- CRC-32C -/
def crc (l : List UInt8) : Nat := crcR l ^^^ 4294967295

theorem stepC_lt {c : Nat} (h : c < 4294967296) : stepC c < 4294967296 := by
  unfold stepC
  refine Nat.xor_lt_two_pow (n := 32) (by omega) ?_
  split <;> omega
theorem stepN_lt : ∀ (j : Nat) {c : Nat}, c < 4294967296 → stepN j c < 4294967296
  | 0, _, h => h
  | j + 1, _, h => stepC_lt (stepN_lt j h)
theorem crcB_lt {c : Nat} (b : UInt8) (h : c < 4294967296) : crcB c b < 4294967296 :=
  stepN_lt 8 (Nat.xor_lt_two_pow (n := 32) h (by have := b.toNat_lt; omega))
theorem foldl_crcB_lt : ∀ (l : List UInt8) {c : Nat}, c < 4294967296 → l.foldl crcB c < 4294967296
  | [], _, h => h
  | b :: l, _, h => foldl_crcB_lt l (crcB_lt b h)
theorem crcR_lt (l : List UInt8) : crcR l < 4294967296 := foldl_crcB_lt l (by omega)
theorem crc_lt (l : List UInt8) : crc l < 4294967296 := Nat.xor_lt_two_pow (n := 32) (crcR_lt l) (by omega)

theorem wrap_u32_neg1 : IntKind.u32.wrap (-1) = 4294967295 := by decide

theorem step_bits {c : Nat} (h : c < 4294967296) :
    bits .xor .u32 ((c : Int) / 2 ^ (1 : Int).toNat) (bits .and .u32 2197175160 (IntKind.u32.wrap (-(bits .and .u32 (c : Int) 1)))) = (stepC c : Int) := by
  have e1 : (c : Int) / 2 ^ (1 : Int).toNat = ((c / 2 : Nat) : Int) := by
    show (c : Int) / 2 ^ 1 = _
    omega
  have e2 : bits .and .u32 (c : Int) 1 = ((c % 2 : Nat) : Int) := by
    rw [show (1 : Int) = ((1 : Nat) : Int) from rfl, bits_and_u32 _ _ h (by omega), Nat.and_one_is_mod]
  rw [e1, e2]
  unfold stepC
  by_cases h1 : c % 2 = 1
  · rw [if_pos h1, h1]
    have e3 : bits .and .u32 2197175160 (IntKind.u32.wrap (-((1 : Nat) : Int))) = ((2197175160 : Nat) : Int) := by decide
    rw [e3, bits_xor_u32 _ _ (by omega) (by omega)]
  · have h0 : c % 2 = 0 := by omega
    rw [if_neg h1, h0]
    have e3 : bits .and .u32 2197175160 (IntKind.u32.wrap (-((0 : Nat) : Int))) = ((0 : Nat) : Int) := by decide
    rw [e3, bits_xor_u32 _ _ (by omega) (by omega)]

theorem com_bits {c : Nat} (h : c < 4294967296) : ((c ^^^ 4294967295 : Nat) : Int) = 4294967295 - (c : Int) := by
  have h1 : (BitVec.ofNat 32 c ^^^ BitVec.allOnes 32).toNat = (~~~ BitVec.ofNat 32 c).toNat := by rw [BitVec.xor_allOnes]
  rw [BitVec.toNat_xor, BitVec.toNat_not, BitVec.toNat_ofNat, BitVec.toNat_allOnes, Nat.mod_eq_of_lt (by simpa using h)] at h1
  have h2 : c ^^^ 4294967295 = 4294967295 - c := by simpa using h1
  rw [h2]
  omega
end Go.Proofs.Ytipabhbnljadfaa
