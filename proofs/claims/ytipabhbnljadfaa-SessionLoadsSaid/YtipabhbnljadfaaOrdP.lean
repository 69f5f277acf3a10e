/-
  octet: the bytes of numbers order as the numbers do; no program in sight.
-/
import Derived.Test.YtipabhbnljadfaaOctP
namespace Go.Proofs.Ytipabhbnljadfaa
open Go
set_option linter.unusedSimpArgs false
set_option linter.unusedVariables false

theorem lt_pow_blen (n : Nat) : n < 256 ^ blen n := by
  have h := lt_blen (blen n) n
  have hp : 0 < 256 ^ blen n := Nat.pow_pos (by omega)
  rcases Nat.lt_or_ge n (256 ^ blen n) with h1 | h1
  · exact h1
  · have := Nat.div_pos h1 hp
    omega
theorem pow_blen_le {n : Nat} (h : 0 < blen n) : 256 ^ (blen n - 1) ≤ n := by
  have h1 := (lt_blen (blen n - 1) n).1 (by omega)
  have hp : 0 < 256 ^ (blen n - 1) := Nat.pow_pos (by omega)
  rcases Nat.lt_or_ge n (256 ^ (blen n - 1)) with h2 | h2
  · rw [Nat.div_eq_of_lt h2] at h1
    omega
  · exact h2
theorem lt_of_blen {a b : Nat} (h : blen a < blen b) : a < b := by
  have h1 := lt_pow_blen a
  have h2 := pow_blen_le (n := b) (by omega)
  have h3 : 256 ^ blen a ≤ 256 ^ (blen b - 1) := Nat.pow_le_pow_right (by omega) (by omega)
  omega

theorem ofNat_lt {u v : Nat} (hu : u < 256) (hv : v < 256) : decide (UInt8.ofNat u < UInt8.ofNat v) = decide (u < v) := by
  have h1 : UInt8.ofNat u < UInt8.ofNat v ↔ u < v := by
    rw [UInt8.lt_iff_toNat_lt, UInt8.toNat_ofNat', UInt8.toNat_ofNat', Nat.mod_eq_of_lt hu, Nat.mod_eq_of_lt hv]
  exact decide_eq_decide.2 h1
theorem ofNat_beq {u v : Nat} (hu : u < 256) (hv : v < 256) : (UInt8.ofNat u == UInt8.ofNat v) = decide (u = v) := by
  rw [Bool.eq_iff_iff, beq_iff_eq, decide_eq_true_eq, ← UInt8.toNat_inj, UInt8.toNat_ofNat', UInt8.toNat_ofNat', Nat.mod_eq_of_lt hu, Nat.mod_eq_of_lt hv]

theorem less_cons (u v : Nat) (hu : u < 256) (hv : v < 256) (x y : List UInt8) : Op.bytesLess (UInt8.ofNat u :: x) (UInt8.ofNat v :: y) = (decide (u < v) || (decide (u = v) && Op.bytesLess x y)) := by
  rw [Op.bytesLess, ofNat_lt hu hv, ofNat_beq hu hv]

theorem less_beB (a b : Nat) : ∀ k, Op.bytesLess (beB a k) (beB b k) = decide (a % 256 ^ k < b % 256 ^ k)
  | 0 => by simp [beB, Op.bytesLess, Nat.mod_one]
  | k + 1 => by
    have hp : 0 < 256 ^ k := Nat.pow_pos (by omega)
    have h1 := Nat.mod_lt a hp
    have h2 := Nat.mod_lt b hp
    have h3 := Nat.mod_lt (a / 256 ^ k) (y := 256) (by omega)
    have h4 := Nat.mod_lt (b / 256 ^ k) (y := 256) (by omega)
    unfold beB byteAt
    rw [less_cons _ _ h3 h4, less_beB a b k, Nat.mod_pow_succ, Nat.mod_pow_succ]
    generalize a / 256 ^ k % 256 = u at *
    generalize b / 256 ^ k % 256 = v at *
    generalize a % 256 ^ k = r at *
    generalize b % 256 ^ k = s at *
    generalize 256 ^ k = p at *
    rcases Nat.lt_trichotomy u v with h | h | h
    · have h5 : p * (u + 1) ≤ p * v := Nat.mul_le_mul_left _ h
      rw [Nat.mul_add, Nat.mul_one] at h5
      rw [decide_eq_true h, Bool.true_or, decide_eq_true (by omega)]
    · subst h
      rw [decide_eq_false (by omega), decide_eq_true rfl, Bool.false_or, Bool.true_and]
      exact decide_eq_decide.2 (by omega)
    · have h5 : p * (v + 1) ≤ p * u := Nat.mul_le_mul_left _ h
      rw [Nat.mul_add, Nat.mul_one] at h5
      rw [decide_eq_false (by omega), decide_eq_false (by omega : ¬ u = v), Bool.false_and, Bool.false_or, decide_eq_false (by omega)]

theorem less_encU {a b : Nat} (ha : a < 18446744073709551616) (hb : b < 18446744073709551616) : Op.bytesLess (encU a) (encU b) = decide (a < b) := by
  have la : blen a ≤ 8 := blen_le (by simpa using ha)
  have lb : blen b ≤ 8 := blen_le (by simpa using hb)
  unfold encU
  rw [less_cons _ _ (by omega) (by omega)]
  rcases Nat.lt_trichotomy (blen a) (blen b) with h | h | h
  · have := lt_of_blen h
    rw [decide_eq_true h, decide_eq_true this]
    rfl
  · rw [h, decide_eq_false (by omega), decide_eq_true rfl, less_beB, Bool.false_or, Bool.true_and]
    have h1 := lt_pow_blen a
    have h2 := lt_pow_blen b
    rw [h] at h1
    rw [Nat.mod_eq_of_lt h1, Nat.mod_eq_of_lt h2]
  · have := lt_of_blen h
    rw [decide_eq_false (by omega), decide_eq_false (by omega : ¬ blen a = blen b), decide_eq_false (by omega)]
    rfl
end Go.Proofs.Ytipabhbnljadfaa
