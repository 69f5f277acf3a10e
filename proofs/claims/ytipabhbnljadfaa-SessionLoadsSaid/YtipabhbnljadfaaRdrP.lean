/-
  A number's bytes, and back; no program in sight.
-/
import Derived.Test.YtipabhbnljadfaaOrdP
namespace Go.Proofs.Ytipabhbnljadfaa
open Go
set_option linter.unusedSimpArgs false
set_option linter.unusedVariables false

theorem beN_foldl (l : List UInt8) : ∀ n, l.foldl (fun n (b : UInt8) => n * 256 + b.toNat) n = n * 256 ^ l.length + beN l := by
  induction l with
  | nil => intro n; simp [beN]
  | cons b l ih =>
    intro n
    have h := ih b.toNat
    unfold beN
    rw [List.foldl_cons, List.foldl_cons, ih, Nat.zero_mul, Nat.zero_add, h, List.length_cons, Nat.pow_succ, Nat.mul_comm (256 ^ l.length) 256, ← Nat.mul_assoc, Nat.add_mul]
    omega
theorem beN_cons (b : UInt8) (l : List UInt8) : beN (b :: l) = b.toNat * 256 ^ l.length + beN l := by
  have h := beN_foldl l b.toNat
  unfold beN
  rw [List.foldl_cons, Nat.zero_mul, Nat.zero_add]
  exact h

theorem byteAt_low {b y k i : Nat} (h : i < k) : byteAt (b * 256 ^ k + y) i = byteAt y i := by
  unfold byteAt
  obtain ⟨d, rfl⟩ : ∃ d, k = i + (d + 1) := ⟨k - i - 1, by omega⟩
  have h1 : b * 256 ^ (i + (d + 1)) + y = y + 256 ^ i * (256 * (b * 256 ^ d)) := by
    rw [Nat.pow_add, Nat.pow_succ]
    have : b * (256 ^ i * (256 ^ d * 256)) = 256 ^ i * (256 * (b * 256 ^ d)) := by
      rw [Nat.mul_left_comm, Nat.mul_comm (256 ^ d) 256, Nat.mul_left_comm b]
    omega
  rw [h1, Nat.add_mul_div_left _ _ (Nat.pow_pos (by omega)), Nat.add_mul_mod_self_left]

theorem beB_low {b y k : Nat} : ∀ {i}, i ≤ k → beB (b * 256 ^ k + y) i = beB y i
  | 0, _ => rfl
  | i + 1, h => by rw [beB, beB, byteAt_low (by omega), beB_low (by omega)]

theorem beB_beN : ∀ l : List UInt8, beB (beN l) l.length = l
  | [] => rfl
  | b :: l => by
    have hb := b.toNat_lt
    rw [List.length_cons, beB, beN_cons, beB_low (Nat.le_refl _), beB_beN l]
    congr 1
    unfold byteAt
    rw [Nat.mul_comm, Nat.mul_add_div (Nat.pow_pos (by omega)), Nat.div_eq_of_lt (beN_lt l), Nat.add_zero, Nat.mod_eq_of_lt (by omega)]
    simp

theorem blen_beN {b : UInt8} {l : List UInt8} (h : b ≠ 0) : blen (beN (b :: l)) = l.length + 1 := by
  have h1 : blen (beN (b :: l)) ≤ l.length + 1 := blen_le (beN_lt (b :: l))
  have hb : b.toNat ≠ 0 := fun e => h (UInt8.toNat_inj.1 e)
  have h2 : 256 ^ l.length ≤ beN (b :: l) := by
    rw [beN_cons]
    have : 1 * 256 ^ l.length ≤ b.toNat * 256 ^ l.length := Nat.mul_le_mul_right _ (by omega)
    omega
  have h3 : l.length < blen (beN (b :: l)) := (lt_blen _ _).2 (Nat.div_pos h2 (Nat.pow_pos (by omega)))
  omega

theorem encU_beN {l : List UInt8} (hl : l.length ≤ 8) : encU (beN l) = UInt8.ofNat l.length :: l ↔ (l.length = 0 ∨ l.head? ≠ some 0) := by
  cases l with
  | nil => simp [encU, beN, blen_zero, beB]
  | cons b l =>
    by_cases h : b = 0
    · subst h
      have h1 : beN (0 :: l) = beN l := by rw [beN_cons]; simp
      have h2 : blen (beN (0 :: l)) ≤ l.length := by rw [h1]; exact blen_le (beN_lt l)
      simp only [List.length_cons] at hl
      constructor
      · intro he
        unfold encU at he
        have h3 := congrArg List.length he
        simp [beB_length] at h3
        omega
      · intro he
        simp at he
    · have h1 := blen_beN (l := l) h
      constructor
      · intro _
        simp [h]
      · intro _
        unfold encU
        rw [h1]
        have := beB_beN (b :: l)
        rw [List.length_cons] at this
        rw [this, List.length_cons]

theorem decU_drop {p : List UInt8} {m : Nat} (h : m < p.length) :
    decU (p.drop m) = if p[m].toNat ≤ 8 ∧ p[m].toNat ≤ p.length - (m + 1) ∧ (p[m].toNat = 0 ∨ (p.drop (m + 1)).head? ≠ some 0) then some (beN ((p.drop (m + 1)).take p[m].toNat), p.drop (m + 1 + p[m].toNat)) else none := by
  rw [List.drop_eq_getElem_cons h]
  simp only [decU, List.length_drop, List.drop_drop]
theorem decU_end {p : List UInt8} {m : Nat} (h : p.length ≤ m) : decU (p.drop m) = none := by
  rw [List.drop_eq_nil_of_le h]
  rfl

/-- what the reference asks: the number's bytes are these -/
theorem enc_slice {p : List UInt8} {m : Nat} (h : m < p.length) (h8 : p[m].toNat ≤ 8) (hk : p[m].toNat ≤ p.length - (m + 1)) :
    (encU (beN ((p.drop (m + 1)).take p[m].toNat)) = (p.drop m).take (p[m].toNat + 1)) ↔ (p[m].toNat = 0 ∨ (p.drop (m + 1)).head? ≠ some 0) := by
  have hl : ((p.drop (m + 1)).take p[m].toNat).length = p[m].toNat := by rw [List.length_take, List.length_drop]; omega
  have h1 : (p.drop m).take (p[m].toNat + 1) = UInt8.ofNat ((p.drop (m + 1)).take p[m].toNat).length :: (p.drop (m + 1)).take p[m].toNat := by
    rw [hl, List.drop_eq_getElem_cons h, List.take_succ_cons]
    simp
  rw [h1, encU_beN (by omega), hl]
  cases hp : p[m].toNat with
  | zero => simp
  | succ k =>
    rw [List.head?_take]
    simp

theorem beN_take_lt8 (l : List UInt8) {i : Nat} (h : i ≤ 8) : beN (l.take i) < 18446744073709551616 := by
  have h1 := beN_lt (l.take i)
  have h2 : (l.take i).length ≤ 8 := by rw [List.length_take]; omega
  have h3 : 256 ^ (l.take i).length ≤ 256 ^ 8 := Nat.pow_le_pow_right (by omega) h2
  have : (256 : Nat) ^ 8 = 18446744073709551616 := by decide
  omega
end Go.Proofs.Ytipabhbnljadfaa
