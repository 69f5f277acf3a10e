/-
  heap: words and texts, plain. No program in sight.
-/
import Derived.Test.YtdpnnclkkbfihaaDoorOctP
namespace Go.Proofs.YtdpnnclkkbfihaaDoor
open Go
set_option linter.unusedSimpArgs false
set_option linter.unusedVariables false

/-- bytes as a number, the first the least -/
def leW : List UInt8 → Nat
  | [] => 0
  | b :: l => b.toNat + 256 * leW l
theorem leW_lt : ∀ (l : List UInt8), leW l < 256 ^ l.length
  | [] => by simp [leW]
  | b :: l => by
    have h := leW_lt l
    have hb : b.toNat < 256 := by have := b.toNat_lt; simpa using this
    simp only [leW, List.length_cons, Nat.pow_succ]
    omega
theorem leW_snoc : ∀ (l : List UInt8) (b : UInt8), leW (l ++ [b]) = leW l + 256 ^ l.length * b.toNat
  | [], b => by simp [leW]
  | a :: l, b => by
    rw [List.cons_append, leW, leW, leW_snoc l b, List.length_cons, Nat.pow_succ]
    rw [Nat.mul_add, ← Nat.mul_assoc, Nat.mul_comm (256 ^ l.length) 256]
    omega
theorem leW_byte : ∀ {l : List UInt8} {k : Nat} {b : UInt8}, l[k]? = some b → leW l / 256 ^ k % 256 = b.toNat
  | [], k, b, h => by simp at h
  | a :: l, 0, b, h => by
    simp at h
    subst h
    have hb : a.toNat < 256 := by have := a.toNat_lt; simpa using this
    simp only [leW, Nat.pow_zero, Nat.div_one]
    omega
  | a :: l, k + 1, b, h => by
    have ih := leW_byte (l := l) (k := k) (b := b) (by simpa using h)
    have hb : a.toNat < 256 := by have := a.toNat_lt; simpa using this
    have e : leW (a :: l) / 256 = leW l := by simp only [leW]; omega
    rw [Nat.pow_succ, Nat.mul_comm, ← Nat.div_div_eq_div_mul, e]
    exact ih
/-- a text as words -/
def encT (s : List UInt8) : List Nat := (List.range ((s.length + 7) / 8)).map fun i => leW ((s.drop (8 * i)).take 8)
theorem encT_len (s : List UInt8) : (encT s).length = (s.length + 7) / 8 := by simp [encT]
theorem encT_byte {s : List UInt8} {i : Nat} {b : UInt8} (h : s[i]? = some b) : ∃ x, (encT s)[i / 8]? = some x ∧ x / 256 ^ (i % 8) % 256 = b.toNat ∧ x < 18446744073709551616 := by
  have hi : i < s.length := (List.getElem?_eq_some_iff.1 h).1
  refine ⟨leW ((s.drop (8 * (i / 8))).take 8), ?_, leW_byte ?_, ?_⟩
  · unfold encT
    rw [List.getElem?_map, List.getElem?_range (by omega)]
    rfl
  · rw [List.getElem?_take_of_lt (by omega), List.getElem?_drop, show 8 * (i / 8) + i % 8 = i by omega]
    exact h
  · have h1 := leW_lt ((s.drop (8 * (i / 8))).take 8)
    have h2 : ((s.drop (8 * (i / 8))).take 8).length ≤ 8 := by simp; omega
    have h3 : 256 ^ ((s.drop (8 * (i / 8))).take 8).length ≤ 256 ^ 8 := Nat.pow_le_pow_right (by decide) h2
    have h4 : (256 : Nat) ^ 8 = 18446744073709551616 := by decide
    omega

/-! ### numbers as words -/
theorem wrap_u64 (x : Int) : IntKind.u64.wrap x = x % 18446744073709551616 := by simp [IntKind.wrap, IntKind.signed, IntKind.bits]
def numW (n : Int) : Nat := ((2 * n) % 18446744073709551616).toNat + 1
theorem numW_lt (n : Int) : numW n < 18446744073709551616 := by unfold numW; omega
theorem or_one (k : Nat) : (2 * k) ||| 1 = 2 * k + 1 := by
  have := Nat.shiftLeft_add_eq_or_of_lt (i := 1) (b := 1) (by decide) k
  rw [Nat.shiftLeft_eq] at this
  rw [Nat.mul_comm 2 k]
  exact this.symm
theorem num_val (n : Int) : bits .or .u64 (IntKind.u64.wrap (IntKind.u64.wrap n * 2 ^ Int.toNat 1)) 1 = ((numW n : Nat) : Int) := by
  rw [wrap_u64, wrap_u64]
  obtain ⟨k, hk⟩ : ∃ k : Nat, (n % 18446744073709551616 * 2 ^ Int.toNat 1) % 18446744073709551616 = ((2 * k : Nat) : Int) := ⟨((n % 18446744073709551616 * 2 ^ Int.toNat 1) % 18446744073709551616 / 2).toNat, by simp; omega⟩
  have hlt : 2 * k < 18446744073709551616 := by omega
  have h1 := bits_or_u64 (2 * k) 1 hlt (by decide)
  rw [or_one] at h1
  rw [hk]
  refine h1.trans ?_
  unfold numW
  simp at hk
  omega
theorem wrap_i64 (x : Int) : IntKind.i64.wrap x = if x % 18446744073709551616 ≥ 9223372036854775808 then x % 18446744073709551616 - 18446744073709551616 else x % 18446744073709551616 := by simp [IntKind.wrap, IntKind.signed, IntKind.bits]
/-- a word as a number -/
def numN (x : Nat) : Int := IntKind.i64.wrap (x : Int) / 2 ^ Int.toNat 1
theorem numN_dbl (n : Int) : IntKind.u64.wrap (IntKind.u64.wrap (numN (numW n)) * 2 ^ Int.toNat 1) = IntKind.u64.wrap (IntKind.u64.wrap n * 2 ^ Int.toNat 1) := by
  unfold numN numW
  rw [wrap_u64, wrap_u64, wrap_u64, wrap_u64, wrap_i64]
  simp only [Int.toNat_one, Int.pow_one]
  split <;> omega
theorem numN_same {n : Int} (h1 : -4611686018427387904 ≤ n) (h2 : n ≤ 4611686018427387903) : numN (numW n) = n := by
  unfold numN numW
  rw [wrap_i64]
  simp only [Int.toNat_one, Int.pow_one]
  split <;> omega
theorem numW_form (n : Int) : ((numW n : Nat) : Int) = IntKind.u64.wrap (IntKind.u64.wrap (IntKind.u64.wrap n * 2) + 1) := by
  unfold numW
  rw [wrap_u64, wrap_u64, wrap_u64]
  omega
theorem numW_odd (n : Int) : numW n % 2 = 1 := by unfold numW; omega
end Go.Proofs.YtdpnnclkkbfihaaDoor
