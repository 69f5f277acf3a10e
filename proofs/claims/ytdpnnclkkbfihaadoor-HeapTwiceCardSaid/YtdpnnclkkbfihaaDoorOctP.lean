/-
  octet's numbers, in plain Lean: no program in sight.
-/
import Derived.Test.YtdpnnclkkbfihaaDoorFf
namespace Go.Proofs.YtdpnnclkkbfihaaDoor
open Go
set_option linter.unusedSimpArgs false
set_option linter.unusedVariables false

/-- the highest byte first -/
def beN (l : List UInt8) : Nat := l.foldl (fun n b => n * 256 + b.toNat) 0

theorem beN_snoc (l : List UInt8) (b : UInt8) : beN (l ++ [b]) = beN l * 256 + b.toNat := by simp [beN]
theorem beN_lt_from (l : List UInt8) : ∀ n, l.foldl (fun n (b : UInt8) => n * 256 + b.toNat) n < (n + 1) * 256 ^ l.length := by
  induction l with
  | nil => intro n; simp
  | cons b l ih =>
    intro n
    have h1 := ih (n * 256 + b.toNat)
    have hb := b.toNat_lt
    have h2 : (n * 256 + b.toNat + 1) * 256 ^ l.length ≤ ((n + 1) * 256) * 256 ^ l.length := Nat.mul_le_mul_right _ (by omega)
    rw [List.foldl_cons, List.length_cons, Nat.pow_succ, Nat.mul_comm (256 ^ l.length) 256, ← Nat.mul_assoc]
    omega
theorem beN_lt (l : List UInt8) : beN l < 256 ^ l.length := by
  have := beN_lt_from l 0
  simpa [beN] using this
theorem beN_take_lt (l : List UInt8) (i : Nat) (h : i < 8) : beN (l.take i) < 72057594037927936 := by
  have h1 := beN_lt (l.take i)
  have h2 : (l.take i).length ≤ 7 := by rw [List.length_take]; omega
  have h3 : 256 ^ (l.take i).length ≤ 256 ^ 7 := Nat.pow_le_pow_right (by omega) h2
  have : (256 : Nat) ^ 7 = 72057594037927936 := by decide
  omega
theorem beN_take_succ (l : List UInt8) (i : Nat) (h : i < l.length) : beN (l.take (i + 1)) = beN (l.take i) * 256 + l[i].toNat := by
  rw [List.take_succ_eq_append_getElem h, beN_snoc]

/-- the next number, and what is left -/
def decU : List UInt8 → Option (Nat × List UInt8)
  | [] => none
  | k :: r => if k.toNat ≤ 8 ∧ k.toNat ≤ r.length ∧ (k.toNat = 0 ∨ r.head? ≠ some 0) then some (beN (r.take k.toNat), r.drop k.toNat) else none

def uintR : Option (List UInt8) → Nat × Option (List UInt8)
  | none => (0, none)
  | some l => match decU l with
    | none => (0, none)
    | some (x, r) => (x, some r)

theorem nat_or_add (x b : Nat) (h : b < 256) : x * 256 ||| b = x * 256 + b := by
  have := Nat.two_pow_add_eq_or_of_lt (i := 8) (b := b) (by omega) x
  rw [Nat.mul_comm x 256]
  exact this.symm

theorem bits_or_u64 (a b : Nat) (ha : a < 18446744073709551616) (hb : b < 18446744073709551616) : bits .or .u64 (a : Int) (b : Int) = ((a ||| b : Nat) : Int) := by
  have h1 : a ||| b < 2 ^ 64 := Nat.or_lt_two_pow (n := 64) ha hb
  show IntKind.u64.wrap (((BitVec.ofInt 64 (a : Int) ||| BitVec.ofInt 64 (b : Int) : BitVec 64).toNat : Nat) : Int) = _
  rw [BitVec.ofInt_natCast, BitVec.ofInt_natCast, BitVec.toNat_or, BitVec.toNat_ofNat, BitVec.toNat_ofNat, Nat.mod_eq_of_lt (by simpa using ha), Nat.mod_eq_of_lt (by simpa using hb)]
  exact wrap_u64_in (by omega) (by omega)

theorem shl8or (x : Nat) (b : UInt8) (h : x < 72057594037927936) : bits .or .u64 (IntKind.u64.wrap ((x : Int) * 2 ^ (8 : Int).toNat)) (b.toNat : Int) = ((x * 256 + b.toNat : Nat) : Int) := by
  have hb := b.toNat_lt
  have e : ((x : Int) * 2 ^ (8 : Int).toNat) = ((x * 256 : Nat) : Int) := by
    show (x : Int) * 2 ^ 8 = _
    omega
  rw [e, wrap_u64_in (by omega) (by omega), bits_or_u64 _ _ (by omega) (by omega), nat_or_add _ _ (by omega)]

theorem decU_len {l : List UInt8} {x : Nat} {r : List UInt8} (h : decU l = some (x, r)) : r.length < l.length := by
  cases l with
  | nil => simp [decU] at h
  | cons k l =>
    simp only [decU] at h
    split at h
    · simp only [Option.some.injEq, Prod.mk.injEq] at h
      rw [← h.2, List.length_drop, List.length_cons]
      omega
    · cases h
theorem decU_lt {l : List UInt8} {x : Nat} {r : List UInt8} (h : decU l = some (x, r)) : x < 18446744073709551616 := by
  cases l with
  | nil => simp [decU] at h
  | cons k l =>
    simp only [decU] at h
    split at h
    · rename_i hk
      simp only [Option.some.injEq, Prod.mk.injEq] at h
      rw [← h.1]
      have h1 := beN_lt (l.take k.toNat)
      have h2 : (l.take k.toNat).length ≤ 8 := by rw [List.length_take]; omega
      have h3 : 256 ^ (l.take k.toNat).length ≤ 256 ^ 8 := Nat.pow_le_pow_right (by omega) h2
      have : (256 : Nat) ^ 8 = 18446744073709551616 := by decide
      omega
    · cases h
theorem uintR_lt (s : Option (List UInt8)) : (uintR s).1 < 18446744073709551616 := by
  cases s with
  | none => simp [uintR]
  | some l =>
    simp only [uintR]
    cases h : decU l with
    | none => simp
    | some p => exact decU_lt h

/-- a number with a sign, off one without -/
def zag (x : Nat) : Int := if x % 2 = 1 then -((x / 2 : Nat) : Int) - 1 else ((x / 2 : Nat) : Int)

def uptoR (most : Int) (s : Option (List UInt8)) : Nat × Option (List UInt8) :=
  match uintR s with
  | (x, some r) => if 0 ≤ most ∧ (x : Int) ≤ most then (x, some r) else (0, none)
  | (_, none) => (0, none)
def bytesR (most : Int) (s : Option (List UInt8)) : List UInt8 × Option (List UInt8) :=
  match uptoR most s with
  | (n, some r) => if n ≤ r.length then (r.take n, some (r.drop n)) else ([], none)
  | (_, none) => ([], none)

theorem bits_and1_u64 (x : Nat) (hx : x < 18446744073709551616) : bits .and .u64 (x : Int) 1 = ((x % 2 : Nat) : Int) := by
  show IntKind.u64.wrap (((BitVec.ofInt 64 (x : Int) &&& BitVec.ofInt 64 1 : BitVec 64).toNat : Nat) : Int) = _
  rw [BitVec.ofInt_natCast, BitVec.toNat_and, BitVec.toNat_ofNat, Nat.mod_eq_of_lt (by simpa using hx)]
  have : (BitVec.ofInt 64 1).toNat = 1 := by decide
  rw [this, Nat.and_one_is_mod]
  exact wrap_u64_in (by omega) (by omega)

theorem wrap_i64_hi {n : Int} (h1 : 9223372036854775808 ≤ n) (h2 : n ≤ 18446744073709551615) : IntKind.i64.wrap n = n - 18446744073709551616 := by
  simp only [IntKind.wrap, IntKind.signed, IntKind.bits, Bool.true_and]
  split <;> (rename_i h; simp only [ge_iff_le, decide_eq_true_eq] at h; omega)

theorem bits_xor_i64 (a : Nat) (b : Int) (c : Nat) (hb : (BitVec.ofInt 64 b).toNat = c) : bits .xor .i64 (a : Int) b = IntKind.i64.wrap (((a % 18446744073709551616) ^^^ c : Nat) : Int) := by
  show IntKind.i64.wrap (((BitVec.ofInt 64 (a : Int) ^^^ BitVec.ofInt 64 b : BitVec 64).toNat : Nat) : Int) = _
  rw [BitVec.ofInt_natCast, BitVec.toNat_xor, BitVec.toNat_ofNat, hb]

theorem xor_ones (q : Nat) (hq : q < 18446744073709551616) : q ^^^ 18446744073709551615 = 18446744073709551615 - q := by
  have h1 : (BitVec.ofNat 64 q ^^^ BitVec.allOnes 64).toNat = (~~~ BitVec.ofNat 64 q).toNat := by rw [BitVec.xor_allOnes]
  rw [BitVec.toNat_xor, BitVec.toNat_not, BitVec.toNat_ofNat, BitVec.toNat_allOnes, Nat.mod_eq_of_lt (by simpa using hq)] at h1
  simpa using h1

theorem zag_bits (x : Nat) (hlt : x < 18446744073709551616) :
    Value.int .i64 (bits .xor .i64 (IntKind.i64.wrap ((x : Int) / 2 ^ (1 : Int).toNat)) (IntKind.i64.wrap (-IntKind.i64.wrap (bits .and .u64 (x : Int) 1)))) = .int .i64 (zag x) := by
  have e1 : (x : Int) / 2 ^ (1 : Int).toNat = ((x / 2 : Nat) : Int) := by
    show (x : Int) / 2 ^ 1 = _
    omega
  rw [e1, bits_and1_u64 x hlt, wrap_i64_in (n := ((x / 2 : Nat) : Int)) (by omega) (by omega), wrap_i64_in (n := ((x % 2 : Nat) : Int)) (by omega) (by omega), wrap_i64_in (n := -((x % 2 : Nat) : Int)) (by omega) (by omega)]
  congr 1
  unfold zag
  by_cases h : x % 2 = 1
  · rw [if_pos h, h, bits_xor_i64 _ _ 18446744073709551615 (by decide), Nat.mod_eq_of_lt (by omega), xor_ones _ (by omega), wrap_i64_hi (by omega) (by omega)]
    omega
  · have h0 : x % 2 = 0 := by omega
    rw [if_neg h, h0, bits_xor_i64 _ _ 0 (by decide), Nat.mod_eq_of_lt (by omega), Nat.xor_zero, wrap_i64_in (by omega) (by omega)]

/-- how many bytes a number has -/
def blen (n : Nat) : Nat := if h : n = 0 then 0 else blen (n / 256) + 1
termination_by n
decreasing_by omega

theorem blen_zero : blen 0 = 0 := by unfold blen; simp
theorem blen_pos {n : Nat} (h : n ≠ 0) : blen n = blen (n / 256) + 1 := by
  rw [blen]
  simp [h]

theorem lt_blen : ∀ (i n : Nat), i < blen n ↔ 0 < n / 256 ^ i
  | 0, n => by
    by_cases h : n = 0
    · subst h; simp [blen_zero]
    · rw [blen_pos h]; simp; omega
  | i + 1, n => by
    by_cases h : n = 0
    · subst h; simp [blen_zero]
    · rw [blen_pos h, Nat.pow_succ, Nat.mul_comm (256 ^ i), ← Nat.div_div_eq_div_mul, ← lt_blen i]
      omega

theorem blen_le {n k : Nat} (h : n < 256 ^ k) : blen n ≤ k := by
  rcases Nat.lt_or_ge k (blen n) with h1 | h1
  · rw [lt_blen, Nat.div_eq_of_lt h] at h1
    omega
  · exact h1

/-- the i-th byte from below -/
def byteAt (n i : Nat) : UInt8 := UInt8.ofNat (n / 256 ^ i % 256)

/-- so many bytes of a number, the highest first -/
def beB (n : Nat) : Nat → List UInt8
  | 0 => []
  | k + 1 => byteAt n k :: beB n k

/-- a number as bytes -/
def encU (n : Nat) : List UInt8 := UInt8.ofNat (blen n) :: beB n (blen n)

theorem beB_length (n : Nat) : ∀ k, (beB n k).length = k
  | 0 => rfl
  | k + 1 => by simp [beB, beB_length n k]
theorem encU_length (n : Nat) : (encU n).length = blen n + 1 := by simp [encU, beB_length]

theorem shr_byte (n i : Nat) : (n : Int) / 2 ^ ((8 : Int) * (i : Int)).toNat = ((n / 256 ^ i : Nat) : Int) := by
  have e : ((8 : Int) * (i : Int)).toNat = 8 * i := by omega
  rw [e, Nat.pow_mul 2 8 i |> fun h => (by exact_mod_cast h : ((2 : Int) ^ (8 * i)) = ((256 ^ i : Nat) : Int))]
  exact_mod_cast rfl

theorem wrap_u8_byte (n i : Nat) : Value.int .u8 (IntKind.u8.wrap ((n / 256 ^ i : Nat) : Int)) = U8 (byteAt n i) := by
  unfold U8 byteAt
  congr 1
  rw [UInt8.toNat_ofNat']
  simp only [IntKind.wrap, IntKind.signed, IntKind.bits, Bool.false_and, Bool.false_eq_true, if_false]
  omega
/-- a number without a sign, off one with -/
def zig (x : Int) : Nat := if x < 0 then (-2 * x - 1).toNat else (2 * x).toNat

theorem wrap_u64_neg {n : Int} (h1 : -18446744073709551616 ≤ n) (h2 : n < 0) : IntKind.u64.wrap n = n + 18446744073709551616 := by
  simp only [IntKind.wrap, IntKind.signed, IntKind.bits, Bool.false_and, Bool.false_eq_true, if_false]
  omega

theorem wrap_u64_i64 (y : Int) : IntKind.u64.wrap (IntKind.i64.wrap y) = IntKind.u64.wrap y := by
  simp only [IntKind.wrap, IntKind.signed, IntKind.bits, Bool.true_and, Bool.false_and, Bool.false_eq_true, if_false]
  split <;> omega

theorem bits_xor_u64 (a b : Nat) (ha : a < 18446744073709551616) (hb : b < 18446744073709551616) : bits .xor .u64 (a : Int) (b : Int) = ((a ^^^ b : Nat) : Int) := by
  have h1 : a ^^^ b < 2 ^ 64 := Nat.xor_lt_two_pow (n := 64) ha hb
  show IntKind.u64.wrap (((BitVec.ofInt 64 (a : Int) ^^^ BitVec.ofInt 64 (b : Int) : BitVec 64).toNat : Nat) : Int) = _
  rw [BitVec.ofInt_natCast, BitVec.ofInt_natCast, BitVec.toNat_xor, BitVec.toNat_ofNat, BitVec.toNat_ofNat, Nat.mod_eq_of_lt (by simpa using ha), Nat.mod_eq_of_lt (by simpa using hb)]
  exact wrap_u64_in (by omega) (by omega)

theorem zig_lt {x : Int} (h1 : -9223372036854775808 ≤ x) (h2 : x ≤ 9223372036854775807) : zig x < 18446744073709551616 := by
  unfold zig
  split <;> omega

theorem zig_bits {x : Int} (h1 : -9223372036854775808 ≤ x) (h2 : x ≤ 9223372036854775807) :
    bits .xor .u64 (IntKind.u64.wrap (IntKind.i64.wrap (x * 2 ^ (1 : Int).toNat))) (IntKind.u64.wrap (x / 2 ^ (63 : Int).toNat)) = (zig x : Int) := by
  rw [wrap_u64_i64]
  have e1 : x * 2 ^ (1 : Int).toNat = 2 * x := by
    show x * 2 ^ 1 = _
    omega
  have e2 : x / 2 ^ (63 : Int).toNat = if x < 0 then -1 else 0 := by
    show x / 9223372036854775808 = _
    split <;> omega
  rw [e1, e2]
  unfold zig
  by_cases h : x < 0
  · rw [if_pos h, if_pos h, wrap_u64_neg (n := 2 * x) (by omega) (by omega), wrap_u64_neg (n := -1) (by omega) (by omega)]
    have e3 : 2 * x + 18446744073709551616 = ((2 * x + 18446744073709551616).toNat : Int) := by omega
    have e4 : (-1 : Int) + 18446744073709551616 = ((18446744073709551615 : Nat) : Int) := by omega
    rw [e3, e4, bits_xor_u64 _ _ (by omega) (by omega), xor_ones _ (by omega)]
    omega
  · rw [if_neg h, if_neg h, wrap_u64_in (n := 2 * x) (by omega) (by omega), wrap_u64_in (n := 0) (by omega) (by omega)]
    have e3 : 2 * x = ((2 * x).toNat : Int) := by omega
    have e4 : (0 : Int) = ((0 : Nat) : Int) := rfl
    rw [e3, e4, bits_xor_u64 _ _ (by omega) (by omega), Nat.xor_zero]
    omega
end Go.Proofs.YtdpnnclkkbfihaaDoor
