/-
  CRC-32C finds every burst of up to 32 bits: no program in sight.
-/
import Derived.Test.YtjiafgnibhgfbaaRefP
namespace Go.Proofs.Ytjiafgnibhgfbaa
open Go
set_option linter.unusedSimpArgs false
set_option linter.unusedVariables false

theorem add_xor (n a z : Nat) (h : a < 2 ^ n) : a + 2 ^ n * z = a ^^^ (2 ^ n * z) := by
  apply Nat.eq_of_testBit_eq
  intro j
  rw [Nat.add_comm, Nat.testBit_two_pow_mul_add z h, Nat.testBit_xor, Nat.testBit_two_pow_mul]
  by_cases hj : j < n
  · rw [if_pos hj, decide_eq_false (by omega : ¬ n ≤ j)]
    simp
  · rw [if_neg hj, decide_eq_true (by omega : n ≤ j)]
    have h1 : a.testBit j = false := Nat.testBit_lt_two_pow (Nat.lt_of_lt_of_le h (Nat.pow_le_pow_right (by omega) (by omega)))
    simp [h1]

theorem mul_xor (n a b : Nat) : 2 ^ n * (a ^^^ b) = (2 ^ n * a) ^^^ (2 ^ n * b) := by
  apply Nat.eq_of_testBit_eq
  intro j
  rw [Nat.testBit_xor, Nat.testBit_two_pow_mul, Nat.testBit_two_pow_mul, Nat.testBit_two_pow_mul, Nat.testBit_xor]
  by_cases hj : n ≤ j
  · simp [hj]
  · simp [hj]

/-- the lowest byte first -/
def leN : List UInt8 → Nat
  | [] => 0
  | b :: r => b.toNat + 2 ^ 8 * leN r

theorem leN_inj : ∀ {l m : List UInt8}, l.length = m.length → leN l = leN m → l = m
  | [], [], _, _ => rfl
  | a :: l, b :: m, h, e => by
    simp only [leN] at e
    have ha := a.toNat_lt
    have hb := b.toNat_lt
    have h1 : a.toNat = b.toNat := by omega
    have h2 : leN l = leN m := by omega
    rw [leN_inj (by simpa using h) h2, UInt8.toNat_inj.1 h1]

theorem leN_set : ∀ {l : List UInt8} {j r : Nat} {b : UInt8}, j < l.length → r < 8 → l[j]? = some b → leN (l.set j (UInt8.ofNat (b.toNat ^^^ 2 ^ r))) = leN l ^^^ 2 ^ (8 * j + r)
  | a :: l, 0, r, b, _, hr, hb => by
    simp only [List.getElem?_cons_zero, Option.some.injEq] at hb
    subst hb
    have ha := a.toNat_lt
    have hr2 : 2 ^ r < 2 ^ 8 := Nat.pow_lt_pow_right (by omega) hr
    have hx : a.toNat ^^^ 2 ^ r < 2 ^ 8 := Nat.xor_lt_two_pow ha hr2
    simp only [List.set_cons_zero, leN, UInt8.toNat_ofNat', Nat.mul_zero, Nat.zero_add]
    rw [Nat.mod_eq_of_lt hx, add_xor 8 _ _ hx, add_xor 8 _ _ ha, Nat.xor_assoc, Nat.xor_comm (2 ^ r), ← Nat.xor_assoc]
  | a :: l, j + 1, r, b, hj, hr, hb => by
    have ha := a.toNat_lt
    simp only [List.set_cons_succ, leN]
    rw [leN_set (by simpa using hj) hr (by simpa using hb), add_xor 8 _ _ ha, add_xor 8 _ _ ha, mul_xor, Nat.xor_assoc, show 8 * (j + 1) + r = 8 + (8 * j + r) by omega, Nat.pow_add 2 8]

theorem stepC_zero : stepC 0 = 0 := rfl
theorem stepC_xor (x y : Nat) : stepC (x ^^^ y) = stepC x ^^^ stepC y := by
  unfold stepC
  rw [xor_half]
  have h2 := Nat.xor_mod_two_eq_one (a := x) (b := y)
  rcases Nat.mod_two_eq_zero_or_one x with h | h <;> rcases Nat.mod_two_eq_zero_or_one y with h' | h'
  · rw [if_neg (by omega : ¬ x % 2 = 1), if_neg (by omega : ¬ y % 2 = 1), if_neg (by omega)]
    simp
  · rw [if_neg (by omega : ¬ x % 2 = 1), if_pos h', if_pos (by omega)]
    simp [Nat.xor_assoc]
  · rw [if_pos h, if_neg (by omega : ¬ y % 2 = 1), if_pos (by omega)]
    rw [Nat.xor_zero, Nat.xor_assoc, Nat.xor_assoc, Nat.xor_comm (y / 2)]
  · rw [if_pos h, if_pos h', if_neg (by omega)]
    rw [Nat.xor_zero, Nat.xor_assoc, ← Nat.xor_assoc 2197175160, Nat.xor_comm 2197175160, Nat.xor_assoc (y / 2), Nat.xor_self, Nat.xor_zero]
theorem stepN_xor (x y : Nat) : ∀ j, stepN j (x ^^^ y) = stepN j x ^^^ stepN j y
  | 0 => rfl
  | j + 1 => by rw [stepN, stepN_xor x y j, stepC_xor]; rfl
theorem stepN_zero : ∀ j, stepN j 0 = 0
  | 0 => rfl
  | j + 1 => by rw [stepN, stepN_zero j]; rfl
theorem stepN_add (a x : Nat) : ∀ b, stepN (b + a) x = stepN b (stepN a x)
  | 0 => by rw [Nat.zero_add]; rfl
  | b + 1 => by rw [show b + 1 + a = (b + a) + 1 by omega, stepN, stepN_add a x b]; rfl
theorem stepC_two (z : Nat) : stepC (2 * z) = z := by
  unfold stepC
  rw [if_neg (by omega), Nat.xor_zero]
  omega
theorem stepN_pow (q : Nat) : ∀ k, stepN k (2 ^ k * q) = q
  | 0 => by simp [stepN]
  | k + 1 => by
    have h : 2 ^ (k + 1) * q = 2 ^ k * (2 * q) := by rw [Nat.pow_succ, Nat.mul_assoc]
    rw [stepN, h, stepN_pow (2 * q) k, stepC_two]
theorem stepC_ne {q : Nat} (h : q < 4294967296) (h0 : q ≠ 0) : stepC q ≠ 0 := by
  unfold stepC
  split
  · intro he
    have h1 : q / 2 = 2197175160 := by
      have := congrArg (· ^^^ 2197175160) he
      simpa [Nat.xor_assoc] using this
    omega
  · rw [Nat.xor_zero]
    omega
theorem stepN_ne {q : Nat} (h : q < 4294967296) (h0 : q ≠ 0) : ∀ j, stepN j q ≠ 0
  | 0 => h0
  | j + 1 => stepC_ne (stepN_lt j h) (stepN_ne h h0 j)

theorem foldl_crcB : ∀ (s : List UInt8) (c : Nat), s.foldl crcB c = stepN (8 * s.length) (c ^^^ leN s)
  | [], c => by simp [leN, stepN]
  | b :: r, c => by
    have hb := b.toNat_lt
    rw [List.foldl_cons, foldl_crcB r, List.length_cons, show 8 * (r.length + 1) = 8 * r.length + 8 by omega, stepN_add, leN, add_xor 8 _ _ hb, ← Nat.xor_assoc, stepN_xor _ (2 ^ 8 * leN r), stepN_pow]
    rfl

theorem byteAt_toNat (n i : Nat) : (byteAt n i).toNat = n / 256 ^ i % 256 := by
  unfold byteAt
  rw [UInt8.toNat_ofNat']
  omega

/-- the sum's bytes behind the bytes: what is left over -/
theorem left_over (l : List UInt8) (t : List UInt8) (h : leN t = crc l) (ht : t.length = 4) : (l ++ t).foldl crcB 4294967295 = stepN 32 4294967295 := by
  rw [List.foldl_append, foldl_crcB t, h, ht]
  show stepN 32 (crcR l ^^^ (crcR l ^^^ 4294967295)) = _
  rw [← Nat.xor_assoc, Nat.xor_self, Nat.zero_xor]

/-- TWO STRINGS OF ONE LENGTH WHOSE SUMS STAND, AND WHICH DIFFER IN 32 BITS AT MOST, ARE ONE. -/
theorem burst {s s' : List UInt8} {q k : Nat} (hl : s'.length = s.length) (h : s.foldl crcB 4294967295 = stepN 32 4294967295) (h' : s'.foldl crcB 4294967295 = stepN 32 4294967295)
    (hq : q < 4294967296) (hk : k ≤ 8 * s.length) (he : leN s' = leN s ^^^ (2 ^ k * q)) : s' = s := by
  rw [foldl_crcB] at h h'
  rw [hl, he, ← Nat.xor_assoc, stepN_xor _ (2 ^ k * q), h] at h'
  have h1 : stepN (8 * s.length) (2 ^ k * q) = 0 := by
    have := congrArg (stepN 32 4294967295 ^^^ ·) h'
    simpa [← Nat.xor_assoc] using this
  rw [show 8 * s.length = (8 * s.length - k) + k by omega, stepN_add, stepN_pow] at h1
  have h2 : q = 0 := by
    rcases Nat.eq_zero_or_pos q with h3 | h3
    · exact h3
    · exact absurd h1 (stepN_ne hq (by omega) _)
  refine leN_inj hl ?_
  rw [he, h2, Nat.mul_zero, Nat.xor_zero]

theorem mod_flip {p i k : Nat} (h : p / 2 ^ i % 2 = 1) : 2 ^ k * (p % 2 ^ (i + 1)) = (2 ^ k * (p % 2 ^ i)) ^^^ 2 ^ (k + i) := by
  have h1 : p % 2 ^ (i + 1) = p % 2 ^ i + 2 ^ i * 1 := by rw [Nat.mod_pow_succ, h]
  rw [h1, add_xor i _ _ (Nat.mod_lt _ (Nat.pow_pos (by omega))), mul_xor, Nat.mul_one, Nat.pow_add]
theorem mod_keep {p i k : Nat} (h : ¬ p / 2 ^ i % 2 = 1) : 2 ^ k * (p % 2 ^ (i + 1)) = 2 ^ k * (p % 2 ^ i) := by
  have h1 : p % 2 ^ (i + 1) = p % 2 ^ i := by rw [Nat.mod_pow_succ, show p / 2 ^ i % 2 = 0 by omega, Nat.mul_zero, Nat.add_zero]
  rw [h1]

theorem leN_le4 {c : Nat} (h : c < 4294967296) : leN [byteAt c 0, byteAt c 1, byteAt c 2, byteAt c 3] = c := by
  simp only [leN, byteAt_toNat]
  simp only [show (256 : Nat) ^ 0 = 1 from rfl, show (256 : Nat) ^ 1 = 256 from rfl, show (256 : Nat) ^ 2 = 65536 from rfl, show (256 : Nat) ^ 3 = 16777216 from rfl, show (2 : Nat) ^ 8 = 256 from rfl]
  omega

theorem and1_bits {p i : Nat} (hp : p < 4294967296) : bits .and .u32 ((p : Int) / 2 ^ ((i : Int)).toNat) 1 = ((p / 2 ^ i % 2 : Nat) : Int) := by
  have e : (p : Int) / 2 ^ ((i : Int)).toNat = ((p / 2 ^ i : Nat) : Int) := by
    rw [Int.toNat_natCast]
    exact_mod_cast rfl
  have hk : p / 2 ^ i ≤ p := Nat.div_le_self _ _
  rw [e]
  generalize p / 2 ^ i = z at hk ⊢
  rw [show (1 : Int) = ((1 : Nat) : Int) from rfl, bits_and_u32 _ _ (by omega) (by omega), Nat.and_one_is_mod]

theorem bits_xor_u8 (a b : Nat) (ha : a < 256) (hb : b < 256) : bits .xor .u8 (a : Int) (b : Int) = ((a ^^^ b : Nat) : Int) := by
  have h1 : a ^^^ b < 2 ^ 8 := Nat.xor_lt_two_pow (n := 8) ha hb
  show IntKind.u8.wrap (((BitVec.ofInt 8 (a : Int) ^^^ BitVec.ofInt 8 (b : Int) : BitVec 8).toNat : Nat) : Int) = _
  rw [BitVec.ofInt_natCast, BitVec.ofInt_natCast, BitVec.toNat_xor, BitVec.toNat_ofNat, BitVec.toNat_ofNat, Nat.mod_eq_of_lt (by simpa using ha), Nat.mod_eq_of_lt (by simpa using hb)]
  simp only [IntKind.wrap, IntKind.signed, IntKind.bits, Bool.false_and, Bool.false_eq_true, if_false]
  omega

theorem flip_bits {b : UInt8} {m : Nat} : bits .xor .u8 (b.toNat : Int) (IntKind.u8.wrap (1 * 2 ^ ((m : Int) % 8).toNat)) = ((b.toNat ^^^ 2 ^ (m % 8) : Nat) : Int) := by
  have hb := b.toNat_lt
  have h1 : ((m : Int) % 8).toNat = m % 8 := by omega
  have h2 : 2 ^ (m % 8) < 256 := Nat.pow_lt_pow_right (m := m % 8) (n := 8) (by omega) (by omega)
  have h3 : (1 : Int) * 2 ^ (m % 8) = ((2 ^ (m % 8) : Nat) : Int) := by rw [Int.one_mul]; exact_mod_cast rfl
  rw [h1, h3]
  generalize 2 ^ (m % 8) = z at h2 ⊢
  have h4 : IntKind.u8.wrap (z : Int) = (z : Int) := by
    simp only [IntKind.wrap, IntKind.signed, IntKind.bits, Bool.false_and, Bool.false_eq_true, if_false]
    omega
  rw [h4, bits_xor_u8 _ _ (by omega) h2]

theorem U8_ofNat {z : Nat} (h : z < 256) : Value.int .u8 (z : Int) = U8 (UInt8.ofNat z) := by
  unfold U8
  congr 1
  rw [UInt8.toNat_ofNat']
  omega
theorem flip_row {cur : Array Value} {t : List UInt8} {n j r : Nat} {b : UInt8} (h : cur.toList.take (n * 1) = t.map U8) (hr : r < 8) :
    (cur.setIfInBounds j (.int .u8 ((b.toNat ^^^ 2 ^ r : Nat) : Int))).toList.take (n * 1) = (t.set j (UInt8.ofNat (b.toNat ^^^ 2 ^ r))).map U8 := by
  have hb := b.toNat_lt
  have hr2 : 2 ^ r < 2 ^ 8 := Nat.pow_lt_pow_right (by omega) hr
  rw [U8_ofNat (Nat.xor_lt_two_pow (n := 8) hb hr2), Array.toList_setIfInBounds, List.take_set, h, List.map_set]
end Go.Proofs.Ytjiafgnibhgfbaa
