/-
  Whole numbers as float64: sums, differences and products that stay below 2^53 are exact. No program in sight.
-/
import Derived.Laws.ComplexArith
namespace Go.Proofs.YtomkdhkkggbioaaGreatDoor
open Go Ieee
set_option linter.unusedSimpArgs false
set_option linter.unusedVariables false

/-- the datum is the whole number a -/
def IsI (d : Datum) (a : Int) : Prop := ∃ (s : Bool) (m k : Nat), d = .number s m (-(k : Int)) ∧ m = a.natAbs * 2 ^ k ∧ (a ≠ 0 → s = decide (a < 0))

theorem signed_of {s : Bool} {m k u : Nat} {a : Int} (hm : m = a.natAbs * 2 ^ k) (hs : a ≠ 0 → s = decide (a < 0)) : signed s m u = a * 2 ^ (k + u) := by
  have h1 : ((m <<< u : Nat) : Int) = (a.natAbs : Int) * 2 ^ (k + u) := by
    rw [Nat.shiftLeft_eq, hm, Nat.mul_assoc, ← Nat.pow_add]
    push_cast
    rfl
  unfold signed
  rw [h1]
  by_cases h0 : a = 0
  · subst h0
    simp
  · have := hs h0
    subst this
    by_cases h : a < 0
    · rw [if_pos (by simpa using h)]
      have : (a.natAbs : Int) = -a := by omega
      rw [this, Int.neg_mul, Int.neg_neg]
    · rw [if_neg (by simpa using h)]
      have : (a.natAbs : Int) = a := by omega
      rw [this]

theorem pow_pos_int (k : Nat) : (0 : Int) < 2 ^ k := Int.pow_pos (by omega)

theorem sum_isI {d d' : Datum} {a b : Int} (h : IsI d a) (h' : IsI d' b) : ∃ r, d.sum d' = some r ∧ IsI r (a + b) := by
  obtain ⟨s, m, k, rfl, hm, hs⟩ := h
  obtain ⟨t, n, l, rfl, hn, ht⟩ := h'
  refine ⟨_, rfl, ?_⟩
  have hb : min (-(k : Int)) (-(l : Int)) = -((max k l : Nat) : Int) := by omega
  rw [hb]
  have e1 : (-(k : Int) - -((max k l : Nat) : Int)).toNat = max k l - k := by omega
  have e2 : (-(l : Int) - -((max k l : Nat) : Int)).toNat = max k l - l := by omega
  have f1 := signed_of (u := max k l - k) hm hs
  have f2 := signed_of (u := max k l - l) hn ht
  rw [show k + (max k l - k) = max k l by omega] at f1
  rw [show l + (max k l - l) = max k l by omega] at f2
  rw [e1, e2, f1, f2, ← Int.add_mul]
  generalize max k l = q
  have hp := pow_pos_int q
  refine ⟨_, _, q, rfl, ?_, fun hne => ?_⟩
  · rw [Int.natAbs_mul, Int.natAbs_pow]
    rfl
  · rw [if_neg (by
      intro h0
      rcases Int.mul_eq_zero.1 h0 with h1 | h1
      · exact hne h1
      · omega)]
    refine decide_eq_decide.2 ?_
    constructor
    · intro h1
      rcases Int.lt_or_le (a + b) 0 with h2 | h2
      · exact h2
      · have := Int.mul_nonneg h2 (Int.le_of_lt hp)
        omega
    · intro h1
      exact Int.mul_neg_of_neg_of_pos h1 hp

theorem product_isI {d d' : Datum} {a b : Int} (h : IsI d a) (h' : IsI d' b) : ∃ r, d.product d' = some r ∧ IsI r (a * b) := by
  obtain ⟨s, m, k, rfl, hm, hs⟩ := h
  obtain ⟨t, n, l, rfl, hn, ht⟩ := h'
  refine ⟨_, rfl, _, _, k + l, by rw [show (-(k : Int) + -(l : Int)) = -((k + l : Nat) : Int) by omega], ?_, fun hne => ?_⟩
  · rw [hm, hn, Int.natAbs_mul, Nat.pow_add]
    rw [Nat.mul_assoc, Nat.mul_left_comm (2 ^ k), ← Nat.mul_assoc]
  · have ha : a ≠ 0 := fun h => hne (by rw [h, Int.zero_mul])
    have hb : b ≠ 0 := fun h => hne (by rw [h, Int.mul_zero])
    rw [hs ha, ht hb]
    rcases Int.lt_or_le a 0 with h1 | h1 <;> rcases Int.lt_or_le b 0 with h2 | h2
    · have := Int.mul_pos_of_neg_of_neg h1 h2
      rw [decide_eq_true h1, decide_eq_true h2, decide_eq_false (by omega)]
      rfl
    · have := Int.mul_neg_of_neg_of_pos h1 (show 0 < b by omega)
      rw [decide_eq_true h1, decide_eq_false (by omega : ¬ b < 0), decide_eq_true this]
      rfl
    · have := Int.mul_neg_of_pos_of_neg (show 0 < a by omega) h2
      rw [decide_eq_false (by omega : ¬ a < 0), decide_eq_true h2, decide_eq_true this]
      rfl
    · have := Int.mul_nonneg h1 h2
      rw [decide_eq_false (by omega : ¬ a < 0), decide_eq_false (by omega : ¬ b < 0), decide_eq_false (by omega)]
      rfl

theorem opposite_isI {d : Datum} {a : Int} (h : IsI d a) : IsI d.opposite (-a) := by
  obtain ⟨s, m, k, rfl, hm, hs⟩ := h
  refine ⟨!s, m, k, rfl, by rw [Int.natAbs_neg]; exact hm, fun hne => ?_⟩
  have ha : a ≠ 0 := fun h => hne (by rw [h]; rfl)
  rw [hs ha]
  by_cases h : a < 0
  · rw [decide_eq_true h, decide_eq_false (by omega)]
    rfl
  · rw [decide_eq_false h, decide_eq_true (by omega)]
    rfl

theorem isI_zero (s : Bool) (k : Nat) : IsI (.number s 0 (-(k : Int))) 0 := ⟨s, 0, k, rfl, by simp, fun h => absurd rfl h⟩

theorem cut_zero (s : Bool) (n : Nat) : Toward.even.cut s n 0 = n := by
  simp [Toward.cut, Nat.mod_one]

theorem cut_pow (s : Bool) (way : Toward) {K q : Nat} (hK : K ≠ 0) (hw : way = .even ∨ way = .zero) : way.cut s (K * 2 ^ q) q = K := by
  have hp : 0 < 2 ^ q := Nat.pow_pos (by omega)
  have hlog : q ≤ (K * 2 ^ q).log2 := by
    have hne : K * 2 ^ q ≠ 0 := Nat.mul_ne_zero hK (by omega)
    rw [Nat.le_log2 hne]
    exact Nat.le_mul_of_pos_left _ (by omega)
  have hmin : min q ((K * 2 ^ q).log2 + 2) = q := by omega
  unfold Toward.cut
  rw [hmin, Nat.shiftLeft_eq, Nat.one_mul]
  have h1 : K * 2 ^ q / 2 ^ q = K := Nat.mul_div_cancel _ hp
  have h2 : K * 2 ^ q % 2 ^ q = 0 := Nat.mul_mod_left _ _
  rcases hw with rfl | rfl
  · simp [h1, h2]
  · simp [h1, h2]

theorem read_word {s : Bool} {E K : Nat} (h1 : 4503599627370496 ≤ K) (h2 : K < 9007199254740992) (h3 : E ≤ 1100) :
    double.read (double.word s (min (E * double.binade + K) double.infRung)) = .number s K (-1074 + (E : Int)) := by
  have hb : double.binade = 4503599627370496 := by decide
  have hi : double.infRung = 9218868437227405312 := by decide
  have hw : double.signWeight = 9223372036854775808 := by decide
  have hl : double.leastPlace = -1074 := by decide
  rw [hb, hi]
  have hmin : min (E * 4503599627370496 + K) 9218868437227405312 = E * 4503599627370496 + K := by omega
  rw [hmin]
  unfold Format.read Format.word
  rw [hb, hi, hw, hl]
  cases s
  · simp only [Bool.false_eq_true, if_false]
    rw [show (E * 4503599627370496 + K) % 9223372036854775808 = E * 4503599627370496 + K by omega, if_neg (by omega), if_pos (by omega), show ((E * 4503599627370496 + K) / 9223372036854775808 % 2 == 1) = false by rw [beq_eq_false_iff_ne]; omega,
      show 4503599627370496 + (E * 4503599627370496 + K) % 4503599627370496 = K by omega, show (E * 4503599627370496 + K) / 4503599627370496 - 1 = E by omega]
  · simp only [if_true]
    rw [show (9223372036854775808 + (E * 4503599627370496 + K)) % 9223372036854775808 = E * 4503599627370496 + K by omega, if_neg (by omega), if_pos (by omega), show ((9223372036854775808 + (E * 4503599627370496 + K)) / 9223372036854775808 % 2 == 1) = true by rw [beq_iff_eq]; omega,
      show 4503599627370496 + (E * 4503599627370496 + K) % 4503599627370496 = K by omega, show (E * 4503599627370496 + K) / 4503599627370496 - 1 = E by omega]

theorem read_write {d : Datum} {a : Int} (h : IsI d a) (hb : a.natAbs < 9007199254740992) : IsI (double.read (double.write d)) a := by
  obtain ⟨s, m, k, rfl, hm, hs⟩ := h
  show IsI (double.read (double.nearest s m (-(k : Int)))) a
  by_cases h0 : a = 0
  · subst h0
    have hm0 : m = 0 := by simpa using hm
    subst hm0
    unfold Format.nearest
    rw [if_pos rfl]
    have h1 : ∀ s : Bool, double.read (double.word s 0) = .number s 0 (-((1074 : Nat) : Int)) := by decide
    rw [h1]
    exact isI_zero s 1074
  · have hN : a.natAbs ≠ 0 := by omega
    generalize hNN : a.natAbs = N at hm hb hN
    obtain ⟨L, hL⟩ : ∃ L, L = N.log2 := ⟨_, rfl⟩
    have hlo : 2 ^ L ≤ N := by rw [hL]; exact Nat.log2_self_le hN
    have hhi : N < 2 ^ (L + 1) := by rw [hL]; exact Nat.lt_log2_self
    have hL52 : L ≤ 52 := by
      rcases Nat.lt_or_ge 52 L with h1 | h1
      · have : 2 ^ 53 ≤ 2 ^ L := Nat.pow_le_pow_right (by omega) h1
        have h53 : (2 : Nat) ^ 53 = 9007199254740992 := by decide
        omega
      · exact h1
    have hmne : m ≠ 0 := by rw [hm]; exact Nat.mul_ne_zero hN (by have := Nat.two_pow_pos k; omega)
    have hlog : m.log2 = L + k := by
      rw [Nat.log2_eq_iff hmne, hm]
      constructor
      · rw [Nat.pow_add]; exact Nat.mul_le_mul_right _ hlo
      · rw [show L + k + 1 = (L + 1) + k by omega, Nat.pow_add _ (L + 1)]
        exact Nat.mul_lt_mul_of_pos_right hhi (Nat.two_pow_pos k)
    unfold Format.nearest
    rw [if_neg hmne]
    have hfb : ((double.fractionBits : Nat) : Int) = 52 := rfl
    have hlp : double.leastPlace = -1074 := by decide
    have hlast : max (-(k : Int) + (m.log2 : Int) - (double.fractionBits : Int)) double.leastPlace = (L : Int) - 52 := by
      rw [hlog, hfb, hlp]
      omega
    simp only [hlast]
    have hkept : Toward.even.cut s (m <<< (-(k : Int) - ((L : Int) - 52)).toNat) (((L : Int) - 52) - -(k : Int)).toNat = N * 2 ^ (52 - L) := by
      rcases Nat.le_total k (52 - L) with h1 | h1
      · rw [show (((L : Int) - 52) - -(k : Int)).toNat = 0 by omega, cut_zero, show (-(k : Int) - ((L : Int) - 52)).toNat = 52 - L - k by omega, Nat.shiftLeft_eq, hm, Nat.mul_assoc, ← Nat.pow_add, show k + (52 - L - k) = 52 - L by omega]
      · rw [show (-(k : Int) - ((L : Int) - 52)).toNat = 0 by omega, Nat.shiftLeft_zero, show (((L : Int) - 52) - -(k : Int)).toNat = k - (52 - L) by omega]
        have : m = N * 2 ^ (52 - L) * 2 ^ (k - (52 - L)) := by rw [hm, Nat.mul_assoc, ← Nat.pow_add, show 52 - L + (k - (52 - L)) = k by omega]
        rw [this]
        exact cut_pow s .even (Nat.mul_ne_zero hN (by have := Nat.two_pow_pos (52 - L); omega)) (.inl rfl)
    have hK1 : 4503599627370496 ≤ N * 2 ^ (52 - L) := by
      have h1 : 2 ^ L * 2 ^ (52 - L) ≤ N * 2 ^ (52 - L) := Nat.mul_le_mul_right _ hlo
      rw [← Nat.pow_add, show L + (52 - L) = 52 by omega] at h1
      exact h1
    have hK2 : N * 2 ^ (52 - L) < 9007199254740992 := by
      have h1 : N * 2 ^ (52 - L) < 2 ^ (L + 1) * 2 ^ (52 - L) := Nat.mul_lt_mul_of_pos_right hhi (Nat.two_pow_pos _)
      rw [← Nat.pow_add, show L + 1 + (52 - L) = 53 by omega] at h1
      exact h1
    rw [hkept, hlp, show ((L : Int) - 52 - -1074).toNat = L + 1022 by omega, read_word hK1 hK2 (by omega)]
    refine ⟨s, _, 52 - L, by rw [show (-1074 : Int) + ((L + 1022 : Nat) : Int) = -((52 - L : Nat) : Int) by omega], by rw [hNN], hs⟩

/-- the bits are those of the whole number a -/
def FI (b : Nat) (a : Int) : Prop := IsI (double.read b) a

theorem add_FI {x y : Nat} {a b : Int} (hx : FI x a) (hy : FI y b) (h : (a + b).natAbs < 9007199254740992) : ∃ r, floatBits .add .f64 x y = some r ∧ FI r (a + b) := by
  obtain ⟨d, h1, h2⟩ := sum_isI hx hy
  refine ⟨double.write d, ?_, read_write h2 h⟩
  show ((double.read x).sum (double.read y)).map double.write = _
  rw [h1]
  rfl
theorem sub_FI {x y : Nat} {a b : Int} (hx : FI x a) (hy : FI y b) (h : (a - b).natAbs < 9007199254740992) : ∃ r, floatBits .sub .f64 x y = some r ∧ FI r (a - b) := by
  obtain ⟨d, h1, h2⟩ := sum_isI hx (opposite_isI hy)
  rw [← Int.sub_eq_add_neg] at h2
  refine ⟨double.write d, ?_, read_write h2 h⟩
  show ((double.read x).sum (double.read y).opposite).map double.write = _
  rw [h1]
  rfl
theorem mul_FI {x y : Nat} {a b : Int} (hx : FI x a) (hy : FI y b) (h : (a * b).natAbs < 9007199254740992) : ∃ r, floatBits .mul .f64 x y = some r ∧ FI r (a * b) := by
  obtain ⟨d, h1, h2⟩ := product_isI hx hy
  refine ⟨double.write d, ?_, read_write h2 h⟩
  show ((double.read x).product (double.read y)).map double.write = _
  rw [h1]
  rfl
theorem ofInt_FI {a : Int} (h : a.natAbs < 9007199254740992) : FI (floatOfInt .f64 a) a := by
  have h1 : IsI (.number (decide (a < 0)) a.natAbs 0) a := ⟨_, _, 0, rfl, by simp, fun _ => rfl⟩
  exact read_write h1 h
theorem toInt_FI {b : Nat} {a : Int} (h : FI b a) : (double.read b).toInt .zero = some a := by
  obtain ⟨s, m, k, hd, hm, hs⟩ := h
  rw [hd]
  have h1 := signed_of (u := 0) hm hs
  simp only [Datum.toInt, Datum.integral]
  have e1 : (-(k : Int)).toNat = 0 := by omega
  have e2 : (- -(k : Int)).toNat = k := by omega
  rw [e1, e2, Nat.shiftLeft_zero]
  have hcut : Toward.zero.cut s m k = a.natAbs := by
    by_cases h0 : a = 0
    · subst h0
      have hm0 : m = 0 := by simpa using hm
      subst hm0
      simp [Toward.cut]
    · rw [hm]
      exact cut_pow s .zero (by omega) (.inr rfl)
  rw [hcut]
  have := signed_of (s := s) (m := a.natAbs) (k := 0) (u := 0) (a := a) (by simp) hs
  rw [this]
  simp
theorem zero_FI : FI 0 0 := by
  have h1 : double.read 0 = .number false 0 (-((1074 : Nat) : Int)) := by decide
  show IsI (double.read 0) 0
  rw [h1]
  exact isI_zero false 1074
theorem one_FI : FI 4607182418800017408 1 := ⟨false, 4503599627370496, 52, by decide, by decide, fun _ => by decide⟩

/-- a product of complex numbers of whole parts -/
theorem cMul_FI {x y u v : Nat} {a b c d : Int} (hx : FI x a) (hy : FI y b) (hu : FI u c) (hv : FI v d)
    (h1 : (a * c).natAbs < 9007199254740992) (h2 : (b * d).natAbs < 9007199254740992) (h3 : (a * c - b * d).natAbs < 9007199254740992)
    (h4 : (a * d).natAbs < 9007199254740992) (h5 : (b * c).natAbs < 9007199254740992) (h6 : (a * d + b * c).natAbs < 9007199254740992) :
    ∃ re im, cMulBits x y u v = some (re, im) ∧ FI re (a * c - b * d) ∧ FI im (a * d + b * c) := by
  obtain ⟨r1, e1, f1⟩ := mul_FI hx hu h1
  obtain ⟨r2, e2, f2⟩ := mul_FI hy hv h2
  obtain ⟨r3, e3, f3⟩ := sub_FI f1 f2 h3
  obtain ⟨r4, e4, f4⟩ := mul_FI hx hv h4
  obtain ⟨r5, e5, f5⟩ := mul_FI hy hu h5
  obtain ⟨r6, e6, f6⟩ := add_FI f4 f5 h6
  refine ⟨r3, r6, ?_, f3, f6⟩
  simp [cMulBits, e1, e2, e3, e4, e5, e6]
theorem cSum_FI {x y u v : Nat} {a b c d : Int} (hx : FI x a) (hy : FI y b) (hu : FI u c) (hv : FI v d)
    (h1 : (a + c).natAbs < 9007199254740992) (h2 : (b + d).natAbs < 9007199254740992) :
    ∃ re im, cSumBits .add .f64 x y u v = some (re, im) ∧ FI re (a + c) ∧ FI im (b + d) := by
  obtain ⟨r1, e1, f1⟩ := add_FI hx hu h1
  obtain ⟨r2, e2, f2⟩ := add_FI hy hv h2
  exact ⟨r1, r2, by simp [cSumBits, e1, e2], f1, f2⟩
end Go.Proofs.YtomkdhkkggbioaaGreatDoor
