/-
  Types as they may come in: small ones; their texts, in plain Lean.
-/
import Derived.Test.YtomkdhkkggbioaaGreatDoorPrR
namespace Go.Proofs.YtomkdhkkggbioaaGreatDoor
open Go
set_option linter.unusedSimpArgs false
set_option linter.unusedVariables false

inductive Tr where
  | mk (n : List UInt8) (v : Int) (ks : List Tr)
inductive TR (w : World) (F : Nat → Prop) : List Value → Tr → Prop
  | mk {n : List UInt8} {v : Int} {ks : List Tr} {kv : Value} {xs : List (List Value)} : Rd w F kv ks.length 3 (xs.flatMap id) → xs.length = ks.length → inK .i64 v → n.length ≤ 1048576 → (∀ (i : Nat) c k, xs[i]? = some c → ks[i]? = some k → TR w F c k) → TR w F [Sv n, .int .i64 v, kv] (.mk n v ks)
theorem TR.upd {w w' : World} {F : Nat → Prop} {c : List Value} {t : Tr} (h : TR w F c t) (hu : Upd No w w') : TR w' F c t := by
  induction h with
  | mk hr hl hv hn hk ih => exact .mk (hr.upd hu (fun _ _ _ h => h)) hl hv hn fun i c k hc hk' => ih i c k hc hk'
theorem TR.len {w : World} {F : Nat → Prop} {c : List Value} {t : Tr} (h : TR w F c t) : c.length = 3 := by cases h; rfl
theorem TR.one {w : World} {F : Nat → Prop} {c : List Value} {t : Tr} (h : TR w F c t) : c.all Value.oneCell' = true := by
  cases h with
  | mk hr _ _ _ _ =>
    obtain ⟨A, c, rfl, _⟩ := hr.slice_form
    rfl

/-- small: levels left, the type -/
def okN (n : List UInt8) (k : Nat) : Bool := decide (k ≤ 6 ∧ ¬ (n = [] ∧ 0 < k) ∧ ¬ (n = [45, 62] ∧ k ≠ 2) ∧ ¬ (n = [42] ∧ k < 2))
def smallF : Nat → Tr → Bool
  | 0, _ => false
  | f + 1, .mk n v ks => okN n ks.length && ks.all (smallF f)
def brk (b : Bool) (s : List UInt8) : List UInt8 := if b = true then [40] ++ s ++ [41] else s
theorem brk_len (b : Bool) (s : List UInt8) : (brk b s).length ≤ s.length + 2 := by unfold brk; split <;> simp
/-- the text of a type, within what stands about it -/
def typS : Nat → Tr → Int → List UInt8
  | 0, _, _ => []
  | f + 1, .mk n v ks, a =>
    if n = [] then varS v
    else if n = [45, 62] then match ks with
      | [k0, k1] => brk (decide (0 < a)) (typS f k0 1 ++ [32, 45, 62, 32] ++ typS f k1 0)
      | _ => []
    else if n = [42] then brk (decide (1 < a)) (Lib.join (ks.map fun k => typS f k 2) [32, 42, 32])
    else match ks with
      | [] => n
      | [k0] => typS f k0 2 ++ [32] ++ n
      | _ => [40] ++ Lib.join (ks.map fun k => typS f k 0) [44, 32] ++ [41, 32] ++ n
theorem join_len (L : Nat) (sep : List UInt8) : ∀ xs : List (List UInt8), (∀ x ∈ xs, x.length ≤ L) → (Lib.join xs sep).length ≤ xs.length * (L + sep.length)
  | [], _ => by simp [Lib.join, List.intercalate]
  | [x], h => by
    have := h x (by simp)
    simp [Lib.join, List.intercalate]
    omega
  | x :: y :: r, h => by
    have h1 := h x (by simp)
    have h2 := join_len L sep (y :: r) (fun z hz => h z (by simp [hz]))
    have e : Lib.join (x :: y :: r) sep = x ++ sep ++ Lib.join (y :: r) sep := by simp [Lib.join, List.intercalate]
    rw [e, List.length_append, List.length_append, List.length_cons, Nat.add_mul, Nat.one_mul]
    omega
def bnT : Nat → Nat
  | 0 => 23
  | f + 1 => 6 * bnT f + 1048700
theorem varS_len9 {n : Int} (hn : inK .i64 n) : (varS n).length ≤ 100 := by
  have hd : ∀ u : Nat, u < 100000000000000000000 → (Lib.decDigits u).length ≤ 20 := by
    intro u h
    rw [Lib.decDigits_length]
    rcases Nat.lt_or_ge 20 (Lib.nDigits u) with h9 | h9
    · exfalso
      have h8 : ∀ (k v : Nat), k < Lib.nDigits v → 10 ^ k ≤ v ∨ k = 0 := by
        intro k
        induction k with
        | zero => intro v _; exact .inr rfl
        | succ k ih =>
          intro v hv
          by_cases h10 : v < 10
          · rw [Lib.nDigits_small h10] at hv; omega
          · rw [Lib.nDigits_big h10] at hv
            rcases ih (v / 10) (by omega) with h7 | h7
            · left; rw [Nat.pow_succ]; omega
            · subst h7; left; rw [Nat.pow_succ, Nat.pow_zero]; omega
      rcases h8 20 u h9 with h7 | h7
      · rw [show (10 : Nat) ^ 20 = 100000000000000000000 by decide] at h7; omega
      · cases h7
    · exact h9
  simp only [inK] at hn
  unfold varS
  split
  · simp
  · simp only [List.length_cons]
    unfold Lib.itoa
    split
    · rw [List.length_cons]
      have := hd n.natAbs (by omega)
      omega
    · have := hd n.toNat (by omega)
      omega
theorem typS_len {w : World} {F : Nat → Prop} : ∀ (f : Nat) (t : Tr) (c : List Value) (a : Int), smallF f t = true → TR w F c t → (typS f t a).length ≤ bnT f
  | 0, t, c, a, h, _ => by simp [smallF] at h
  | f + 1, .mk n v ks, c, a, h, ht => by
    simp only [smallF, Bool.and_eq_true, List.all_eq_true, okN, decide_eq_true_eq] at h
    obtain ⟨⟨hk6, hk0, hk1, hk2⟩, hall⟩ := h
    cases ht with
    | mk hr hl hv hn hk =>
      rename_i xs
      have each : ∀ (b : Int) k, k ∈ ks → (typS f k b).length ≤ bnT f := fun b k hm => by
        obtain ⟨i, hi, rfl⟩ := List.getElem_of_mem hm
        exact typS_len f _ (xs[i]'(by omega)) b (hall _ hm) (hk i _ _ (List.getElem?_eq_getElem (by omega)) (List.getElem?_eq_getElem hi))
      have hj : ∀ (b : Int) (sep : List UInt8), sep.length ≤ 3 → (Lib.join (ks.map fun k => typS f k b) sep).length ≤ 6 * bnT f + 18 := fun b sep hs => by
        have h1 := join_len (bnT f) sep (ks.map fun k => typS f k b) (fun x hx => by obtain ⟨k, hk', rfl⟩ := List.mem_map.1 hx; exact each b k hk')
        rw [List.length_map] at h1
        have h2 : ks.length * (bnT f + sep.length) ≤ 6 * (bnT f + 3) := Nat.mul_le_mul hk6 (by omega)
        omega
      simp only [typS, bnT]
      split
      · have := varS_len9 hv; omega
      · split
        · split
          · have h1 := each 1 _ (List.mem_cons_self ..)
            have h2 := each 0 _ (List.mem_cons_of_mem _ (List.mem_cons_self ..))
            refine Nat.le_trans (brk_len _ _) ?_
            simp only [List.length_append, List.length_cons, List.length_nil]
            omega
          · simp
        · split
          · refine Nat.le_trans (brk_len _ _) ?_
            have := hj 2 [32, 42, 32] (by decide)
            omega
          · split
            · omega
            · have h1 := each 2 _ (List.mem_cons_self ..)
              simp only [List.length_append, List.length_cons, List.length_nil]
              omega
            · have := hj 0 [44, 32] (by decide)
              simp only [List.length_append, List.length_cons, List.length_nil]
              omega
theorem bnT_le {f : Nat} (h : f ≤ 9) : bnT f ≤ 13000000000000 := by
  have : ∀ f : Fin 10, bnT f.val ≤ 13000000000000 := by decide
  exact this ⟨f, by omega⟩
end Go.Proofs.YtomkdhkkggbioaaGreatDoor
