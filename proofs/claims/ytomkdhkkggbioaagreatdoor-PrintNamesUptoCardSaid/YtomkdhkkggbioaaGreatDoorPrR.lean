/-
  print.Var's pieces: a rune as a text; the numeral of a number; two numbers of one numeral are one.
-/
import Derived.Test.YtomkdhkkggbioaaGreatDoorPrS
import Derived.Test.YtomkdhkkggbioaaGreatDoorFr
namespace Go.Proofs.YtomkdhkkggbioaaGreatDoor
open Go
set_option linter.unusedSimpArgs false
set_option linter.unusedVariables false

theorem enc_ascii : ∀ a : Fin 128, Utf8.encode (a.val : Int) = ⟨#[UInt8.ofNat a.val]⟩ := by decide +kernel
section
variable {P : Program} {ρ : Operand → Value} {o : Oper} {w : World} {x : Operand} {t u : TypeId} {k : IntKind}
theorem r_runeStr {a : Nat} (ho : o.op = .convert t u x) (hx : ρ x = .int k (a : Int)) (ht : P.underlying t = some (.int k)) (hu : P.underlying u = some .string) (ha : a < 128) : (execOp ρ o).run P w = .ok (.value (Sv [UInt8.ofNat a])) w := by
  have h9 : Utf8.encode (a : Int) = ⟨#[UInt8.ofNat a]⟩ := enc_ascii ⟨a, ha⟩
  simp [execOp, ho, hx, convert, run_underlying ht, run_underlying hu, Conv.intToString, go_sem, h9, Sv]
end

/-- a variable's name -/
def varS (n : Int) : List UInt8 := if 1 ≤ n ∧ n ≤ 26 then [39, UInt8.ofNat (96 + n.toNat)] else 39 :: 116 :: Lib.itoa n
theorem decD_last (u : Nat) : (Lib.decDigits u).getLast? = some (UInt8.ofNat (48 + u % 10)) := by
  rw [Lib.decDigits]
  split
  · rename_i h
    rw [Nat.mod_eq_of_lt h]
    rfl
  · simp
theorem decD_small {u : Nat} (h : u < 10) : Lib.decDigits u = [UInt8.ofNat (48 + u)] := by rw [Lib.decDigits, dif_pos h]
theorem decD_big {u : Nat} (h : ¬ u < 10) : Lib.decDigits u = Lib.decDigits (u / 10) ++ [UInt8.ofNat (48 + u % 10)] := by rw [Lib.decDigits, dif_neg h]
theorem decD_inj : ∀ (u v : Nat), Lib.decDigits u = Lib.decDigits v → u = v := by
  intro u
  induction u using Nat.strongRecOn with
  | ind u ih =>
    intro v h
    have hl := congrArg List.getLast? h
    rw [decD_last, decD_last] at hl
    have h10 : u % 10 = v % 10 := by
      injection hl with hl
      have h9 := congrArg UInt8.toNat hl
      simp only [UInt8.toNat_ofNat'] at h9
      omega
    by_cases hu : u < 10 <;> by_cases hv : v < 10
    · omega
    · rw [decD_small hu, decD_big hv] at h
      have h9 := congrArg List.length h
      have h8 := Lib.nDigits_pos (v / 10)
      rw [List.length_append, Lib.decDigits_length] at h9
      simp only [List.length_cons, List.length_nil] at h9
      omega
    · rw [decD_big hu, decD_small hv] at h
      have h9 := congrArg List.length h
      have h8 := Lib.nDigits_pos (u / 10)
      rw [List.length_append, Lib.decDigits_length] at h9
      simp only [List.length_cons, List.length_nil] at h9
      omega
    · rw [decD_big hu, decD_big hv] at h
      have h9 := (List.append_inj' h rfl).1
      have := ih (u / 10) (by omega) (v / 10) h9
      omega
theorem decD_head (u : Nat) : ∃ c l, Lib.decDigits u = c :: l ∧ c ≠ 45 := by
  induction u using Nat.strongRecOn with
  | ind u ih =>
    rw [Lib.decDigits]
    split
    · rename_i h
      refine ⟨_, _, rfl, fun e => ?_⟩
      have h9 := congrArg UInt8.toNat e
      simp only [UInt8.toNat_ofNat'] at h9
      have : (45 : UInt8).toNat = 45 := rfl
      omega
    · obtain ⟨c, l, h1, h2⟩ := ih (u / 10) (by omega)
      exact ⟨c, l ++ _, by rw [h1]; rfl, h2⟩
theorem itoa_inj {a b : Int} (h : Lib.itoa a = Lib.itoa b) : a = b := by
  unfold Lib.itoa at h
  split at h <;> split at h
  · injection h with _ h
    have := decD_inj _ _ h
    omega
  · obtain ⟨c, l, h1, h2⟩ := decD_head b.toNat
    rw [h1] at h
    injection h with h _
    exact absurd h.symm h2
  · obtain ⟨c, l, h1, h2⟩ := decD_head a.toNat
    rw [h1] at h
    injection h with h _
    exact absurd h h2
  · have := decD_inj _ _ h
    omega
theorem varS_inj {a b : Int} (ha : 1 ≤ a) (hb : 1 ≤ b) : varS a = varS b ↔ a = b := by
  refine ⟨fun h => ?_, fun h => by rw [h]⟩
  unfold varS at h
  split at h <;> split at h
  · injection h with _ h
    injection h with h _
    have h9 := congrArg UInt8.toNat h
    simp only [UInt8.toNat_ofNat'] at h9
    omega
  · have h9 := congrArg List.length h
    obtain ⟨c, l, h1, h2⟩ := decD_head b.toNat
    simp only [List.length_cons, List.length_nil, Lib.itoa] at h9
    rw [if_neg (by omega), h1] at h9
    simp at h9
  · have h9 := congrArg List.length h
    obtain ⟨c, l, h1, h2⟩ := decD_head a.toNat
    simp only [List.length_cons, List.length_nil, Lib.itoa] at h9
    rw [if_neg (by omega), h1] at h9
    simp at h9
  · injection h with _ h
    injection h with _ h
    exact itoa_inj h
end Go.Proofs.YtomkdhkkggbioaaGreatDoor
