/-
  octet.Seal, octet.Open.
-/
import Derived.Test.YtipabhbnljadfaaSum
namespace Go.Proofs.Ytipabhbnljadfaa
open Go
set_option linter.unusedSimpArgs false
set_option linter.unusedVariables false

/-- the sum's bytes, the lowest first -/
def le4 (c : Nat) : List UInt8 := [byteAt c 0, byteAt c 1, byteAt c 2, byteAt c 3]
def sealB (l : List UInt8) : List UInt8 := l ++ le4 (crc l)
def openB (l : List UInt8) : List UInt8 × Nat := if l.length < 4 then ([], 3) else if sealB (l.take (l.length - 4)) = l then (l.take (l.length - 4), 0) else ([], 14)
theorem sealB_length (l : List UInt8) : (sealB l).length = l.length + 4 := by simp [sealB, le4]

theorem le4_bits (c : Nat) : [Value.int .u8 (IntKind.u8.wrap (c : Int)), Value.int .u8 (IntKind.u8.wrap ((c : Int) / 2 ^ Int.toNat 8)), Value.int .u8 (IntKind.u8.wrap ((c : Int) / 2 ^ Int.toNat 16)), Value.int .u8 (IntKind.u8.wrap ((c : Int) / 2 ^ Int.toNat 24))] = (le4 c).map U8 := by
  have h0 := wrap_u8_byte c 0
  have h1 := wrap_u8_byte c 1
  have h2 := wrap_u8_byte c 2
  have h3 := wrap_u8_byte c 3
  rw [← shr_byte] at h1 h2 h3
  have e0 : (c / 256 ^ 0 : Nat) = c := by simp
  rw [e0] at h0
  have e1 : ((8 : Int) * ((1 : Nat) : Int)).toNat = Int.toNat 8 := rfl
  have e2 : ((8 : Int) * ((2 : Nat) : Int)).toNat = Int.toNat 16 := rfl
  have e3 : ((8 : Int) * ((3 : Nat) : Int)).toNat = Int.toNat 24 := rfl
  rw [e1] at h1
  rw [e2] at h2
  rw [e3] at h3
  rw [h0, h1, h2, h3]
  rfl
theorem New.of {w w1 w2 w3 : World} {k : Nat} (h : Grow (New w w1) w2 w3 k) (h1 : w.heap.size ≤ w2.heap.size) (h2 : w1.heap.size ≤ w3.heap.size) : New w w3 k := by
  rcases h with h | h
  · exact ⟨h.1, by have := h.2; omega⟩
  · exact ⟨by have := h.1; omega, h.2⟩

end Go.Proofs.Ytipabhbnljadfaa
