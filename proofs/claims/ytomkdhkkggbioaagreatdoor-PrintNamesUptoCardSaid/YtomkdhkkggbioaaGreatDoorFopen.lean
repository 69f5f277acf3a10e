/-
  Arguments opened: bytes.
-/
import Derived.Test.YtomkdhkkggbioaaGreatDoorFrame
namespace Go.Proofs.YtomkdhkkggbioaaGreatDoor
open Go Go.ChangeShapes Go.WideShapes Go.ChangeAt Go.RowKit Go.Deep
set_option linter.unusedSimpArgs false
set_option linter.unusedVariables false

theorem okWide_slice {P : Program} {W : World} {base : Nat} {t e : TypeId} {v : Value} (ht : P.underlying t = some (.slice e)) (hv : Value.okWide P W .any base t v) :
    v = .slice none 0 0 ∨ ∃ b off len cap, v = .slice (some ⟨b, off, none⟩) len cap ∧ len ≤ cap := by
  cases v with
  | slice A len cap =>
    cases A with
    | none =>
      cases len <;> cases cap <;> first | exact .inl rfl | (exfalso; simp [Value.okWide, ht, Cell.okWide, Cell.ok] at hv)
    | some a =>
      obtain ⟨b, off, sp⟩ := a
      simp only [Value.okWide, ht, Cell.okWide, Cell.ok] at hv
      have := hv.2.2.2.1
      simp only at this
      subst this
      exact .inr ⟨b, off, len, cap, rfl, hv.1⟩
  | _ => exfalso; simp [Value.okWide, ht, Cell.okWide, Cell.ok] at hv

theorem cell_lt {w : World} {b off : Nat} {v : Value} (h : w.cell? ⟨b, off, none⟩ = some v) : b < w.heap.size := by
  rcases Nat.lt_or_ge b w.heap.size with h1 | h1
  · exact h1
  · simp [World.cell?, Array.getElem?_eq_none h1] at h

/-- a byte, off a value -/
def byteOf : Value → UInt8
  | .int _ z => UInt8.ofNat z.toNat
  | _ => 0

theorem open_bytes {H : Type} {enc : TypeId × Value → H} {P : Program} {W : World} {base : Nat} {v : Value} {d : DataW H} {ps : List MemPlace} {t e : TypeId} (ht : P.underlying t = some (.slice e)) (he : P.underlying e = some (.int .u8))
    (hc : P.cellsOf e = 1) (hby : P.bytesOf e = 1) (hv : Value.okWide P W .any base t v) (h : DataW.Trod enc P W 0 (fun _ => true) true t v d ps) (hw : (d.weights P t).all (· ≤ reachBytes) = true) :
    ∃ l : List UInt8, Rd W (fun k => k < W.heap.size) v l.length 1 (l.map U8) ∧ l.length ≤ 140737488351232 := by
  obtain ⟨fuel, h⟩ := h
  rcases okWide_slice ht hv with rfl | ⟨b, off, len, cap, rfl, hle⟩
  · exact ⟨[], Rd.nil _ _ _, by simp⟩
  · rcases open_slice1 ht hc h with ⟨hcs, _⟩ | ⟨a, len', cap', m, n, V, D, Pl, hcs, _, hl, hm, hmm, hx, hcell⟩
    · simp [Value.cells] at hcs
    · simp only [Value.cells, List.cons.injEq, Value.slice.injEq, and_true, Option.some.injEq] at hcs
      obtain ⟨rfl, rfl, rfl⟩ := hcs
      simp only [if_true] at hmm
      subst hmm
      have hd : d = .slice ((List.range len).map D) ((List.range (m - len)).map fun j => D (len + j)) := by
        injection hx
      have hsz : len ≤ 140737488351232 := by
        subst hd
        simp only [DataW.weights, ht, List.all_cons, Bool.and_eq_true, decide_eq_true_eq, List.length_map, List.length_range, hby] at hw
        have h1 := hw.1
        have h2 : reachBytes = 140737488351232 := rfl
        omega
      have hV : ∀ i, i < len → W.cell? ⟨b, off + i, none⟩ = some (U8 (byteOf (V i))) := fun i hi => by
        obtain ⟨h1, h2⟩ := hcell i (by omega)
        obtain ⟨z, hz, _, hwf⟩ := DataW.trod_int he h2
        have hVi : V i = .int .u8 z := by simpa using hz
        have hbd := bounds_u8 hwf
        have : Value.int .u8 z = U8 (byteOf (.int .u8 z)) := by
          simp only [U8, byteOf, UInt8.toNat_ofNat']
          congr 1
          omega
        rw [hVi, ← this, ← hVi]
        simpa [Addr.add_lit] using h1
      refine ⟨(List.range len).map fun i => byteOf (V i), ⟨some ⟨b, off, none⟩, m, by simp, by simpa using hle, by simp; omega, by simp, fun h0 => ⟨b, off, rfl, ?_, ?_, fun j u hj => ?_⟩⟩, by simpa using hsz⟩
      · exact cell_lt (hV 0 (by simp at h0; omega))
      · exact cell_lt (hV 0 (by simp at h0; omega))
      · simp only [List.getElem?_map] at hj
        rcases Nat.lt_or_ge j len with h1 | h1
        · rw [List.getElem?_range h1] at hj
          simp only [Option.map_some, Option.some.injEq] at hj
          rw [← hj]
          exact hV j h1
        · rw [List.getElem?_eq_none (by simpa using h1)] at hj
          simp at hj
end Go.Proofs.YtomkdhkkggbioaaGreatDoor
