/-
  Asks, opened.
-/
import Derived.Test.YtjiafgnibhgfbaaFopen
import Derived.Test.YtjiafgnibhgfbaaRds
namespace Go.Proofs.Ytjiafgnibhgfbaa
open Go Go.ChangeShapes Go.WideShapes Go.ChangeAt Go.RowKit Go.Deep
set_option linter.unusedSimpArgs false
set_option linter.unusedVariables false

def intOf : Value → Int
  | .int _ z => z
  | _ => 0

theorem open_asks {H : Type} {enc : TypeId × Value → H} {P : Program} {W : World} {base : Nat} {v : Value} {d : DataW H} {ps : List MemPlace} {t e : TypeId} {f0 f1 : Field} (ht : P.underlying t = some (.slice e)) (he : P.underlying e = some (.struct #[f0, f1]))
    (ce : P.cellsOf e = 2) (o0 : f0.offset = 0) (o1 : f1.offset = 1) (c0 : P.cellsOf f0.type = 1) (c1 : P.cellsOf f1.type = 1) (u0 : P.underlying f0.type = some (.int .u8)) (u1 : P.underlying f1.type = some (.int .i64)) (hby : 0 < P.bytesOf e)
    (hv : Value.okWide P W .any base t v) (h : DataW.Trod enc P W 0 (fun _ => true) true t v d ps) (hw : (d.weights P t).all (· ≤ reachBytes) = true) :
    ∃ (n : Nat) (K : Nat → UInt8) (Z : Nat → Int), Rd W (fun k => k < W.heap.size) v n 2 (askC K Z n) ∧ ∀ i, i < n → inK .i64 (Z i) := by
  obtain ⟨fuel, h⟩ := h
  rcases okWide_slice ht hv with rfl | ⟨b, off, len, cap, rfl, hle⟩
  · exact ⟨0, fun _ => 0, fun _ => 0, Rd.nil _ _ _, fun i hi => by omega⟩
  · rcases open_slice_pairs ht he ce o0 o1 c0 c1 h with ⟨hcs, _⟩ | ⟨a, len', cap', m, n, V0, V1, D0, D1, P0, P1, hcs, _, hl, hm, hmm, hx, hcell⟩
    · simp [Value.cells] at hcs
    · simp only [Value.cells, List.cons.injEq, Value.slice.injEq, and_true, Option.some.injEq] at hcs
      obtain ⟨rfl, rfl, rfl⟩ := hcs
      simp only [if_true] at hmm
      subst hmm
      have hd : d = .slice ((List.range len).map fun i => .agg [D0 i, D1 i]) ((List.range (m - len)).map fun j => .agg [D0 (len + j), D1 (len + j)]) := by
        injection hx
      have hsz : len ≤ 140737488351232 := by
        subst hd
        simp only [DataW.weights, ht, List.all_cons, Bool.and_eq_true, decide_eq_true_eq, List.length_map, List.length_range] at hw
        have h1 := hw.1
        have h2 : reachBytes = 140737488351232 := rfl
        have h3 : (len + (m - len)) * 1 ≤ (len + (m - len)) * P.bytesOf e := Nat.mul_le_mul_left _ hby
        omega
      have hV0 : ∀ i, i < len → W.cell? ⟨b, off + i * 2, none⟩ = some (U8 (byteOf (V0 i))) := fun i hi => by
        obtain ⟨h1, _, h2, _⟩ := hcell i (by omega)
        obtain ⟨z, hz, _, hwf⟩ := DataW.trod_int u0 h2
        have hVi : V0 i = .int .u8 z := by simpa using hz
        have hbd := bounds_u8 hwf
        have : Value.int .u8 z = U8 (byteOf (.int .u8 z)) := by
          simp only [U8, byteOf, UInt8.toNat_ofNat']
          congr 1
          omega
        rw [hVi, ← this, ← hVi]
        simpa [Addr.add_lit] using h1
      have hV1 : ∀ i, i < len → W.cell? ⟨b, off + (i * 2 + 1), none⟩ = some (.int .i64 (intOf (V1 i))) ∧ inK .i64 (intOf (V1 i)) := fun i hi => by
        obtain ⟨_, h1, _, h2⟩ := hcell i (by omega)
        obtain ⟨z, hz, _, hwf⟩ := DataW.trod_int u1 h2
        have hVi : V1 i = .int .i64 z := by simpa using hz
        have hbd := bounds_i64 hwf
        rw [hVi] at h1 ⊢
        exact ⟨by simpa [Addr.add_lit, intOf] using h1, by simp only [intOf, inK]; omega⟩
      have hlt : 0 < len → b < W.heap.size := fun h0 => cell_lt (hV0 0 h0)
      refine ⟨len, fun i => byteOf (V0 i), fun i => intOf (V1 i), ⟨some ⟨b, off, none⟩, m, rfl, hle, by omega, by simp [askC], fun h0 => ⟨b, off, rfl, hlt (by omega), hlt (by omega), fun j u hj => ?_⟩⟩, fun i hi => (hV1 i hi).2⟩
      simp only [askC, List.getElem?_map] at hj
      rcases Nat.lt_or_ge j (len * 2) with h1 | h1
      · rw [List.getElem?_range h1] at hj
        simp only [Option.map_some, Option.some.injEq] at hj
        rw [← hj]
        split
        · have := hV0 (j / 2) (by omega)
          rwa [show j / 2 * 2 = j by omega] at this
        · have := (hV1 (j / 2) (by omega)).1
          rwa [show j / 2 * 2 + 1 = j by omega] at this
      · rw [List.getElem?_eq_none (by simpa using h1)] at hj
        simp at hj
end Go.Proofs.Ytjiafgnibhgfbaa
