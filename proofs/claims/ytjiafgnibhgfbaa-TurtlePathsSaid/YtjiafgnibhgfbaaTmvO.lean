/-
  Moves, opened.
-/
import Derived.Test.YtjiafgnibhgfbaaFopen
import Derived.Test.YtjiafgnibhgfbaaTurP
namespace Go.Proofs.Ytjiafgnibhgfbaa
open Go Go.ChangeShapes Go.WideShapes Go.ChangeAt Go.RowKit Go.Deep
set_option linter.unusedSimpArgs false
set_option linter.unusedVariables false

def boolOf : Value → Bool
  | .bool b => b
  | _ => false
def intOf : Value → Int
  | .int _ z => z
  | _ => 0

theorem open_moves {H : Type} {enc : TypeId × Value → H} {P : Program} {W : World} {base : Nat} {v : Value} {d : DataW H} {ps : List MemPlace} {t e : TypeId} {f0 f1 : Field} (ht : P.underlying t = some (.slice e)) (he : P.underlying e = some (.struct #[f0, f1]))
    (ce : P.cellsOf e = 2) (o0 : f0.offset = 0) (o1 : f1.offset = 1) (c0 : P.cellsOf f0.type = 1) (c1 : P.cellsOf f1.type = 1) (u0 : P.underlying f0.type = some .bool) (u1 : P.underlying f1.type = some (.int .i64)) (hby : 0 < P.bytesOf e)
    (hv : Value.okWide P W .any base t v) (h : DataW.Trod enc P W 0 (fun _ => true) true t v d ps) (hw : (d.weights P t).all (· ≤ reachBytes) = true) :
    ∃ l : List Mv, Rd W (fun k => k < W.heap.size) v l.length 2 (movC l) ∧ ∀ m ∈ l, inK .i64 m.2 := by
  obtain ⟨fuel, h⟩ := h
  rcases okWide_slice ht hv with rfl | ⟨b, off, len, cap, rfl, hle⟩
  · exact ⟨[], Rd.nil _ _ _, fun m hm => by cases hm⟩
  · rcases open_slice_pairs ht he ce o0 o1 c0 c1 h with ⟨hcs, _⟩ | ⟨a, len', cap', m, n, V0, V1, D0, D1, P0, P1, hcs, _, hl, hm, hmm, hx, hcell⟩
    · simp [Value.cells] at hcs
    · simp only [Value.cells, List.cons.injEq, Value.slice.injEq, and_true, Option.some.injEq] at hcs
      obtain ⟨rfl, rfl, rfl⟩ := hcs
      simp only [if_true] at hmm
      subst hmm
      have hd : d = .slice ((List.range len).map fun i => .agg [D0 i, D1 i]) ((List.range (m - len)).map fun j => .agg [D0 (len + j), D1 (len + j)]) := by
        injection hx
      have hsz : len ≤ 140737488351232 := by
        subst hd
        simp only [DataW.weights, ht, List.all_cons, Bool.and_eq_true, decide_eq_true_eq, List.length_map, List.length_range] at hw
        have h1 := hw.1
        have h2 : reachBytes = 140737488351232 := rfl
        have h3 : (len + (m - len)) * 1 ≤ (len + (m - len)) * P.bytesOf e := Nat.mul_le_mul_left _ hby
        omega
      have hV0 : ∀ i, i < len → W.cell? ⟨b, off + i * 2, none⟩ = some (.bool (boolOf (V0 i))) := fun i hi => by
        obtain ⟨h1, _, h2, _⟩ := hcell i (by omega)
        obtain ⟨z, hz, _⟩ := DataW.trod_bool u0 h2
        have hVi : V0 i = .bool z := by simpa using hz
        rw [hVi] at h1 ⊢
        simpa [Addr.add_lit, boolOf] using h1
      have hV1 : ∀ i, i < len → W.cell? ⟨b, off + (i * 2 + 1), none⟩ = some (.int .i64 (intOf (V1 i))) ∧ inK .i64 (intOf (V1 i)) := fun i hi => by
        obtain ⟨_, h1, _, h2⟩ := hcell i (by omega)
        obtain ⟨z, hz, _, hwf⟩ := DataW.trod_int u1 h2
        have hVi : V1 i = .int .i64 z := by simpa using hz
        have hbd := bounds_i64 hwf
        rw [hVi] at h1 ⊢
        exact ⟨by simpa [Addr.add_lit, intOf] using h1, by simp only [intOf, inK]; omega⟩
      have hlt : 0 < len → b < W.heap.size := fun h0 => cell_lt (hV0 0 h0)
      have hl2 : ((List.range len).map fun i => ((boolOf (V0 i), intOf (V1 i)) : Mv)).length = len := by simp
      refine ⟨(List.range len).map fun i => (boolOf (V0 i), intOf (V1 i)), ?_, fun m hm => ?_⟩
      · rw [hl2]
        refine ⟨some ⟨b, off, none⟩, m, rfl, hle, by omega, by rw [movC_length, hl2], fun h0 => ⟨b, off, rfl, hlt (by omega), hlt (by omega), fun j u hj => ?_⟩⟩
        have hj2 : j < len * 2 := by
          have := (List.getElem?_eq_some_iff.1 hj).1
          rw [movC_length, hl2] at this
          exact this
        have hg : ((List.range len).map fun i => ((boolOf (V0 i), intOf (V1 i)) : Mv))[j / 2]? = some (boolOf (V0 (j / 2)), intOf (V1 (j / 2))) := by
          rw [List.getElem?_map, List.getElem?_range (by omega)]
          rfl
        have hmg := movC_get hg
        rcases Nat.mod_two_eq_zero_or_one j with hp | hp
        · rw [show j / 2 * 2 = j by omega] at hmg
          rw [hmg.1] at hj
          injection hj with hj
          rw [← hj]
          have := hV0 (j / 2) (by omega)
          rwa [show j / 2 * 2 = j by omega] at this
        · rw [show j / 2 * 2 + 1 = j by omega] at hmg
          rw [hmg.2] at hj
          injection hj with hj
          rw [← hj]
          have := (hV1 (j / 2) (by omega)).1
          rwa [show j / 2 * 2 + 1 = j by omega] at this
      · simp only [List.mem_map, List.mem_range] at hm
        obtain ⟨i, hi, rfl⟩ := hm
        exact (hV1 i hi).2
end Go.Proofs.Ytjiafgnibhgfbaa
