/-
  Puts, opened.
-/
import Derived.Test.YtjiafgnibhgfbaaFopen
import Derived.Test.YtjiafgnibhgfbaaRdsO
import Derived.Test.YtjiafgnibhgfbaaWrt
namespace Go.Proofs.Ytjiafgnibhgfbaa
open Go Go.ChangeShapes Go.WideShapes Go.ChangeAt Go.RowKit Go.Deep
set_option linter.unusedSimpArgs false
set_option linter.unusedVariables false

theorem spot_none {w : World} {a : Addr} {v : Value} (h : w.cell? a = some v) : a.spot = none := by
  unfold World.cell? at h
  split at h
  · split at h
    · cases h
    · rename_i hs
      simpa using hs
  · cases h

theorem weightsAll_mem {H : Type} {P : Program} {e : TypeId} {d : DataW H} : ∀ {l : List (DataW H)}, d ∈ l → ∀ x ∈ d.weights P e, x ∈ DataW.weightsAll P e l
  | [], h, _, _ => by cases h
  | a :: l, h, x, hx => by
    simp only [DataW.weightsAll, List.mem_append]
    rcases List.mem_cons.1 h with rfl | h
    · exact .inl hx
    · exact .inr (weightsAll_mem h x hx)

/-- bytes inside something else -/
theorem nested_bytes {H : Type} {enc : TypeId × Value → H} {P : Program} {W : World} {v : Value} {y : DataW H × List MemPlace} {t e : TypeId} {fuel : Nat} (ht : P.underlying t = some (.slice e)) (he : P.underlying e = some (.int .u8))
    (hc : P.cellsOf e = 1) (hby : P.bytesOf e = 1) (h : DataW.trod enc P W 0 (fun _ => true) true fuel t [v] = some y) (hw : (y.1.weights P t).all (· ≤ reachBytes) = true) :
    ∃ l : List UInt8, Rd W (fun k => k < W.heap.size) v l.length 1 (l.map U8) := by
  rcases open_slice1 ht hc h with ⟨hcs, _⟩ | ⟨a, len, m, m', n, V, D, Pl, hcs, _, hl, hm, hmm, rfl, hcell⟩
  · simp only [List.cons.injEq, and_true] at hcs
    subst hcs
    exact ⟨[], Rd.nil _ _ _⟩
  · simp only [List.cons.injEq, and_true] at hcs
    subst hcs
    simp only [if_true] at hmm
    subst hmm
    have hsz : len ≤ 140737488351232 := by
      simp only [DataW.weights, ht, List.all_cons, Bool.and_eq_true, decide_eq_true_eq, List.length_map, List.length_range, hby] at hw
      have h1 := hw.1
      have h2 : reachBytes = 140737488351232 := rfl
      omega
    rcases Nat.eq_zero_or_pos len with h0 | h0
    · subst h0
      exact ⟨[], _, _, rfl, Nat.zero_le _, by simp, rfl, fun h => absurd rfl h⟩
    · have hs : a.spot = none := by
        have := (hcell 0 (by omega)).1
        simp only [Addr.add, if_true] at this
        exact spot_none this
      obtain ⟨b, off, sp⟩ := a
      simp only at hs
      subst hs
      have hV : ∀ i, i < len → W.cell? ⟨b, off + i, none⟩ = some (U8 (byteOf (V i))) := fun i hi => by
        obtain ⟨h1, h2⟩ := hcell i (by omega)
        obtain ⟨z, hz, _, hwf⟩ := DataW.trod_int he h2
        have hVi : V i = .int .u8 z := by simpa using hz
        have hbd := bounds_u8 hwf
        have : Value.int .u8 z = U8 (byteOf (.int .u8 z)) := by
          simp only [U8, byteOf, UInt8.toNat_ofNat']
          congr 1
          omega
        rw [hVi, ← this, ← hVi]
        simpa [Addr.add_lit] using h1
      refine ⟨(List.range len).map fun i => byteOf (V i), some ⟨b, off, none⟩, m', by simp, by simpa using hl, by simp; omega, by simp, fun _ => ⟨b, off, rfl, cell_lt (hV 0 h0), cell_lt (hV 0 h0), fun j u hj => ?_⟩⟩
      simp only [List.getElem?_map] at hj
      rcases Nat.lt_or_ge j len with h1 | h1
      · rw [List.getElem?_range h1] at hj
        simp only [Option.map_some, Option.some.injEq] at hj
        rw [← hj]
        exact hV j h1
      · rw [List.getElem?_eq_none (by simpa using h1)] at hj
        simp at hj

theorem open_puts {H : Type} {enc : TypeId × Value → H} {P : Program} {W : World} {base : Nat} {v : Value} {d : DataW H} {ps : List MemPlace} {t e e2 : TypeId} {f0 f1 f2 : Field} (ht : P.underlying t = some (.slice e)) (he : P.underlying e = some (.struct #[f0, f1, f2]))
    (ce : P.cellsOf e = 3) (o0 : f0.offset = 0) (o1 : f1.offset = 1) (o2 : f2.offset = 2) (c0 : P.cellsOf f0.type = 1) (c1 : P.cellsOf f1.type = 1) (c2 : P.cellsOf f2.type = 1) (u0 : P.underlying f0.type = some (.int .u8)) (u1 : P.underlying f1.type = some (.int .u64))
    (u2 : P.underlying f2.type = some (.slice e2)) (v2 : P.underlying e2 = some (.int .u8)) (ce2 : P.cellsOf e2 = 1) (be2 : P.bytesOf e2 = 1) (hby : 0 < P.bytesOf e)
    (hv : Value.okWide P W .any base t v) (h : DataW.Trod enc P W 0 (fun _ => true) true t v d ps) (hw : (d.weights P t).all (· ≤ reachBytes) = true) :
    ∃ (n : Nat) (K : Nat → UInt8) (N : Nat → Nat) (V : Nat → Value) (B : Nat → List UInt8), IsL W (fun k => k < W.heap.size) v n K N V B ∧ ∀ i, N i < 18446744073709551616 := by
  obtain ⟨fuel, h⟩ := h
  rcases okWide_slice ht hv with rfl | ⟨b, off, len, cap, rfl, hle⟩
  · exact ⟨0, fun _ => 0, fun _ => 0, fun _ => .slice none 0 0, fun _ => [], ⟨Rd.nil _ _ _, fun i hi => by omega⟩, fun i => by simp⟩
  · rcases open_slice ht h with ⟨hcs, _⟩ | ⟨a, len', cap', m, n, D, Pl, hcs, _, hl, hm, hmm, hx, hcell⟩
    · simp [Value.cells] at hcs
    · simp only [Value.cells, List.cons.injEq, Value.slice.injEq, and_true, Option.some.injEq] at hcs
      obtain ⟨rfl, rfl, rfl⟩ := hcs
      simp only [if_true] at hmm
      subst hmm
      have hd : d = .slice ((List.range len).map D) ((List.range (m - len)).map fun j => D (len + j)) := by
        injection hx
      subst hd
      simp only [DataW.weights, ht, List.all_cons, Bool.and_eq_true, decide_eq_true_eq, List.length_map, List.length_range, List.all_append] at hw
      have hsz : len ≤ 140737488351232 := by
        have h1 := hw.1
        have h2 : reachBytes = 140737488351232 := rfl
        have h3 : (len + (m - len)) * 1 ≤ (len + (m - len)) * P.bytesOf e := Nat.mul_le_mul_left _ hby
        omega
      have hmem : ∀ i, i < len → ∀ x ∈ (D i).weights P e, x ≤ reachBytes := fun i hi x hxm => by
        have h1 := List.all_eq_true.1 hw.2.1 x (weightsAll_mem (List.mem_map.2 ⟨i, by simpa using hi, rfl⟩) x hxm)
        simpa using h1
      have each : ∀ i, i < len → ∃ q : UInt8 × Nat × Value × List UInt8, W.cell? ⟨b, off + i * 3, none⟩ = some (U8 q.1) ∧ W.cell? ⟨b, off + (i * 3 + 1), none⟩ = some (.int .u64 (q.2.1 : Int)) ∧ W.cell? ⟨b, off + (i * 3 + 2), none⟩ = some q.2.2.1 ∧
          q.2.1 < 18446744073709551616 ∧ Rd W (fun k => k < W.heap.size) q.2.2.1 q.2.2.2.length 1 (q.2.2.2.map U8) := by
        intro i hi
        obtain ⟨cs', h1, h2⟩ := hcell i (by omega)
        rw [ce] at h1
        obtain ⟨_, hlen, hc⟩ := World.cells?_some h1
        obtain ⟨xs, k, hk, hxy, _, hxl, hf⟩ := DataW.trod_struct he h2
        match xs, hxl, cs', hlen with
        | [y0, y1, y2], _, [a0, a1, a2], _ =>
          have g0 := hf 0 f0 rfl
          have g1 := hf 1 f1 rfl
          have g2 := hf 2 f2 rfl
          simp [o0, o1, o2, c0, c1, c2] at g0 g1 g2
          have e0 := hc 0 (by omega)
          have e1 := hc 1 (by omega)
          have e2' := hc 2 (by omega)
          simp only [Prod.mk.injEq] at hxy
          have hDi : D i = .agg [y0.1, y1.1, y2.1] := by simpa using hxy.1
          obtain ⟨z0, hz0, _, hwf0⟩ := DataW.trod_int u0 g0
          obtain ⟨z1, hz1, _, hwf1⟩ := DataW.trod_int u1 g1
          have ha0 : a0 = .int .u8 z0 := by simpa using hz0
          have ha1 : a1 = .int .u64 z1 := by simpa using hz1
          have hb0 := bounds_u8 hwf0
          have hb1 := bounds_u64 hwf1
          have hwy : (y2.1.weights P f2.type).all (· ≤ reachBytes) = true := by
            rw [List.all_eq_true]
            intro x hx
            have := hmem i hi x (by
              rw [hDi]
              simp only [DataW.weights, he, DataW.weightsEach, List.map_cons, List.map_nil, List.mem_append]
              exact .inr (.inr (.inl hx)))
            simpa using this
          obtain ⟨l, hl2⟩ := nested_bytes u2 v2 ce2 be2 g2 hwy
          refine ⟨(byteOf a0, z1.toNat, a2, l), ?_, ?_, ?_, by simp only; omega, hl2⟩
          · have : U8 (byteOf a0) = a0 := by
              rw [ha0]
              simp only [U8, byteOf, UInt8.toNat_ofNat']
              congr 1
              omega
            rw [this]
            simpa [Addr.add_lit, add_add] using e0
          · have : Value.int .u64 (z1.toNat : Int) = a1 := by
              rw [ha1]
              congr 1
              omega
            rw [this]
            simpa [Addr.add_lit, add_add, Nat.add_assoc] using e1
          · simpa [Addr.add_lit, add_add, Nat.add_assoc] using e2'
      obtain ⟨q, hq⟩ := choose_lt each
      have hlt : 0 < len → b < W.heap.size := fun h0 => cell_lt (hq 0 h0).1
      refine ⟨len, fun i => (q i).1, fun i => if i < len then (q i).2.1 else 0, fun i => (q i).2.2.1, fun i => (q i).2.2.2, ⟨⟨some ⟨b, off, none⟩, m, rfl, hle, by omega, by simp [putC], fun h0 => ⟨b, off, rfl, hlt (by omega), hlt (by omega), fun j u hj => ?_⟩⟩, fun i hi => (hq i hi).2.2.2.2⟩, fun i => ?_⟩
      · simp only [putC, List.getElem?_map] at hj
        rcases Nat.lt_or_ge j (len * 3) with h1 | h1
        · rw [List.getElem?_range h1] at hj
          simp only [Option.map_some, Option.some.injEq] at hj
          rw [← hj]
          have hq' := hq (j / 3) (by omega)
          split
          · have := hq'.1
            rwa [show j / 3 * 3 = j by omega] at this
          · split
            · have := hq'.2.1
              rw [show j / 3 * 3 + 1 = j by omega] at this
              rw [if_pos (by omega)]
              exact this
            · have := hq'.2.2.1
              rwa [show j / 3 * 3 + 2 = j by omega] at this
        · rw [List.getElem?_eq_none (by simpa using h1)] at hj
          simp at hj
      · show (if i < len then (q i).2.1 else 0) < _
        split
        · rename_i hi
          exact (hq i hi).2.2.2.1
        · omega
end Go.Proofs.Ytjiafgnibhgfbaa
