/-
  Types that are handed in, opened: alone, in a row, in pairs.
-/
import Derived.Test.YtncakfcafkfmfaaFrep
import Derived.Test.YtncakfcafkfmfaaTyh
namespace Go.Proofs.Ytncakfcafkfmfaa
open Go Go.ChangeShapes Go.WideShapes Go.ChangeAt Go.RowKit Go.Deep
set_option linter.unusedSimpArgs false
set_option linter.unusedVariables false

/-- a struct that is handed in -/
theorem open_struct_rep {H : Type} {enc : TypeId × Value → H} {P : Program} {W : World} {base : Nat} {v : Value} {d : DataW H} {ps : List MemPlace} {t : TypeId} {fs : Array Field} (ht : P.underlying t = some (.struct fs))
    (hv : Value.okWide P W .any base t v) (h : DataW.Trod enc P W 0 (fun _ => true) true t v d ps) (hw : (d.weights P t).all (· ≤ reachBytes) = true) : ∃ cs f, v = .agg cs ∧ Rep P W f t cs.toList := by
  obtain ⟨fuel, h⟩ := h
  obtain ⟨cs, rfl, hsz⟩ := okWide_struct ht hv
  exact ⟨cs, fuel, rfl, open_rep fuel t _ _ h hw⟩
theorem cellsTy : Try.prog.cellsOf typ = 3 := by kernel_rfl
theorem bytesTy : Try.prog.bytesOf typ = 48 := by kernel_rfl
theorem rep_tr {W : World} : ∀ (f : Nat) {cs : List Value}, Rep Try.prog W f typ cs → ∃ (p : C3 × Tr), cs = c3 p.1 ∧ TR W (fun k => k < W.heap.size) p.1 p.2
  | 0, cs, h => h.elim
  | f + 1, cs, h => by
    obtain ⟨g, hg, hl, hf⟩ := h.struct Try.underlying28
    obtain rfl : f = g := by omega
    obtain ⟨c0, c1, c2, rfl⟩ := len3 (hl.trans cellsTy)
    obtain ⟨s0, e0, k0⟩ := Rep.str (Rep.field hf 0 (n := 1) rfl rfl rfl (by kernel_rfl)) Try.underlying9
    obtain ⟨n1, e1, k1⟩ := Rep.int (Rep.field hf 1 (n := 1) rfl rfl rfl (by kernel_rfl)) Try.underlying3
    have hs : Rep Try.prog W f 26 [c2] := Rep.field hf 2 (n := 1) rfl rfl rfl (by kernel_rfl)
    obtain ⟨v, l, g2, _, h1, h2, h3, h4⟩ := hs.list (fun p : C3 × Tr => c3 p.1) (fun _ p => TR W (fun k => k < W.heap.size) p.1 p.2) Try.underlying26 (by show 0 < Try.prog.cellsOf typ; rw [cellsTy]; decide) (by show 0 < Try.prog.bytesOf typ; rw [bytesTy]; decide) (fun g' cs hlt hr => rep_tr g' hr)
    have f0 : c0 = .string ⟨s0.toArray⟩ := by injection e0
    have f1 : c1 = .int .i64 n1 := by injection e1
    have f2 : c2 = v := by injection h1
    subst f0 f1 f2
    have h3' : Rd W (fun k => k < W.heap.size) c2 l.length 3 (l.flatMap fun p => c3 p.1) := by
      have := h3
      rw [show Try.prog.cellsOf 28 = 3 from cellsTy] at this
      exact this
    have h2' : l.length * 48 ≤ 140737488351232 := by
      have := h2
      rw [show Try.prog.bytesOf 28 = 48 from bytesTy] at this
      exact this
    refine ⟨((.string ⟨s0.toArray⟩, .int .i64 n1, c2), .mk s0 n1 (l.map (·.2))), rfl, .mk (xs := l.map (·.1)) ?_ (by simp) (by simp; omega) k1 ?_⟩
    · rw [List.length_map, List.flatMap_map]
      exact h3'
    · intro i c k hc hk
      rw [List.getElem?_map] at hc hk
      cases hli : l[i]? with
      | none => rw [hli] at hc; cases hc
      | some p =>
        rw [hli] at hc hk
        injection hc with hc
        injection hk with hk
        subst hc hk
        exact h4 p (List.mem_of_getElem? hli)
theorem arg_tr {H : Type} {enc : TypeId × Value → H} {W : World} {base : Nat} {v : Value} {d : DataW H} {ps : List MemPlace} (hv : Value.okWide Try.prog W .any base typ v) (h : DataW.Trod enc Try.prog W 0 (fun _ => true) true typ v d ps) (hw : (d.weights Try.prog typ).all (· ≤ reachBytes) = true) :
    ∃ a b c t, v = .agg #[a, b, c] ∧ TR W (fun k => k < W.heap.size) (a, b, c) t := by
  obtain ⟨cs, f, rfl, hr⟩ := open_struct_rep Try.underlying28 hv h hw
  obtain ⟨⟨⟨a, b, c⟩, t⟩, h1, h2⟩ := rep_tr f hr
  refine ⟨a, b, c, t, ?_, h2⟩
  have : cs = #[a, b, c] := Array.ext' h1
  rw [this]
theorem rep_trs {W : World} {v : Value} (h : ∃ f, Rep Try.prog W f 26 [v]) : ∃ xs ts, ts.length * 48 ≤ 140737488351232 ∧ Rd W (fun k => k < W.heap.size) v ts.length 3 (xs.flatMap c3) ∧ TRs W (fun k => k < W.heap.size) xs ts := by
  obtain ⟨f, hs⟩ := h
  obtain ⟨v', l, g2, _, h1, h2, h3, h4⟩ := hs.list (fun p : C3 × Tr => c3 p.1) (fun _ p => TR W (fun k => k < W.heap.size) p.1 p.2) Try.underlying26 (by show 0 < Try.prog.cellsOf typ; rw [cellsTy]; decide) (by show 0 < Try.prog.bytesOf typ; rw [bytesTy]; decide) (fun g' cs hlt hr => rep_tr g' hr)
  have f2 : v = v' := by injection h1
  subst f2
  have h3' : Rd W (fun k => k < W.heap.size) v l.length 3 (l.flatMap fun p => c3 p.1) := by
    have := h3
    rw [show Try.prog.cellsOf 28 = 3 from cellsTy] at this
    exact this
  have h2' : l.length * 48 ≤ 140737488351232 := by
    have := h2
    rw [show Try.prog.bytesOf 28 = 48 from bytesTy] at this
    exact this
  refine ⟨l.map (·.1), l.map (·.2), by simpa using h2', ?_, by simp, fun i c k hc hk => ?_⟩
  · rw [List.length_map, List.flatMap_map]
    exact h3'
  · rw [List.getElem?_map] at hc hk
    cases hli : l[i]? with
    | none => rw [hli] at hc; cases hc
    | some p =>
      rw [hli] at hc hk
      injection hc with hc
      injection hk with hk
      subst hc hk
      exact h4 p (List.mem_of_getElem? hli)
end Go.Proofs.Ytncakfcafkfmfaa
