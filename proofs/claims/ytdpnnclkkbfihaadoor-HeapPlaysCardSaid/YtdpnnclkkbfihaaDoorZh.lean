/-
  Several texts put together: HplO.
-/
import Derived.Test.YtdpnnclkkbfihaaDoorZg
/-
  HeapPlays: calls, opened.
-/
namespace Go.Proofs.YtdpnnclkkbfihaaDoor
open Go Go.ChangeShapes Go.WideShapes Go.ChangeAt Go.RowKit Go.Deep
set_option linter.unusedSimpArgs false
set_option linter.unusedVariables false

theorem cellsActH : Tryd.prog.cellsOf 62 = 4 := by kernel_rfl
theorem bytesActH : 0 < Tryd.prog.bytesOf 62 := by decide +kernel
theorem rep_actH {W : World} {f : Nat} {cs : List Value} (h : Rep Tryd.prog W f 62 cs) :
    ∃ a : ActP, cs = a.cells ∧ a.OK W := by
  obtain ⟨g, rfl, hl, hf⟩ := h.struct Tryd.underlying62
  obtain ⟨c0, c1, c2, c3, rfl⟩ := len4 (hl.trans cellsActH)
  obtain ⟨n0, e0, k0⟩ := Rep.int (Rep.field hf 0 (n := 1) rfl rfl rfl (by kernel_rfl)) Tryd.underlying5
  obtain ⟨n1, e1, k1⟩ := Rep.int (Rep.field hf 1 (n := 1) rfl rfl rfl (by kernel_rfl)) Tryd.underlying5
  obtain ⟨v2, l2, e2, _, r2, q2⟩ := Rep.ints (Rep.field hf 2 (n := 1) rfl rfl rfl (by kernel_rfl)) Tryd.underlying60 Tryd.underlying2 (by kernel_rfl) (by decide +kernel)
  obtain ⟨s3, e3, k3⟩ := Rep.str (Rep.field hf 3 (n := 1) rfl rfl rfl (by kernel_rfl)) Tryd.underlying9
  have f0 : c0 = .int .u8 n0 := by injection e0
  have f1 : c1 = .int .u8 n1 := by injection e1
  have f2 : c2 = v2 := by injection e2
  have f3 : c3 = .string ⟨s3.toArray⟩ := by injection e3
  subst f0 f1 f2 f3
  simp only [inK] at k0 k1
  obtain ⟨m0, rfl⟩ : ∃ m : Nat, n0 = m := ⟨n0.toNat, by omega⟩
  obtain ⟨m1, rfl⟩ : ∃ m : Nat, n1 = m := ⟨n1.toNat, by omega⟩
  refine ⟨⟨m0, m1, c2, l2, s3⟩, rfl, ⟨by show m0 < _; omega, by show m1 < _; omega, r2, fun n hn => ?_, k3⟩⟩
  have := q2 n hn
  simp only [inK] at this
  omega
theorem rep_actsH {W : World} {v : Value} (h : ∃ f, Rep Tryd.prog W f 59 [v]) : ∃ l : List ActP, Rd W (fun k => k < W.heap.size) v l.length 4 (l.flatMap ActP.cells) ∧
    ∀ a ∈ l, a.OK W := by
  obtain ⟨f, h⟩ := h
  obtain ⟨v', l, g, _, h1, _, h3, h4⟩ := h.list ActP.cells (fun _ a => a.OK W) Tryd.underlying59 (by rw [cellsActH]; decide) bytesActH (fun g cs _ hr => rep_actH hr)
  simp only [List.cons.injEq, and_true] at h1
  subst h1
  rw [cellsActH] at h3
  exact ⟨l, h3, h4⟩
end Go.Proofs.YtdpnnclkkbfihaaDoor
