/-
  law 15: calls, opened.
-/
import Derived.Test.YtejlmcdmoghmaaaFrep
import Derived.Test.YtejlmcdmoghmaaaStR
namespace Go.Proofs.Ytejlmcdmoghmaaa
open Go Go.ChangeShapes Go.WideShapes Go.ChangeAt Go.RowKit Go.Deep
set_option linter.unusedSimpArgs false
set_option linter.unusedVariables false

theorem cellsActS : Try.prog.cellsOf 56 = 7 := by kernel_rfl
theorem cellsSnap : Try.prog.cellsOf 50 = 3 := by kernel_rfl
theorem bytesActS : 0 < Try.prog.bytesOf 56 := by decide +kernel
theorem bytesIntS : 0 < Try.prog.bytesOf 3 := by decide +kernel
theorem rep_actS {W : World} {f : Nat} {cs : List Value} (h : Rep Try.prog W f 56 cs) :
    ∃ a : ActS, cs = a.cells ∧ a.OK W := by
  obtain ⟨g, rfl, hl, hf⟩ := h.struct Try.underlying56
  obtain ⟨c0, c1, c2, c3, c4, c5, c6, rfl⟩ := len7 (hl.trans cellsActS)
  obtain ⟨n0, e0, k0⟩ := Rep.int (Rep.field hf 0 (n := 1) rfl rfl rfl (by kernel_rfl)) Try.underlying5
  have hs : Rep Try.prog W g 50 [c1, c2, c3] := Rep.field hf 1 (n := 3) rfl rfl rfl (by kernel_rfl)
  obtain ⟨g', _, _, hf'⟩ := hs.struct Try.underlying50
  obtain ⟨n1, e1, k1⟩ := Rep.int (Rep.field hf' 0 (n := 1) rfl rfl rfl (by kernel_rfl)) Try.underlying48
  obtain ⟨n2, e2, k2⟩ := Rep.int (Rep.field hf' 1 (n := 1) rfl rfl rfl (by kernel_rfl)) Try.underlying48
  obtain ⟨v3, l3, e3, _, r3⟩ := Rep.bytes (Rep.field hf' 2 (n := 1) rfl rfl rfl (by kernel_rfl)) Try.underlying22 Try.underlying5 (by kernel_rfl) (by kernel_rfl)
  obtain ⟨n4, e4, k4⟩ := Rep.int (Rep.field hf 2 (n := 1) rfl rfl rfl (by kernel_rfl)) Try.underlying5
  obtain ⟨n5, e5, k5⟩ := Rep.int (Rep.field hf 3 (n := 1) rfl rfl rfl (by kernel_rfl)) Try.underlying43
  obtain ⟨v6, l6, e6, _, r6, _⟩ := Rep.ints (Rep.field hf 4 (n := 1) rfl rfl rfl (by kernel_rfl)) Try.underlying23 Try.underlying3 (by kernel_rfl) bytesIntS
  have f0 : c0 = .int .u8 n0 := by injection e0
  have f1 : c1 = .int .u64 n1 := by injection e1
  have f2 : c2 = .int .u64 n2 := by injection e2
  have f3 : c3 = v3 := by injection e3
  have f4 : c4 = .int .u8 n4 := by injection e4
  have f5 : c5 = .int .u16 n5 := by injection e5
  have f6 : c6 = v6 := by injection e6
  subst f0 f1 f2 f3 f4 f5 f6
  simp only [inK] at k0 k1 k2 k4 k5
  obtain ⟨m1, rfl⟩ : ∃ m : Nat, n1 = m := ⟨n1.toNat, by omega⟩
  obtain ⟨m2, rfl⟩ : ∃ m : Nat, n2 = m := ⟨n2.toNat, by omega⟩
  exact ⟨⟨n0, ⟨m1, m2, l3⟩, c3, n4, n5, c6, l6⟩, rfl, ⟨k0, by show m1 < _; omega, by show m2 < _; omega, k4, k5, r3, r6⟩⟩
theorem rep_actsS {W : World} {v : Value} (h : ∃ f, Rep Try.prog W f 54 [v]) : ∃ l : List ActS, Rd W (fun k => k < W.heap.size) v l.length 7 (l.flatMap ActS.cells) ∧
    ∀ a ∈ l, a.OK W := by
  obtain ⟨f, h⟩ := h
  obtain ⟨v', l, g, _, h1, _, h3, h4⟩ := h.list ActS.cells (fun _ a => a.OK W) Try.underlying54 (by rw [cellsActS]; decide) bytesActS (fun g cs _ hr => rep_actS hr)
  simp only [List.cons.injEq, and_true] at h1
  subst h1
  rw [cellsActS] at h3
  exact ⟨l, h3, h4⟩
end Go.Proofs.Ytejlmcdmoghmaaa
