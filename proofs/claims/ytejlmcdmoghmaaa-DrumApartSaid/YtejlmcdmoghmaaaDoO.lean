/-
  law 13: calls, opened.
-/
import Derived.Test.YtejlmcdmoghmaaaFrep
import Derived.Test.YtejlmcdmoghmaaaDq
namespace Go.Proofs.Ytejlmcdmoghmaaa
open Go Go.ChangeShapes Go.WideShapes Go.ChangeAt Go.RowKit Go.Deep
set_option linter.unusedSimpArgs false
set_option linter.unusedVariables false

theorem cellsAct : Try.prog.cellsOf 38 = 5 := by kernel_rfl
theorem bytesAct : 0 < Try.prog.bytesOf 38 := by decide +kernel
theorem bytesInt : 0 < Try.prog.bytesOf 3 := by decide +kernel
theorem rep_act {W : World} {f : Nat} {cs : List Value} (h : Rep Try.prog W f 38 cs) :
    ∃ a : ActV, cs = a.cells ∧ ((0 ≤ a.kind ∧ a.kind ≤ 255) ∧ inK .i64 a.i ∧ Rd W (fun k => k < W.heap.size) a.pv a.pl.length 1 (a.pl.map U8) ∧ ∃ A n c, a.cv = .slice A n c) := by
  obtain ⟨g, rfl, hl, hf⟩ := h.struct Try.underlying38
  obtain ⟨c0, c1, c2, c3, c4, rfl⟩ := len5 (hl.trans cellsAct)
  obtain ⟨n0, e0, k0⟩ := Rep.int (Rep.field hf 0 (n := 1) rfl rfl rfl (by kernel_rfl)) Try.underlying5
  obtain ⟨n1, e1, k1⟩ := Rep.int (Rep.field hf 1 (n := 1) rfl rfl rfl (by kernel_rfl)) Try.underlying3
  obtain ⟨v2, l2, e2, _, r2⟩ := Rep.bytes (Rep.field hf 2 (n := 1) rfl rfl rfl (by kernel_rfl)) Try.underlying22 Try.underlying5 (by kernel_rfl) (by kernel_rfl)
  obtain ⟨n3, e3, k3⟩ := Rep.int (Rep.field hf 3 (n := 1) rfl rfl rfl (by kernel_rfl)) Try.underlying3
  obtain ⟨v4, l4, e4, _, r4, _⟩ := Rep.ints (Rep.field hf 4 (n := 1) rfl rfl rfl (by kernel_rfl)) Try.underlying23 Try.underlying3 (by kernel_rfl) bytesInt
  have f0 : c0 = .int .u8 n0 := by injection e0
  have f1 : c1 = .int .i64 n1 := by injection e1
  have f2 : c2 = v2 := by injection e2
  have f3 : c3 = .int .i64 n3 := by injection e3
  have f4 : c4 = v4 := by injection e4
  subst f0 f1 f2 f3 f4
  simp only [inK] at k0
  obtain ⟨A, c, hv, _⟩ := r4.slice_form
  exact ⟨⟨n0, n1, c2, l2, n3, c4⟩, rfl, k0, k1, r2, ⟨A, _, c, hv⟩⟩
theorem rep_acts {W : World} {v : Value} (h : ∃ f, Rep Try.prog W f 36 [v]) : ∃ l : List ActV, Rd W (fun k => k < W.heap.size) v l.length 5 (l.flatMap ActV.cells) ∧
    ∀ a ∈ l, (0 ≤ a.kind ∧ a.kind ≤ 255) ∧ inK .i64 a.i ∧ Rd W (fun k => k < W.heap.size) a.pv a.pl.length 1 (a.pl.map U8) ∧ ∃ A n c, a.cv = .slice A n c := by
  obtain ⟨f, h⟩ := h
  obtain ⟨v', l, g, _, h1, _, h3, h4⟩ := h.list ActV.cells (fun _ a => (0 ≤ a.kind ∧ a.kind ≤ 255) ∧ inK .i64 a.i ∧ Rd W (fun k => k < W.heap.size) a.pv a.pl.length 1 (a.pl.map U8) ∧ ∃ A n c, a.cv = .slice A n c) Try.underlying36 (by rw [cellsAct]; decide) bytesAct (fun g cs _ hr => rep_act hr)
  simp only [List.cons.injEq, and_true] at h1
  subst h1
  rw [cellsAct] at h3
  exact ⟨l, h3, h4⟩
end Go.Proofs.Ytejlmcdmoghmaaa
