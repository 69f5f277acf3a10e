/-
  Functions that are handed in, opened.
-/
import Derived.Test.YtipabhbnljadfaaDoorFrep
import Derived.Test.YtipabhbnljadfaaDoorCoa
namespace Go.Proofs.YtipabhbnljadfaaDoor
open Go Go.ChangeShapes Go.WideShapes Go.ChangeAt Go.RowKit Go.Deep
set_option linter.unusedSimpArgs false
set_option linter.unusedVariables false

theorem cellsIns : Tryd.prog.cellsOf 44 = 4 := by kernel_rfl
theorem bytesIns : 0 < Tryd.prog.bytesOf 44 := by decide +kernel
theorem cellsFun : Tryd.prog.cellsOf 42 = 2 := by kernel_rfl
theorem bytesFun : 0 < Tryd.prog.bytesOf 42 := by decide +kernel
theorem rep_ins {W : World} {f : Nat} {cs : List Value} (h : Rep Tryd.prog W f 44 cs) : ∃ i : In, cs = insC i ∧ i.ok := by
  obtain ⟨g, rfl, hl, hf⟩ := h.struct Tryd.underlying44
  obtain ⟨c0, c1, c2, c3, rfl⟩ := len4 (hl.trans cellsIns)
  obtain ⟨n0, e0, k0⟩ := Rep.int (Rep.field hf 0 (n := 1) rfl rfl rfl (by kernel_rfl)) Tryd.underlying5
  obtain ⟨n1, e1, k1⟩ := Rep.int (Rep.field hf 1 (n := 1) rfl rfl rfl (by kernel_rfl)) Tryd.underlying2
  obtain ⟨n2, e2, k2⟩ := Rep.int (Rep.field hf 2 (n := 1) rfl rfl rfl (by kernel_rfl)) Tryd.underlying3
  obtain ⟨s3, e3, k3⟩ := Rep.str (Rep.field hf 3 (n := 1) rfl rfl rfl (by kernel_rfl)) Tryd.underlying9
  have f0 : c0 = .int .u8 n0 := by injection e0
  have f1 : c1 = .int .i64 n1 := by injection e1
  have f2 : c2 = .int .i64 n2 := by injection e2
  have f3 : c3 = .string ⟨s3.toArray⟩ := by injection e3
  subst f0 f1 f2 f3
  simp only [inK] at k0
  obtain ⟨m0, rfl⟩ : ∃ m : Nat, n0 = m := ⟨n0.toNat, by omega⟩
  exact ⟨⟨m0, n1, n2, s3⟩, rfl, ⟨by show m0 < 256; omega, k1, k2, k3⟩⟩
def FnV.OK (W : World) (x : FnV) : Prop := Rd W (fun k => k < W.heap.size) x.v x.f.code.length 4 (x.f.code.flatMap insC) ∧ inK .i64 x.f.caps ∧ ∀ i ∈ x.f.code, i.ok
theorem rep_fun {W : World} {f : Nat} {cs : List Value} (h : Rep Tryd.prog W f 42 cs) : ∃ x : FnV, cs = x.cells ∧ x.OK W := by
  obtain ⟨g, rfl, hl, hf⟩ := h.struct Tryd.underlying42
  obtain ⟨c0, c1, rfl⟩ := len2 (hl.trans cellsFun)
  obtain ⟨n0, e0, k0⟩ := Rep.int (Rep.field hf 0 (n := 1) rfl rfl rfl (by kernel_rfl)) Tryd.underlying3
  have hs : Rep Tryd.prog W g 40 [c1] := Rep.field hf 1 (n := 1) rfl rfl rfl (by kernel_rfl)
  obtain ⟨v, l, g2, _, h1, _, h3, h4⟩ := hs.list insC (fun _ i => i.ok) Tryd.underlying40 (by rw [cellsIns]; decide) bytesIns (fun g cs _ hr => rep_ins hr)
  have f0 : c0 = .int .i64 n0 := by injection e0
  have f1 : c1 = v := by injection h1
  subst f0 f1
  rw [cellsIns] at h3
  exact ⟨⟨⟨n0, l⟩, c1⟩, rfl, h3, k0, h4⟩
theorem rep_funs {W : World} {v : Value} (h : ∃ f, Rep Tryd.prog W f 22 [v]) : ∃ l : List Fn, IsFs W (fun k => k < W.heap.size) v l ∧ OKs l := by
  obtain ⟨f, h⟩ := h
  obtain ⟨v', V, g, _, h1, _, h3, h4⟩ := h.list FnV.cells (fun _ x => x.OK W) Tryd.underlying22 (by rw [cellsFun]; decide) bytesFun (fun g cs _ hr => rep_fun hr)
  simp only [List.cons.injEq, and_true] at h1
  subst h1
  rw [cellsFun] at h3
  refine ⟨V.map FnV.f, ⟨V, h3, fun x hx => (h4 x hx).1, rfl⟩, fun f hf => ?_⟩
  obtain ⟨x, hx, rfl⟩ := List.mem_map.1 hf
  exact (h4 x hx).2
end Go.Proofs.YtipabhbnljadfaaDoor
