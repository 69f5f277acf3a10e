/-
  Opening: rows of words.
-/
import Derived.Test.YtdpnnclkkbfihaaDoorFrep
import Derived.Test.YtdpnnclkkbfihaaDoorHeb
namespace Go.Proofs.YtdpnnclkkbfihaaDoor
open Go
set_option linter.unusedSimpArgs false
set_option linter.unusedVariables false

theorem rep_words {P : Program} {W : World} {t e : TypeId} {v : Value} (h : ∃ f, Rep P W f t [v]) (ht : P.underlying t = some (.slice e)) (he : P.underlying e = some (.int .u64)) (hc : P.cellsOf e = 1) (hb : 0 < P.bytesOf e) :
    ∃ l : List Nat, Rd W (fun k => k < W.heap.size) v l.length 1 (l.map Wd) ∧ ∀ y ∈ l, y < 18446744073709551616 := by
  obtain ⟨f, h⟩ := h
  obtain ⟨v', l, g, _, h1, h2, h3, h4⟩ := h.list (fun y : Nat => [Wd y]) (fun _ y => y < 18446744073709551616) ht (by omega) hb (fun g cs _ hr => by
    obtain ⟨n, h1, h2⟩ := hr.int he
    simp only [inK] at h2
    refine ⟨n.toNat, ?_, by omega⟩
    rw [h1]
    simp only [Wd]
    rw [show ((n.toNat : Nat) : Int) = n by omega])
  simp only [List.cons.injEq, and_true] at h1
  subst h1
  rw [hc, flatMap_single] at h3
  exact ⟨l, h3, h4⟩
end Go.Proofs.YtdpnnclkkbfihaaDoor
