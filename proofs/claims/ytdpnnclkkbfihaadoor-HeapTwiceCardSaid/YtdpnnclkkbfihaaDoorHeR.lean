/-
  heap: a list of strings as an argument; texts one behind the other as words. Plain, but for the opening.
-/
import Derived.Test.YtdpnnclkkbfihaaDoorFrep
import Derived.Test.YtdpnnclkkbfihaaDoorHej
namespace Go.Proofs.YtdpnnclkkbfihaaDoor
open Go
set_option linter.unusedSimpArgs false
set_option linter.unusedVariables false

def Str (s : List UInt8) : Value := .string ⟨s.toArray⟩
theorem rep_strs {P : Program} {W : World} {t e : TypeId} {v : Value} (h : ∃ f, Rep P W f t [v]) (ht : P.underlying t = some (.slice e)) (he : P.underlying e = some .string) (hc : P.cellsOf e = 1) (hb : 0 < P.bytesOf e) :
    ∃ l : List (List UInt8), Rd W (fun k => k < W.heap.size) v l.length 1 (l.map Str) ∧ ∀ s ∈ l, s.length ≤ 140737488351232 := by
  obtain ⟨f, h⟩ := h
  obtain ⟨v', l, g, _, h1, h2, h3, h4⟩ := h.list (fun s : List UInt8 => [Str s]) (fun _ s => s.length ≤ 140737488351232) ht (by omega) hb (fun g cs _ hr => by
    obtain ⟨s, h1, h2⟩ := hr.str he
    exact ⟨s, h1, h2⟩)
  simp only [List.cons.injEq, and_true] at h1
  subst h1
  rw [hc, flatMap_single] at h3
  exact ⟨l, h3, h4⟩

/-- texts as words, one behind the other -/
def memT : List (List UInt8) → List Nat
  | [] => []
  | s :: l => ((s.length * 256 + 3) :: encT s) ++ memT l
theorem memT_app : ∀ (a b : List (List UInt8)), memT (a ++ b) = memT a ++ memT b
  | [], b => rfl
  | s :: a, b => by simp [memT, memT_app a b]
theorem memT_snoc (a : List (List UInt8)) (s : List UInt8) : memT (a ++ [s]) = memT a ++ [s.length * 256 + 3] ++ encT s := by
  rw [memT_app]; simp [memT]
def placeT (l : List (List UInt8)) (i : Nat) : Nat := (memT (l.take i)).length
theorem memT_le : ∀ (l : List (List UInt8)), (∀ s ∈ l, s.length ≤ 1000) → (memT l).length ≤ 126 * l.length
  | [], _ => by simp [memT]
  | s :: l, h => by
    have h1 := memT_le l (fun x hx => h x (by simp [hx]))
    have h2 := h s (by simp)
    simp only [memT, List.length_append, List.length_cons, encT_len]
    omega
theorem TextAt.app {mem r : List Nat} {a : Nat} {s : List UInt8} (h : TextAt mem a s) : TextAt (mem ++ r) a s := by
  refine ⟨?_, fun j x hj => ?_⟩
  · rw [List.getElem?_append_left (List.getElem?_eq_some_iff.1 h.1).1]; exact h.1
  · have h2 := h.2 j x hj
    rw [List.getElem?_append_left (List.getElem?_eq_some_iff.1 h2).1]; exact h2
theorem textAt_mem {l : List (List UInt8)} {i : Nat} {s : List UInt8} (h : l[i]? = some s) : TextAt (memT l) (placeT l i) s := by
  have hi : i < l.length := (List.getElem?_eq_some_iff.1 h).1
  have e : l = l.take i ++ [s] ++ l.drop (i + 1) := by
    have h1 : l[i] = s := by rw [List.getElem?_eq_getElem hi] at h; exact Option.some.inj h
    rw [← h1]
    simp
  have h2 : TextAt (memT (l.take i) ++ [s.length * 256 + 3] ++ encT s ++ memT (l.drop (i + 1))) (memT (l.take i)).length s := TextAt.app (textAt_put _ s)
  have e2 : memT l = memT (l.take i) ++ [s.length * 256 + 3] ++ encT s ++ memT (l.drop (i + 1)) := by
    rw [← memT_snoc, ← memT_app, ← e]
  rw [e2]
  exact h2
end Go.Proofs.YtdpnnclkkbfihaaDoor
