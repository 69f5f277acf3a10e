/-
  canon, by a function on numbers; what an opened scheme is. No program in sight.
-/
import Derived.Test.YtncakfcafkfmfaaTyV
namespace Go.Proofs.Ytncakfcafkfmfaa
open Go
set_option linter.unusedSimpArgs false
set_option linter.unusedVariables false

/-- the place of a number in a list, from k on; what isn't there is turned -/
def clI : List Int → Int → Int → Int
  | [], _, x => -x
  | a :: l, k, x => if a = x then k else clI l (k + 1) x
theorem clI_at : ∀ {l : List Int} {k x : Int} {i : Nat}, l[i]? = some x → (∀ j, j < i → l[j]? ≠ some x) → clI l k x = k + i
  | [], k, x, i, h, _ => by simp at h
  | a :: l, k, x, 0, h, _ => by simp at h; subst h; simp [clI]
  | a :: l, k, x, i + 1, h, hn => by
    have ha : ¬ a = x := fun e => hn 0 (by omega) (by simp [e])
    simp only [clI, ha, if_false]
    rw [clI_at (i := i) (by simpa using h) (fun j hj => by have := hn (j + 1) (by omega); simpa using this)]
    omega
theorem clI_no : ∀ {l : List Int} {k x : Int}, x ∉ l → clI l k x = -x
  | [], k, x, _ => rfl
  | a :: l, k, x, h => by
    have ha : ¬ a = x := fun e => h (by simp [e])
    simp only [clI, ha, if_false]
    exact clI_no fun hx => h (List.mem_cons_of_mem _ hx)
theorem clI_range : ∀ {l : List Int} {k x : Int}, x ∈ l → k ≤ clI l k x ∧ clI l k x < k + l.length
  | [], k, x, h => by cases h
  | a :: l, k, x, h => by
    by_cases ha : a = x
    · simp only [clI, ha, if_true, List.length_cons]; omega
    · simp only [clI, ha, if_false, List.length_cons]
      have := clI_range (l := l) (k := k + 1) (x := x) (by rcases List.mem_cons.1 h with h | h; exact absurd h.symm ha; exact h)
      omega
theorem clI_inj : ∀ {l : List Int} {k a b : Int}, a ∈ l → b ∈ l → clI l k a = clI l k b → a = b
  | [], k, a, b, h, _, _ => by cases h
  | c :: l, k, a, b, ha, hb, e => by
    by_cases h1 : c = a
    · by_cases h2 : c = b
      · rw [← h1, h2]
      · have hb' : b ∈ l := by rcases List.mem_cons.1 hb with h | h; exact absurd h.symm h2; exact h
        have := clI_range (l := l) (k := k + 1) hb'
        simp only [clI, h1, h2, if_true, if_false] at e
        rw [if_neg (fun e2 => h2 (h1.trans e2))] at e
        omega
    · have ha' : a ∈ l := by rcases List.mem_cons.1 ha with h | h; exact absurd h.symm h1; exact h
      by_cases h2 : c = b
      · have := clI_range (l := l) (k := k + 1) ha'
        simp only [clI, h1, h2, if_true, if_false] at e
        rw [if_neg (fun e2 => h1 (h2.trans e2))] at e
        omega
      · have hb' : b ∈ l := by rcases List.mem_cons.1 hb with h | h; exact absurd h.symm h2; exact h
        simp only [clI, h1, h2, if_false] at e
        exact clI_inj ha' hb' e
def onesK (n : Nat) (k : Int) : List Int := (List.range n).map fun (j : Nat) => (j : Int) + k
theorem onesK_cons (n : Nat) (k : Int) : onesK (n + 1) k = k :: onesK n (k + 1) := by
  simp only [onesK, List.range_succ_eq_map, List.map_cons, List.map_map]
  congr 1
  · omega
  · exact List.map_congr_left fun j _ => by simp only [Function.comp]; omega
theorem putT_cl : ∀ {vs : List Int} {k x : Int}, x ∈ vs → putT vs ((onesK vs.length k).map Ty.v) x = .v (clI vs k x)
  | [], k, x, h => by cases h
  | a :: vs, k, x, h => by
    rw [List.length_cons, onesK_cons, List.map_cons]
    by_cases ha : a = x
    · simp only [putT, clI, ha, if_true]
    · simp only [putT, clI, ha, if_false]
      exact putT_cl (by rcases List.mem_cons.1 h with h | h; exact absurd h.symm ha; exact h)
theorem mem_varsOf {t : Ty} {x : Int} : x ∈ varsOf t ↔ x ∈ vars t := by unfold varsOf; rw [mem_nubA]; simp
theorem canon_cl (t : Ty) : canon t = ext (fun x => .v (clI (varsOf t) 1 x)) t := by
  unfold canon
  exact ext_congr fun y hy => putT_cl (mem_varsOf.2 hy)
theorem varsOf_ren {f : Int → Int} {t : Ty} (h : ∀ a b, a ∈ vars t → b ∈ vars t → f a = f b → a = b) : varsOf (ext (fun x => .v (f x)) t) = (varsOf t).map f := by
  unfold varsOf
  rw [vars_ext_v]
  have := nubA_map (f := f) (vars t) [] (fun a b ha hb e => h a b (by simpa using ha) (by simpa using hb) e)
  simpa using this
theorem varsOf_canon (t : Ty) : varsOf (canon t) = (varsOf t).map (clI (varsOf t) 1) := by
  rw [canon_cl]
  exact varsOf_ren fun a b ha hb e => clI_inj (mem_varsOf.2 ha) (mem_varsOf.2 hb) e
theorem canon_canon (t : Ty) : canon (canon t) = canon t := by
  have : canon (canon t) = canon (ext (fun x => .v (clI (varsOf t) 1 x)) t) := by rw [← canon_cl]
  rw [this]
  exact canon_rename fun a b ha hb e => clI_inj (mem_varsOf.2 ha) (mem_varsOf.2 hb) e
theorem vars_canon {t : Ty} {y : Int} (h : y ∈ vars (canon t)) : 1 ≤ y ∧ y ≤ (varsOf t).length := by
  have h2 := mem_varsOf.2 h
  rw [varsOf_canon] at h2
  obtain ⟨x, hx, rfl⟩ := List.mem_map.1 h2
  have := clI_range (k := 1) hx
  omega
/-- a scheme's type, its variables numbered behind n0 -/
theorem opened {t : Ty} (n0 : Int) : canon (ext (fun x => .v (n0 + x)) (canon t)) = canon t ∧ (varsOf (ext (fun x => .v (n0 + x)) (canon t))).length = (varsOf t).length ∧ ∀ y, y ∈ varsOf (ext (fun x => .v (n0 + x)) (canon t)) → n0 + 1 ≤ y ∧ y ≤ n0 + (varsOf t).length := by
  have hinj : ∀ a b, a ∈ vars (canon t) → b ∈ vars (canon t) → n0 + a = n0 + b → a = b := fun a b _ _ e => by omega
  have hv := varsOf_ren hinj
  refine ⟨(canon_rename hinj).trans (canon_canon t), ?_, fun y hy => ?_⟩
  · rw [hv, varsOf_canon]; simp
  · rw [hv] at hy
    obtain ⟨x, hx, rfl⟩ := List.mem_map.1 hy
    have := vars_canon (mem_varsOf.1 hx)
    omega
/-- what Open puts in: a number from 1 to n gets a new one -/
def opI (n0 : Int) (n : Nat) (x : Int) : Int := if 1 ≤ x ∧ x ≤ n then n0 + x else max x (-x)
theorem open_canon {t : Ty} (n0 : Int) : ext (fun x => .v (opI n0 (varsOf t).length x)) (canon t) = ext (fun x => .v (n0 + x)) (canon t) :=
  ext_congr fun y hy => by
    have := vars_canon hy
    simp only [opI]
    rw [if_pos ⟨this.1, by omega⟩]
end Go.Proofs.Ytncakfcafkfmfaa
