/-
  Sessions: what was answered last, rising. No program in sight.
-/
import Derived.Test.YtipabhbnljadfaaEncP
namespace Go.Proofs.Ytipabhbnljadfaa
open Go
set_option linter.unusedSimpArgs false
set_option linter.unusedVariables false

/-- a session: its number, its last number, what was answered -/
structure Ls where
  id : Nat
  num : Nat
  data : List UInt8
theorem Ls.eq_iff {a b : Ls} : a = b ↔ (a.id = b.id ∧ a.num = b.num) ∧ a.data = b.data := by
  obtain ⟨i, t, d⟩ := a
  obtain ⟨i', t', d'⟩ := b
  simp [and_assoc]
instance : DecidableEq Ls := fun a b => decidable_of_iff _ Ls.eq_iff.symm
def Ls.ok (x : Ls) : Prop := 0 < x.id ∧ x.id < 18446744073709551616 ∧ 0 < x.num ∧ x.num < 18446744073709551616 ∧ x.data.length ≤ 1048576
/-- sessions rise -/
def Rise (L : List Ls) : Prop := L.Pairwise fun a b => a.id < b.id
/-- where a session is, or would be -/
def lbI : List Ls → Nat → Nat
  | [], _ => 0
  | x :: L, id => if x.id < id then lbI L id + 1 else 0
theorem lbI_le : ∀ (L : List Ls) (id : Nat), lbI L id ≤ L.length
  | [], _ => Nat.le_refl _
  | x :: L, id => by
    have := lbI_le L id
    simp only [lbI, List.length_cons]
    split <;> omega
theorem lbI_below : ∀ {L : List Ls} {id i : Nat} {x : Ls}, L[i]? = some x → i < lbI L id → x.id < id
  | [], _, _, _, h, _ => by simp at h
  | y :: L, id, 0, x, h, hi => by
    simp only [List.getElem?_cons_zero, Option.some.injEq] at h
    subst h
    simp only [lbI] at hi
    split at hi
    · assumption
    · omega
  | y :: L, id, i + 1, x, h, hi => by
    simp only [List.getElem?_cons_succ] at h
    simp only [lbI] at hi
    split at hi
    · exact lbI_below h (by omega)
    · omega
theorem lbI_above : ∀ {L : List Ls} {id i : Nat} {x : Ls}, Rise L → L[i]? = some x → lbI L id ≤ i → id ≤ x.id
  | [], _, _, _, _, h, _ => by simp at h
  | y :: L, id, 0, x, hR, h, hi => by
    simp only [List.getElem?_cons_zero, Option.some.injEq] at h
    subst h
    simp only [lbI] at hi
    split at hi
    · omega
    · omega
  | y :: L, id, i + 1, x, hR, h, hi => by
    simp only [List.getElem?_cons_succ] at h
    obtain ⟨h1, h2⟩ := List.pairwise_cons.1 hR
    simp only [lbI] at hi
    split at hi
    · exact lbI_above h2 h (by omega)
    · have := h1 x (List.mem_of_getElem? h)
      omega
/-- the place is the only one with all ahead below, and none behind -/
theorem lbI_eq {L : List Ls} {id k : Nat} (hR : Rise L) (hk : k ≤ L.length) (h1 : ∀ i x, L[i]? = some x → i < k → x.id < id) (h2 : ∀ i x, L[i]? = some x → k ≤ i → id ≤ x.id) : lbI L id = k := by
  rcases Nat.lt_trichotomy (lbI L id) k with h | h | h
  · have hl : lbI L id < L.length := by omega
    have hg := List.getElem?_eq_getElem hl
    have := h1 _ _ hg h
    have := lbI_above hR hg (Nat.le_refl _)
    omega
  · exact h
  · have hl : k < L.length := by have := lbI_le L id; omega
    have hg := List.getElem?_eq_getElem hl
    have := h2 _ _ hg (Nat.le_refl _)
    have := lbI_below hg h
    omega
/-- is a session there? -/
def isAt (L : List Ls) (id : Nat) : Bool := match L[lbI L id]? with
  | some x => decide (x.id = id)
  | none => false
theorem isAt_iff {L : List Ls} (hR : Rise L) {id : Nat} : isAt L id = true ↔ ∃ x ∈ L, x.id = id := by
  unfold isAt
  constructor
  · intro h
    split at h
    · rename_i x hx
      exact ⟨x, List.mem_of_getElem? hx, of_decide_eq_true h⟩
    · cases h
  · rintro ⟨x, hx, rfl⟩
    obtain ⟨i, hi⟩ := List.mem_iff_getElem?.1 hx
    have h1 : lbI L x.id ≤ i := by
      apply Nat.le_of_not_lt
      intro h
      have := lbI_below hi h
      omega
    have h2 : ¬ lbI L x.id < i := fun h => by
      have hl : lbI L x.id < L.length := by have := (List.getElem?_eq_some_iff.1 hi).1; omega
      have hg := List.getElem?_eq_getElem hl
      have h3 := lbI_above hR hg (Nat.le_refl _)
      have h4 : (L[lbI L x.id]).id < x.id := by
        obtain ⟨hi', he⟩ := List.getElem?_eq_some_iff.1 hi
        have h5 := List.pairwise_iff_getElem.1 hR _ _ hl hi' h
        rw [he] at h5
        exact h5
      omega
    have h3 : lbI L x.id = i := by omega
    rw [h3, hi]
    simp
/-- what was answered; the error's number -/
def askS (L : List Ls) (id num : Nat) : List UInt8 × Nat :=
  if id = 0 ∨ num = 0 then ([], 1)
  else if isAt L id = true then
    match L[lbI L id]? with
    | some x => if x.num < num then ([], 6) else if num < x.num then ([], 16) else (x.data, 0)
    | none => ([], 6)
  else if 64 ≤ L.length then ([], 2) else ([], 6)
/-- the table behind a Put -/
def insS (L : List Ls) (x : Ls) : List Ls := if isAt L x.id = true then L.set (lbI L x.id) x else L.take (lbI L x.id) ++ x :: L.drop (lbI L x.id)
def putS (L : List Ls) (x : Ls) : List Ls × Nat :=
  if (askS L x.id x.num).2 = 6 then (insS L x, 0) else if (askS L x.id x.num).2 = 0 then (L, 7) else (L, (askS L x.id x.num).2)

theorem rise_map {L : List Ls} : Rise L ↔ (L.map Ls.id).Pairwise (· < ·) := by
  unfold Rise
  rw [List.pairwise_map]
theorem isAt_get {L : List Ls} {id : Nat} (h : isAt L id = true) : ∃ x, L[lbI L id]? = some x ∧ x.id = id := by
  unfold isAt at h
  cases hg : L[lbI L id]? with
  | none => rw [hg] at h; cases h
  | some x => rw [hg] at h; exact ⟨x, rfl, by simpa using h⟩
theorem rise_ins {L : List Ls} {x : Ls} (hR : Rise L) : Rise (insS L x) := by
  unfold insS
  split
  · rename_i h
    obtain ⟨y, hy, hid⟩ := isAt_get h
    rw [rise_map] at hR ⊢
    rw [List.map_set]
    have e : (L.map Ls.id).set (lbI L x.id) x.id = L.map Ls.id := by
      apply List.ext_getElem?
      intro k
      rw [List.getElem?_set]
      split
      · rename_i hk
        subst hk
        rw [List.getElem?_map, hy]
        have := (List.getElem?_eq_some_iff.1 hy).1
        simp [hid, this]
      · rfl
    rw [e]
    exact hR
  · rename_i h
    have hno : ∀ y ∈ L, y.id ≠ x.id := fun y hy e => h ((isAt_iff hR).2 ⟨y, hy, e⟩)
    have h1 : ∀ y ∈ L.take (lbI L x.id), y.id < x.id := fun y hy => by
      obtain ⟨k, hk⟩ := List.mem_iff_getElem?.1 hy
      rw [List.getElem?_take] at hk
      split at hk
      · exact lbI_below hk (by assumption)
      · cases hk
    have h2 : ∀ y ∈ L.drop (lbI L x.id), x.id < y.id := fun y hy => by
      have hm := List.mem_of_mem_drop hy
      obtain ⟨k, hk⟩ := List.mem_iff_getElem?.1 hy
      rw [List.getElem?_drop] at hk
      have := lbI_above hR hk (Nat.le_add_right _ _)
      have := hno y hm
      omega
    refine List.pairwise_append.2 ⟨hR.sublist (List.take_sublist _ _), List.pairwise_cons.2 ⟨h2, hR.sublist (List.drop_sublist _ _)⟩, fun a ha b hb => ?_⟩
    rcases List.mem_cons.1 hb with rfl | hb
    · exact h1 a ha
    · have := h1 a ha
      have := h2 b hb
      omega
theorem mem_ins {L : List Ls} {x y : Ls} (h : y ∈ insS L x) : y ∈ L ∨ y = x := by
  unfold insS at h
  split at h
  · exact List.mem_or_eq_of_mem_set h
  · rcases List.mem_append.1 h with h | h
    · exact .inl (List.mem_of_mem_take h)
    · rcases List.mem_cons.1 h with h | h
      · exact .inr h
      · exact .inl (List.mem_of_mem_drop h)
theorem askS_six {L : List Ls} {id num : Nat} (h : (askS L id num).2 = 6) : 0 < id ∧ 0 < num ∧ (isAt L id = true ∨ L.length < 64) := by
  unfold askS at h
  split at h
  · cases h
  · split at h
    · rename_i h1 h2
      exact ⟨by omega, by omega, .inl h2⟩
    · split at h
      · cases h
      · exact ⟨by omega, by omega, .inr (by omega)⟩
theorem len_ins {L : List Ls} {x : Ls} : (insS L x).length = if isAt L x.id = true then L.length else L.length + 1 := by
  unfold insS
  split
  · rw [List.length_set]
  · have := lbI_le L x.id
    simp only [List.length_append, List.length_take, List.length_cons, List.length_drop]
    omega
/-- a table that may be -/
structure TOK (L : List Ls) : Prop where
  rise : Rise L
  most : L.length ≤ 64
  ok : ∀ x ∈ L, x.ok
theorem TOK.nil : TOK [] := ⟨List.Pairwise.nil, by simp, fun x h => by cases h⟩
theorem TOK.put {L : List Ls} {x : Ls} (h : TOK L) (h1 : x.id < 18446744073709551616) (h2 : x.num < 18446744073709551616) (h3 : x.data.length ≤ 1048576) : TOK (putS L x).1 := by
  unfold putS
  split
  · rename_i h6
    obtain ⟨a1, a2, a3⟩ := askS_six h6
    refine ⟨rise_ins h.rise, ?_, fun y hy => ?_⟩
    · show (insS L x).length ≤ 64
      rw [len_ins]
      have := h.most
      split <;> rename_i hn
      · omega
      · rcases a3 with a3 | a3
        · exact absurd a3 hn
        · omega
    · rcases mem_ins hy with hy | rfl
      · exact h.ok y hy
      · exact ⟨a1, h1, a2, h2, h3⟩
  · split <;> exact h
end Go.Proofs.Ytipabhbnljadfaa
