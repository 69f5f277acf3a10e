/-
  The reference's check. No program in sight.
-/
import Derived.Test.YtipabhbnljadfaaDoorCoQ
namespace Go.Proofs.YtipabhbnljadfaaDoor
open Go
set_option linter.unusedSimpArgs false
set_option linter.unusedVariables false

def takesR (i : In) : Int :=
  if i.op = 6 then i.a
  else if i.op = 9 then (if i.n < 2 ∨ 1000 < i.n then -1 else i.n)
  else if i.op = 18 then (if i.n < 1 ∨ 1000000 < i.n then -1 else i.n + 1)
  else if i.op = 10 ∨ i.op = 11 ∨ i.op = 17 then (if i.n < 0 ∨ 100000 < i.n then -1 else 1)
  else if i.op = 7 then 2
  else if i.op = 20 then (if i.n < 0 ∨ 10 < i.n then -1 else 2)
  else if i.op = 8 ∨ i.op = 13 ∨ i.op = 14 ∨ i.op = 15 ∨ i.op = 16 ∨ i.op = 19 ∨ i.op = 21 ∨ i.op = 22 ∨ i.op = 23 then 1
  else if i.op = 0 ∨ i.op = 1 ∨ i.op = 2 ∨ i.op = 3 ∨ i.op = 4 ∨ i.op = 5 ∨ i.op = 12 ∨ i.op = 24 ∨ i.op = 25 ∨ i.op = 26 then 0
  else -1
def leavesR (i : In) : Int := if i.op = 8 ∨ i.op = 12 ∨ i.op = 13 ∨ i.op = 19 ∨ i.op = 24 ∨ i.op = 25 ∨ i.op = 26 then 0 else 1
def fineR (f : Fn) (i : In) (d t : Int) (all : List Fn) (globs : Int) : Bool :=
  if takesR i < 0 ∨ d ≤ takesR i then false
  else if i.op = 2 then decide (0 ≤ i.n) && decide (i.n < d)
  else if i.op = 3 then decide (0 ≤ i.n) && decide (i.n < f.caps)
  else if i.op = 5 then decide (0 ≤ i.n) && decide (i.n < globs)
  else if i.op = 6 then decide (0 ≤ i.n) && decide (i.n < (all.length : Int)) && decide ((all[i.n.toNat]?).map (·.caps) = some i.a)
  else if i.op = 8 then decide (d = 2) && decide (t = 0)
  else if i.op = 25 then decide (0 < t)
  else true
theorem op27 {op : Nat} (h : op < 27) : op = 0 ∨ op = 1 ∨ op = 2 ∨ op = 3 ∨ op = 4 ∨ op = 5 ∨ op = 6 ∨ op = 7 ∨ op = 8 ∨ op = 9 ∨ op = 10 ∨ op = 11 ∨ op = 12 ∨ op = 13 ∨ op = 14 ∨ op = 15 ∨ op = 16 ∨ op = 17 ∨ op = 18 ∨ op = 19 ∨ op = 20 ∨ op = 21 ∨ op = 22 ∨ op = 23 ∨ op = 24 ∨ op = 25 ∨ op = 26 := by omega
section
variable {f : Fn} {all : List Fn} {globs : Int} {i : In} {d t : Int}
theorem fineR_bd (h : fineR f i d t all globs = true) : 0 ≤ takesR i ∧ takesR i < d := by
  unfold fineR at h
  by_cases hc : takesR i < 0 ∨ d ≤ takesR i
  · rw [if_pos hc] at h; cases h
  · omega
theorem takesR_op (h : 0 ≤ takesR i) : i.op < 27 := by
  refine Nat.lt_of_not_le fun h27 => ?_
  unfold takesR at h
  simp (disch := omega) only [if_neg] at h
  omega
theorem lv_eq (h : i.op < 27) (h26 : i.op ≠ 26) : leavesR i = lvT i.op := by
  have key : ∀ q : Fin 27, q.1 ≠ 26 → (if q.1 = 8 ∨ q.1 = 12 ∨ q.1 = 13 ∨ q.1 = 19 ∨ q.1 = 24 ∨ q.1 = 25 ∨ q.1 = 26 then (0 : Int) else 1) = lvT q.1 := by decide
  exact key ⟨i.op, h⟩ h26
theorem takes_eq (h : 0 ≤ takesR i) : takesR i = nnI i := by
  have hop := takesR_op h
  revert h
  unfold takesR nnI
  rcases op27 hop with e | e | e | e | e | e | e | e | e | e | e | e | e | e | e | e | e | e | e | e | e | e | e | e | e | e | e <;> rw [e] <;> simp [tkT, takesT] <;> (try (split <;> simp)) <;> omega
theorem fineR_try (h : fineR f i d t all globs = true) (ht : 0 ≤ t) : 0 ≤ t + dtI i ∧ t + dtI i ≤ t + 1 := by
  unfold dtI
  split
  · omega
  · split
    · rename_i h24 h25
      unfold fineR at h
      have hc := fineR_bd (f := f) (all := all) (globs := globs) (t := t) (d := d) (i := i) h
      rw [if_neg (by omega)] at h
      simp [h25] at h
      omega
    · omega
theorem fine_bad27 (h : ¬ i.op < 27) : fineB f i d t all globs = false := by
  unfold fineB
  rw [if_pos (by omega)]
theorem fineR_eq (hp : PosAll all) (hd : 1 ≤ d) (hd2 : d ≤ 100000) : fineR f i d t all globs = fineB f i d t all globs := by
  by_cases hop : i.op < 27
  · rw [Bool.eq_iff_iff]
    unfold fineR fineB takesR
    rcases op27 hop with e | e | e | e | e | e | e | e | e | e | e | e | e | e | e | e | e | e | e | e | e | e | e | e | e | e | e <;> rw [e] <;> simp [tkT, takesT]
    all_goals first
      | (intros; omega)
      | (split <;> omega)
      | (constructor
         · rintro ⟨⟨_, h1⟩, h2, h3⟩
           exact ⟨⟨h2, h3⟩, h1⟩
         · rintro ⟨⟨h2, g, h3, h4⟩, h1⟩
           exact ⟨⟨h4 ▸ hp g (List.mem_of_getElem? h3), h1⟩, h2, g, h3, h4⟩)
  · rw [fine_bad27 hop]
    refine Bool.eq_false_iff.2 fun h => ?_
    exact hop (takesR_op (fineR_bd h).1)

/-- a place is done -/
def ProcL (f : Fn) (all : List Fn) (globs : Int) (l : List (Int × Int × Int)) (x : Int × Int × Int) : Prop := ∃ i, f.code[x.1.toNat]? = some i ∧ fineB f i x.2.1 x.2.2 all globs = true ∧
  ∀ y ∈ succsI i x.1.toNat x.2.1 x.2.2, x.1 < y.1 ∧ y.1 < (f.code.length : Int) ∧ y ∈ l
theorem ProcL.more {l : List (Int × Int × Int)} {x y : Int × Int × Int} (h : ProcL f all globs l x) : ProcL f all globs (l ++ [y]) x := by
  obtain ⟨i, h1, h2, h3⟩ := h
  exact ⟨i, h1, h2, fun z hz => by obtain ⟨a, b, c⟩ := h3 z hz; exact ⟨a, b, List.mem_append.2 (.inl c)⟩⟩
structure InvR (f : Fn) (all : List Fn) (globs : Int) (k : Nat) (l : List (Int × Int × Int)) : Prop where
  h0 : l[0]? = some (0, 1, 0)
  nd : (l.map (·.1)).Nodup
  bd : ∀ x ∈ l, 0 ≤ x.1 ∧ x.1 < (f.code.length : Int) ∧ 1 ≤ x.2.1 ∧ x.2.1 ≤ x.1 + 1 ∧ 0 ≤ x.2.2 ∧ x.2.2 ≤ x.1
  pr : PosAll all → ∀ (j : Nat) x, l[j]? = some x → j < k → ProcL f all globs l x
  lb : PosAll all → ∀ L, GoodL f all globs L → ∀ x ∈ l, L x.1.toNat = some (x.2.1, x.2.2)
theorem nodup_len : ∀ (n : Nat) (l : List Int), l.Nodup → (∀ x ∈ l, 0 ≤ x ∧ x < (n : Int)) → l.length ≤ n
  | 0, l, _, h => by
    cases l with
    | nil => simp
    | cons a l => have := h a List.mem_cons_self; omega
  | n + 1, l, hn, h => by
    have h1 := nodup_len n (l.erase (n : Int)) (hn.erase _) (fun x hx => by
      have h2 := h x (List.mem_of_mem_erase hx)
      have h3 : x ≠ (n : Int) := fun e => by subst e; exact (List.Nodup.not_mem_erase hn) hx
      omega)
    have h2 : l.length ≤ (l.erase (n : Int)).length + 1 := by
      rw [List.length_erase]
      split <;> omega
    omega
theorem InvR.len {k : Nat} {l : List (Int × Int × Int)} (h : InvR f all globs k l) : l.length ≤ f.code.length := by
  have := nodup_len f.code.length (l.map (·.1)) h.nd (fun x hx => by
    obtain ⟨y, hy, rfl⟩ := List.mem_map.1 hx
    have := h.bd y hy
    exact ⟨this.1, this.2.1⟩)
  simpa using this
/-- x's successors are labelled so by whatever is good -/
theorem good_succ {L : Nat → Option (Int × Int)} (hL : GoodL f all globs L) {x y : Int × Int × Int} (hx : L x.1.toNat = some (x.2.1, x.2.2)) (hx0 : 0 ≤ x.1) (hi : f.code[x.1.toNat]? = some i) (hy : y ∈ succsI i x.1.toNat x.2.1 x.2.2) :
    x.1 < y.1 ∧ y.1 < (f.code.length : Int) ∧ L y.1.toNat = some (y.2.1, y.2.2) := by
  obtain ⟨i', hi', _, hs⟩ := hL.2 _ _ _ hx
  rw [hi] at hi'
  have := Option.some.inj hi'
  subst this
  have := hs y hy
  exact ⟨by omega, this.2⟩
theorem InvR.add {k : Nat} {l : List (Int × Int × Int)} (h : InvR f all globs k l) (hk : k ≤ l.length) {x y : Int × Int × Int} (hx : x ∈ l) (hi : f.code[x.1.toNat]? = some i) (hy : y ∈ succsI i x.1.toNat x.2.1 x.2.2)
    (hyb : 0 ≤ y.1 ∧ y.1 < (f.code.length : Int) ∧ 1 ≤ y.2.1 ∧ y.2.1 ≤ y.1 + 1 ∧ 0 ≤ y.2.2 ∧ y.2.2 ≤ y.1) (hno : ∀ z ∈ l, z.1 ≠ y.1) : InvR f all globs k (l ++ [y]) := by
  have hl : 0 < l.length := List.length_pos_of_mem hx
  refine ⟨by rw [List.getElem?_append_left hl]; exact h.h0, ?_, fun z hz => ?_, fun hp j z hj hjk => ?_, fun hp L hL z hz => ?_⟩
  · rw [List.map_append, List.nodup_append]
    refine ⟨h.nd, by simp, fun a ha b hb => ?_⟩
    obtain ⟨z, hz, rfl⟩ := List.mem_map.1 ha
    simp only [List.map_cons, List.map_nil, List.mem_singleton] at hb
    subst hb
    exact hno z hz
  · rcases List.mem_append.1 hz with hz | hz
    · exact h.bd z hz
    · rw [List.mem_singleton] at hz; subst hz; exact hyb
  · rcases Nat.lt_or_ge j l.length with h1 | h1
    · rw [List.getElem?_append_left h1] at hj
      exact (h.pr hp j z hj hjk).more
    · omega
  · rcases List.mem_append.1 hz with hz | hz
    · exact h.lb hp L hL z hz
    · rw [List.mem_singleton] at hz
      subst hz
      exact (good_succ hL (h.lb hp L hL x hx) (h.bd x hx).1 hi hy).2.2
theorem InvR.end {l : List (Int × Int × Int)} (hp : PosAll all) (h : InvR f all globs l.length l) : GoodF f all globs := by
  have hfind : ∀ x ∈ l, (l.find? fun y => decide (y.1 = x.1)).map (·.2) = some x.2 := fun x hx => by
    cases hf : l.find? (fun y => decide (y.1 = x.1)) with
    | none =>
      have := List.find?_eq_none.1 hf x hx
      simp at this
    | some y =>
      have h1 := List.find?_some hf
      have h2 := List.mem_of_find?_eq_some hf
      have h3 : y = x := by
        obtain ⟨a, ha⟩ := List.mem_iff_getElem?.1 h2
        obtain ⟨b, hb⟩ := List.mem_iff_getElem?.1 hx
        have hab : a = b := by
          have hn := h.nd
          simp only [decide_eq_true_eq] at h1
          obtain ⟨la, ea⟩ := List.getElem?_eq_some_iff.1 ha
          obtain ⟨lb, eb⟩ := List.getElem?_eq_some_iff.1 hb
          rcases Nat.lt_trichotomy a b with hlt | hlt | hlt
          · have := List.pairwise_iff_getElem.1 hn a b (by simpa using la) (by simpa using lb) hlt
            rw [List.getElem_map, List.getElem_map, ea, eb] at this
            exact absurd h1 this
          · exact hlt
          · have := List.pairwise_iff_getElem.1 hn b a (by simpa using lb) (by simpa using la) hlt
            rw [List.getElem_map, List.getElem_map, ea, eb] at this
            exact absurd h1.symm this
        subst hab
        rw [ha] at hb
        exact Option.some.inj hb
      rw [h3]
      rfl
  refine ⟨fun k => (l.find? fun y => decide (y.1 = (k : Int))).map (·.2), ?_, fun k d t hk => ?_⟩
  · exact hfind (0, 1, 0) (List.mem_of_getElem? h.h0)
  · cases hf : l.find? (fun y => decide (y.1 = (k : Int))) with
    | none => simp only [hf] at hk; cases hk
    | some y =>
      simp only [hf, Option.map_some, Option.some.injEq] at hk
      have h1 := List.find?_some hf
      have h2 := List.mem_of_find?_eq_some hf
      simp only [decide_eq_true_eq] at h1
      obtain ⟨j, hj⟩ := List.mem_iff_getElem?.1 h2
      obtain ⟨i, a1, a2, a3⟩ := h.pr hp j y hj (List.getElem?_eq_some_iff.1 hj).1
      have hyt : y.1.toNat = k := by omega
      rw [hyt] at a1 a3
      rw [hk] at a2 a3
      refine ⟨i, a1, a2, fun x hx => ?_⟩
      obtain ⟨b1, b2, b3⟩ := a3 x hx
      have h0 := (h.bd x b3).1
      refine ⟨by omega, b2, ?_⟩
      have := hfind x b3
      show (l.find? fun y => decide (y.1 = ((x.1.toNat : Nat) : Int))).map (·.2) = _
      rw [show ((x.1.toNat : Nat) : Int) = x.1 by omega]
      exact this
end
end Go.Proofs.YtipabhbnljadfaaDoor
