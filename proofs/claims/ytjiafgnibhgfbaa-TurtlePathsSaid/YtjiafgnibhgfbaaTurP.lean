/-
  The turtle, in plain Lean: no program in sight.
-/
import Derived.Test.YtjiafgnibhgfbaaFi
namespace Go.Proofs.Ytjiafgnibhgfbaa
open Go
set_option linter.unusedSimpArgs false
set_option linter.unusedVariables false

/-- a move: a turn? and its number -/
abbrev Mv := Bool × Int
/-- a quarter to the left -/
def rot (l : Int × Int) : Int × Int := (-l.2, l.1)
def rotN : Nat → Int × Int → Int × Int
  | 0, l => l
  | j + 1, l => rot (rotN j l)

structure TS where
  out : List (Int × Int)
  pos : Int × Int
  look : Int × Int

def stepM (s : TS) (m : Mv) : Option TS :=
  if m.1 = true then some { s with look := rotN (m.2 % 4).toNat s.look }
  else if m.2 < -1000000 ∨ 1000000 < m.2 then none
  else some { out := s.out ++ [(s.pos.1 + s.look.1 * m.2, s.pos.2 + s.look.2 * m.2)], pos := (s.pos.1 + s.look.1 * m.2, s.pos.2 + s.look.2 * m.2), look := s.look }
def goM (l : List Mv) (s : TS) : Option TS := l.foldl (fun o m => o.bind fun s => stepM s m) (some s)
def ts0 : TS := { out := [(0, 0)], pos := (0, 0), look := (0, 1) }

theorem foldl_none (l : List Mv) : l.foldl (fun o m => o.bind fun s => stepM s m) (none : Option TS) = none := by
  induction l with
  | nil => rfl
  | cons m l ih => rw [List.foldl_cons]; exact ih
theorem goM_nil (s : TS) : goM [] s = some s := rfl
theorem goM_cons (m : Mv) (l : List Mv) (s : TS) : goM (m :: l) s = (stepM s m).bind (goM l) := by
  unfold goM
  rw [List.foldl_cons, Option.bind_some]
  cases stepM s m with
  | none => rw [foldl_none]; rfl
  | some s' => rfl
theorem goM_append (a b : List Mv) (s : TS) : goM (a ++ b) s = (goM a s).bind (goM b) := by
  induction a generalizing s with
  | nil => rfl
  | cons m a ih =>
    rw [List.cons_append, goM_cons, goM_cons]
    cases stepM s m with
    | none => rfl
    | some s' => exact ih s'
theorem goM_take_succ {l : List Mv} {i : Nat} (h : i < l.length) (s : TS) : goM (l.take (i + 1)) s = (goM (l.take i) s).bind fun s => stepM s l[i] := by
  rw [List.take_succ_eq_append_getElem h, goM_append]
  have h1 : goM [l[i]] = fun s => stepM s l[i] := by
    funext s
    rw [goM_cons]
    cases stepM s l[i] <;> rfl
  rw [h1]

/-- a step ahead -/
def unit (p : Int × Int) : Prop := (p.1 = 0 ∧ (p.2 = 1 ∨ p.2 = -1)) ∨ (p.2 = 0 ∧ (p.1 = 1 ∨ p.1 = -1))
theorem unit_rot {p : Int × Int} (h : unit p) : unit (rot p) := by
  unfold unit rot at *
  simp only
  omega
theorem unit_rotN {p : Int × Int} (h : unit p) : ∀ j, unit (rotN j p)
  | 0 => h
  | j + 1 => unit_rot (unit_rotN h j)
/-- what holds of a turtle behind i moves -/
structure Fine (i : Nat) (s : TS) : Prop where
  u : unit s.look
  x : s.pos.1.natAbs ≤ 1000000 * i
  y : s.pos.2.natAbs ≤ 1000000 * i
  len : s.out.length ≤ i + 1
  out : ∀ p ∈ s.out, p.1.natAbs ≤ 1000000 * i ∧ p.2.natAbs ≤ 1000000 * i
theorem fine0 : Fine 0 ts0 := ⟨.inl ⟨rfl, .inl rfl⟩, by decide, by decide, by decide, by decide⟩
theorem unit_mul {p : Int × Int} (h : unit p) {n : Int} (h1 : -1000000 ≤ n) (h2 : n ≤ 1000000) : (p.1 * n).natAbs ≤ 1000000 ∧ (p.2 * n).natAbs ≤ 1000000 := by
  unfold unit at h
  rcases h with ⟨h0, h | h⟩ | ⟨h0, h | h⟩ <;> rw [h0, h] <;> omega
theorem fine_step {i : Nat} {s s' : TS} {m : Mv} (h : Fine i s) (hs : stepM s m = some s') : Fine (i + 1) s' := by
  have hx := h.x
  have hy := h.y
  have hl := h.len
  have ho := h.out
  unfold stepM at hs
  split at hs
  · injection hs with hs
    subst hs
    exact ⟨unit_rotN h.u _, by simp only; omega, by simp only; omega, by simp only; omega, fun p hp => by have := ho p hp; omega⟩
  · split at hs
    · cases hs
    · rename_i hr
      injection hs with hs
      subst hs
      have hm := unit_mul h.u (n := m.2) (by omega) (by omega)
      exact ⟨h.u, by simp only; omega, by simp only; omega, by simp; omega, fun p hp => by
        simp only [List.mem_append, List.mem_singleton] at hp
        rcases hp with hp | rfl
        · have := ho p hp; omega
        · simp only; omega⟩
theorem fine_go : ∀ {l : List Mv} {i : Nat} {s s' : TS}, Fine i s → goM l s = some s' → Fine (i + l.length) s'
  | [], i, s, s', h, hg => by
    injection hg with hg
    subst hg
    exact h
  | m :: l, i, s, s', h, hg => by
    rw [goM_cons] at hg
    cases hs : stepM s m with
    | none => rw [hs] at hg; cases hg
    | some t =>
      rw [hs] at hg
      have := fine_go (fine_step h hs) hg
      rw [List.length_cons, show i + (l.length + 1) = i + 1 + l.length by omega]
      exact this

/-- the cells of moves -/
def movC (l : List Mv) : List Value := l.flatMap fun m => [.bool m.1, .int .i64 m.2]
theorem movC_length (l : List Mv) : (movC l).length = l.length * 2 := by
  induction l with
  | nil => rfl
  | cons m l ih => simp only [movC, List.flatMap_cons, List.length_append, List.length_cons, List.length_nil] at ih ⊢; omega
theorem movC_cons (m : Mv) (l : List Mv) : movC (m :: l) = .bool m.1 :: .int .i64 m.2 :: movC l := rfl
theorem movC_append (a b : List Mv) : movC (a ++ b) = movC a ++ movC b := by simp [movC]
theorem movC_get : ∀ {l : List Mv} {i : Nat} {m : Mv}, l[i]? = some m → (movC l)[i * 2]? = some (.bool m.1) ∧ (movC l)[i * 2 + 1]? = some (.int .i64 m.2)
  | [], i, m, h => by simp at h
  | a :: l, 0, m, h => by
    simp only [List.getElem?_cons_zero, Option.some.injEq] at h
    subst h
    exact ⟨rfl, rfl⟩
  | a :: l, i + 1, m, h => by
    have := movC_get (l := l) (i := i) (m := m) (by simpa using h)
    rw [movC_cons, show (i + 1) * 2 = i * 2 + 1 + 1 by omega]
    simpa using this
end Go.Proofs.Ytjiafgnibhgfbaa
