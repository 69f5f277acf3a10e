/-
  Moves behind others; moves four times; moves and back; areas. No program in sight.
-/
import Derived.Test.YtjiafgnibhgfbaaTtnP
namespace Go.Proofs.Ytjiafgnibhgfbaa
open Go
set_option linter.unusedSimpArgs false
set_option linter.unusedVariables false

/-- a place, turned so that (0, 1) is d, and moved so that (0, 0) is z -/
def turnP (z d p : Int × Int) : Int × Int := (z.1 + p.1 * d.2 + p.2 * d.1, z.2 - p.1 * d.1 + p.2 * d.2)
theorem turnP_rot (d l : Int × Int) : turnP (0, 0) d (rot l) = rot (turnP (0, 0) d l) := by
  obtain ⟨a, b⟩ := d
  obtain ⟨x, y⟩ := l
  simp only [turnP, rot, Prod.mk.injEq]
  constructor <;> grind
theorem turnP_rotN (d l : Int × Int) : ∀ j, turnP (0, 0) d (rotN j l) = rotN j (turnP (0, 0) d l)
  | 0 => rfl
  | j + 1 => by rw [rotN, rotN, turnP_rot, turnP_rotN d l j]
/-- a turtle, turned and moved, behind others' places -/
def carry (A : List (Int × Int)) (z d : Int × Int) (s : TS) : TS := { out := A ++ s.out.map (turnP z d), pos := turnP z d s.pos, look := turnP (0, 0) d s.look }
theorem step_carry (A : List (Int × Int)) (z d : Int × Int) (s : TS) (m : Mv) : stepM (carry A z d s) m = (stepM s m).map (carry A z d) := by
  unfold stepM
  split
  · simp [carry, turnP_rotN]
  · split
    · rfl
    · have h : (turnP z d s.pos).1 + (turnP (0, 0) d s.look).1 * m.2 = (turnP z d (s.pos.1 + s.look.1 * m.2, s.pos.2 + s.look.2 * m.2)).1 ∧ (turnP z d s.pos).2 + (turnP (0, 0) d s.look).2 * m.2 = (turnP z d (s.pos.1 + s.look.1 * m.2, s.pos.2 + s.look.2 * m.2)).2 := by
        simp only [turnP]
        constructor <;> grind
      simp only [carry, Option.map_some, Option.some.injEq, h.1, h.2, List.map_append, List.map_cons, List.map_nil, List.append_assoc]
theorem go_carry (A : List (Int × Int)) (z d : Int × Int) : ∀ (l : List Mv) (s : TS), goM l (carry A z d s) = (goM l s).map (carry A z d)
  | [], s => rfl
  | m :: l, s => by
    rw [goM_cons, goM_cons, step_carry]
    cases stepM s m with
    | none => rfl
    | some t => exact go_carry A z d l t

/-- where it stands is the last place -/
def Last (s : TS) : Prop := ∃ A, s.out = A ++ [s.pos]
theorem last0 : Last ts0 := ⟨[], rfl⟩
theorem last_step {s s' : TS} {m : Mv} (h : Last s) (hs : stepM s m = some s') : Last s' := by
  unfold stepM at hs
  split at hs
  · injection hs with hs
    subst hs
    exact h
  · split at hs
    · cases hs
    · injection hs with hs
      subst hs
      exact ⟨s.out, rfl⟩
theorem last_go : ∀ {l : List Mv} {s s' : TS}, Last s → goM l s = some s' → Last s'
  | [], s, s', h, hg => by
    injection hg with hg
    subst hg
    exact h
  | m :: l, s, s', h, hg => by
    rw [goM_cons] at hg
    cases hs : stepM s m with
    | none => rw [hs] at hg; cases hg
    | some t => rw [hs] at hg; exact last_go (last_step h hs) hg
/-- moves from anywhere -/
theorem go_from {l : List Mv} {s t : TS} (h : Last s) (ht : goM l ts0 = some t) :
    ∃ A, s.out = A ++ [s.pos] ∧ goM l s = some { out := A ++ t.out.map (turnP s.pos s.look), pos := turnP s.pos s.look t.pos, look := turnP (0, 0) s.look t.look } := by
  obtain ⟨A, hA⟩ := h
  refine ⟨A, hA, ?_⟩
  have e : s = carry A s.pos s.look ts0 := by
    obtain ⟨o, p, l⟩ := s
    simp only at hA
    subst hA
    simp [carry, ts0, turnP]
  have h1 := go_carry A s.pos s.look l ts0
  rw [← e, ht] at h1
  exact h1

theorem pathR_small {m : List Mv} (hm : ∀ q ∈ m, -1000000 ≤ q.2 ∧ q.2 ≤ 1000000) (hl : m.length ≤ 1000) : ∃ s, goM m ts0 = some s ∧ pathR m = (s.out, s.look, 0) := by
  obtain ⟨s, hs⟩ := go_small (m := m) (s := ts0) hm
  refine ⟨s, hs, ?_⟩
  unfold pathR
  rw [if_neg (by omega), hs]

theorem joins_eq {x y : List Mv} (hx : ∀ q ∈ x, -1000 < q.2 ∧ q.2 < 1000) (hy : ∀ q ∈ y, -1000 < q.2 ∧ q.2 < 1000) (lx : x.length ≤ 200) (ly : y.length ≤ 200) :
    ∃ p q r d e f z, pathR x = (p, d, 0) ∧ pathR y = (q, e, 0) ∧ pathR (x ++ y) = (r, f, 0) ∧ 0 < p.length ∧ 0 < q.length ∧ r.length = p.length + q.length - 1 ∧ p[p.length - 1]? = some z ∧
      ∀ (i : Nat) u, q[i]? = some u → r[p.length - 1 + i]? = some (turnP z d u) := by
  obtain ⟨s, hs, hp⟩ := pathR_small (m := x) (fun q hq => by have := hx q hq; omega) (by omega)
  obtain ⟨t, ht, hq⟩ := pathR_small (m := y) (fun q hq => by have := hy q hq; omega) (by omega)
  obtain ⟨A, hA, hg⟩ := go_from (last_go last0 hs) ht
  obtain ⟨B, hB⟩ := last_go last0 ht
  have hr : pathR (x ++ y) = (A ++ t.out.map (turnP s.pos s.look), turnP (0, 0) s.look t.look, 0) := by
    unfold pathR
    rw [if_neg (by simp; omega), goM_append, hs, Option.bind_some, hg]
  refine ⟨_, _, _, _, _, _, s.pos, hp, hq, hr, by rw [hA]; simp, by rw [hB]; simp, ?_, by rw [hA]; simp, fun i u hu => ?_⟩
  · rw [hA]
    simp only [List.length_append, List.length_map, List.length_cons, List.length_nil]
    omega
  · rw [hA, List.length_append, List.length_cons, List.length_nil, Nat.zero_add, Nat.add_sub_cancel, List.getElem?_append_right (by omega), show A.length + i - A.length = i by omega, List.getElem?_map, hu]
    rfl

/-- all turns, added up -/
def turnsOf (l : List Mv) : Int := (l.map fun m => if m.1 = true then m.2 else 0).sum
theorem turnsOf_append (a b : List Mv) : turnsOf (a ++ b) = turnsOf a + turnsOf b := by simp [turnsOf]
theorem turnsOf_bound : ∀ {l : List Mv}, (∀ q ∈ l, -1000 < q.2 ∧ q.2 < 1000) → (turnsOf l).natAbs ≤ 1000 * l.length
  | [], _ => by decide
  | m :: l, h => by
    have h1 := h m (by simp)
    have h2 := turnsOf_bound (l := l) fun q hq => h q (by simp [hq])
    have e : turnsOf (m :: l) = (if m.1 = true then m.2 else 0) + turnsOf l := by simp [turnsOf]
    rw [e, List.length_cons]
    split <;> omega
theorem look_turns : ∀ {l : List Mv} {s s' : TS}, goM l s = some s' → s'.look = rotN (turnsOf l % 4).toNat s.look
  | [], s, s', h => by
    injection h with h
    subst h
    rfl
  | m :: l, s, s', h => by
    rw [goM_cons] at h
    have e : turnsOf (m :: l) = (if m.1 = true then m.2 else 0) + turnsOf l := by simp [turnsOf]
    cases hs : stepM s m with
    | none => rw [hs] at h; cases h
    | some t =>
      rw [hs] at h
      have h1 := look_turns h
      unfold stepM at hs
      split at hs
      · injection hs with hs
        subst hs
        rw [h1, ← rotN_add, e, if_pos (by assumption)]
        exact rotN_same _ (by omega)
      · split at hs
        · cases hs
        · injection hs with hs
          subst hs
          rw [h1, e, if_neg (by assumption), Int.zero_add]

theorem fours_eq {m : List Mv} (hm : ∀ q ∈ m, -1000 < q.2 ∧ q.2 < 1000) (hl : m.length ≤ 200) {b : List Mv} (hb : b = m ++ [(true, 1 - turnsOf m)]) :
    ∃ out A, pathR (b ++ b ++ b ++ b) = (out, (0, 1), 0) ∧ out = A ++ [(0, 0)] := by
  obtain ⟨s, hs⟩ := go_small (m := m) (s := ts0) (fun q hq => by have := hm q hq; omega)
  have hbg : goM b ts0 = some { s with look := rotN ((1 - turnsOf m) % 4).toNat s.look } := by
    rw [hb, goM_append, hs, Option.bind_some, goM_cons, step_turn]
    rfl
  have hlk : rotN ((1 - turnsOf m) % 4).toNat s.look = (-1, 0) := by
    rw [look_turns hs, ← rotN_add, rotN_same (j := 1) _ (by omega)]
    rfl
  rw [hlk] at hbg
  have key : ∀ {u : TS}, Last u → ∃ v, goM b u = some v ∧ Last v ∧ v.pos = turnP u.pos u.look s.pos ∧ v.look = turnP (0, 0) u.look (-1, 0) := fun {u} hu => by
    obtain ⟨A, _, h2⟩ := go_from hu hbg
    exact ⟨_, h2, last_go hu h2, rfl, rfl⟩
  obtain ⟨s1, g1, l1, p1, k1⟩ := key last0
  obtain ⟨s2, g2, l2, p2, k2⟩ := key l1
  obtain ⟨s3, g3, l3, p3, k3⟩ := key l2
  obtain ⟨s4, g4, l4, p4, k4⟩ := key l3
  have q1 : s1.look = (-1, 0) := by rw [k1]; rfl
  have q2 : s2.look = (0, -1) := by rw [k2, q1]; rfl
  have q3 : s3.look = (1, 0) := by rw [k3, q2]; rfl
  have q4 : s4.look = (0, 1) := by rw [k4, q3]; rfl
  have e4 : s4.pos = (0, 0) := by
    rw [p4, q3, p3, q2, p2, q1, p1]
    simp only [turnP, ts0, Prod.mk.injEq]
    constructor <;> omega
  have hlen : b.length ≤ 201 := by rw [hb]; simp; omega
  obtain ⟨A, hA⟩ := l4
  rw [e4] at hA
  refine ⟨s4.out, A, ?_, hA⟩
  unfold pathR
  rw [if_neg (by simp; omega), goM_append, goM_append, goM_append, g1, Option.bind_some, g2, Option.bind_some, g3, Option.bind_some, g4]
  simp only [q4]

/-! back -/
def negM (m : Mv) : Mv := (m.1, -m.2)
def backM (l : List Mv) : List Mv := (l.map negM).reverse
theorem backM_cons (m : Mv) (l : List Mv) : backM (m :: l) = backM l ++ [negM m] := by simp [backM]
theorem backM_length (l : List Mv) : (backM l).length = l.length := by simp [backM]
theorem rotN_back (n : Int) (l : Int × Int) : rotN (-n % 4).toNat (rotN (n % 4).toNat l) = l := by
  rw [← rotN_add, rotN_same (j := 0) _ (by omega)]
  rfl

/-- there and back: the places are the same ones, the last one first -/
theorem go_back : ∀ {l : List Mv} {s s' : TS}, goM l s = some s' → (∀ q ∈ l, -1000000 ≤ q.2 ∧ q.2 ≤ 1000000) → ∃ P, s'.out = s.out ++ P ∧ (∀ u : TS, u.pos = s'.pos → u.look = s'.look →
    ∃ v R, goM (backM l) u = some v ∧ v.pos = s.pos ∧ v.look = s.look ∧ v.out = u.out ++ R ∧ s'.pos :: R = (s.pos :: P).reverse)
  | [], s, s', h, _ => by
    injection h with h
    subst h
    exact ⟨[], by simp, fun u h1 h2 => ⟨u, [], rfl, h1, h2, by simp, rfl⟩⟩
  | m :: l, s, s', h, hb => by
    rw [goM_cons] at h
    cases hs : stepM s m with
    | none => rw [hs] at h; cases h
    | some t =>
      rw [hs] at h
      obtain ⟨P, hP, hbk⟩ := go_back h fun q hq => hb q (by simp [hq])
      have hmb := hb m (by simp)
      unfold stepM at hs
      split at hs
      · rename_i hm
        injection hs with hs
        subst hs
        refine ⟨P, hP, fun u h1 h2 => ?_⟩
        obtain ⟨v, R, g1, g2, g3, g4, g5⟩ := hbk u h1 h2
        refine ⟨{ v with look := s.look }, R, ?_, g2, rfl, g4, g5⟩
        rw [backM_cons, goM_append, g1, Option.bind_some, goM_cons]
        have e : stepM v (negM m) = some { v with look := s.look } := by
          unfold stepM
          rw [if_pos (by exact hm), g3]
          simp only [negM, rotN_back]
        rw [e]
        rfl
      · rename_i hm
        split at hs
        · cases hs
        · injection hs with hs
          subst hs
          refine ⟨(s.pos.1 + s.look.1 * m.2, s.pos.2 + s.look.2 * m.2) :: P, by rw [hP]; simp, fun u h1 h2 => ?_⟩
          obtain ⟨v, R, g1, g2, g3, g4, g5⟩ := hbk u h1 h2
          simp only at g2 g3 g5
          refine ⟨{ out := v.out ++ [s.pos], pos := s.pos, look := s.look }, R ++ [s.pos], ?_, rfl, rfl, by simp [g4], ?_⟩
          · rw [backM_cons, goM_append, g1, Option.bind_some, goM_cons]
            have e : stepM v (negM m) = some { out := v.out ++ [s.pos], pos := s.pos, look := s.look } := by
              have hp : (v.pos.1 + v.look.1 * (negM m).2, v.pos.2 + v.look.2 * (negM m).2) = s.pos := by
                rw [g2, g3]
                simp only [negM, Int.mul_neg]
                rw [show s.pos = (s.pos.1, s.pos.2) from rfl, Prod.mk.injEq]
                constructor <;> omega
              unfold stepM
              rw [if_neg (by exact hm), if_neg (by simp only [negM]; omega), hp, g3]
            rw [e]
            rfl
          · rw [List.reverse_cons, ← g5]
            simp

/-- twice the area, straight back to the first place -/
def crossP (a b : Int × Int) : Int := a.1 * b.2 - b.1 * a.2
def areaP : List (Int × Int) → Int
  | a :: b :: l => crossP a b + areaP (b :: l)
  | _ => 0
theorem areaP_snoc : ∀ (l : List (Int × Int)) (a b : Int × Int), areaP (l ++ [a, b]) = areaP (l ++ [a]) + crossP a b
  | [], a, b => by simp [areaP]
  | [x], a, b => by simp [areaP]
  | x :: y :: l, a, b => by
    have := areaP_snoc (y :: l) a b
    simp only [List.cons_append, areaP] at this ⊢
    omega
theorem areaP_take {l : List (Int × Int)} {i : Nat} {a b : Int × Int} (ha : l[i]? = some a) (hb : l[i + 1]? = some b) : areaP (l.take (i + 2)) = areaP (l.take (i + 1)) + crossP a b := by
  have h1 : l.take (i + 2) = l.take i ++ [a, b] := by
    rw [List.take_add_one, List.take_add_one, ha, hb]
    simp
  have h2 : l.take (i + 1) = l.take i ++ [a] := by
    rw [List.take_add_one, ha]
    simp
  rw [h1, h2, areaP_snoc]
theorem areaP_join : ∀ (l : List (Int × Int)) (a : Int × Int) (r : List (Int × Int)), areaP (l ++ a :: r) = areaP (l ++ [a]) + areaP (a :: r)
  | [], a, r => by simp [areaP]
  | [x], a, r => by simp [areaP]
  | x :: y :: l, a, r => by
    have := areaP_join (y :: l) a r
    simp only [List.cons_append, areaP] at this ⊢
    omega
theorem areaP_reverse : ∀ l : List (Int × Int), areaP l.reverse = - areaP l
  | [] => by simp [areaP]
  | [x] => by simp [areaP]
  | x :: y :: l => by
    have h := areaP_reverse (y :: l)
    rw [List.reverse_cons, List.reverse_cons] at *
    rw [show l.reverse ++ [y] ++ [x] = l.reverse ++ [y, x] by simp, areaP_snoc, h]
    simp only [areaP, crossP]
    rw [Int.mul_comm y.1 x.2, Int.mul_comm x.1 y.2]
    have := Int.mul_comm x.2 y.1
    have := Int.mul_comm y.2 x.1
    omega

theorem back_eq {m : List Mv} (hm : ∀ q ∈ m, -1000 < q.2 ∧ q.2 < 1000) (hl : m.length ≤ 200) :
    ∃ out A, pathR (m ++ backM m) = (out, (0, 1), 0) ∧ out = A ++ [(0, 0)] ∧ areaP out = 0 := by
  obtain ⟨s, hs⟩ := go_small (m := m) (s := ts0) (fun q hq => by have := hm q hq; omega)
  obtain ⟨P, hP, hbk⟩ := go_back hs (fun q hq => by have := hm q hq; omega)
  obtain ⟨v, R, g1, g2, g3, g4, g5⟩ := hbk s rfl rfl
  have hg : goM (m ++ backM m) ts0 = some v := by rw [goM_append, hs, Option.bind_some, g1]
  obtain ⟨A, hA⟩ := last_go last0 hg
  rw [g2] at hA
  refine ⟨v.out, A, ?_, hA, ?_⟩
  · unfold pathR
    rw [if_neg (by simp [backM_length]; omega), hg]
    simp only [g3]
    rfl
  · obtain ⟨B, hB⟩ := last_go last0 hs
    have h1 : ts0.out ++ P = ts0.pos :: P := rfl
    rw [g4, hB, List.append_assoc, List.singleton_append, areaP_join, g5, areaP_reverse, ← hB, hP, h1]
    omega

theorem pathR_last {l : List Mv} (h : (pathR l).2.2 = 0) : ∃ A z, (pathR l).1 = A ++ [z] := by
  unfold pathR at h ⊢
  split
  · rw [if_pos (by assumption)] at h; cases h
  · rw [if_neg (by assumption)] at h
    cases hg : goM l ts0 with
    | none => rw [hg] at h; cases h
    | some s =>
      obtain ⟨A, hA⟩ := last_go last0 hg
      exact ⟨A, s.pos, hA⟩
/-- is it where it was? -/
def closedR (l : List Mv) : Bool := decide ((pathR l).2.2 = 0 ∧ (pathR l).1[(pathR l).1.length - 1]? = some (0, 0))
theorem mul_bound {a b : Int} (ha : a.natAbs ≤ 1000000000) (hb : b.natAbs ≤ 1000000000) : (a * b).natAbs ≤ 1000000000000000000 := by
  rw [Int.natAbs_mul]
  exact Nat.mul_le_mul ha hb
theorem wrap_i64_period (a k : Int) : IntKind.i64.wrap (a + 18446744073709551616 * k) = IntKind.i64.wrap a := by
  simp only [IntKind.wrap, IntKind.signed, IntKind.bits, Bool.true_and]
  have h : (a + 18446744073709551616 * k) % 2 ^ 64 = a % 2 ^ 64 := by
    rw [show (2 : Int) ^ 64 = 18446744073709551616 from rfl]
    exact Int.add_mul_emod_self_left _ _ _
  simp only [h]
  rfl
theorem wrap_i64_form (a : Int) : ∃ k, IntKind.i64.wrap a = a + 18446744073709551616 * k := by
  simp only [IntKind.wrap, IntKind.signed, IntKind.bits, Bool.true_and]
  split
  · exact ⟨-(a / 18446744073709551616) - 1, by omega⟩
  · exact ⟨-(a / 18446744073709551616), by omega⟩
theorem wrap_add_wrap (a b : Int) : IntKind.i64.wrap (IntKind.i64.wrap a + b) = IntKind.i64.wrap (a + b) := by
  obtain ⟨k, hk⟩ := wrap_i64_form a
  rw [hk, show a + 18446744073709551616 * k + b = a + b + 18446744073709551616 * k by omega, wrap_i64_period]
/-- the least rectangle about places, and (0, 0) -/
def minP (a q : Int × Int) : Int × Int := (if q.1 < a.1 then q.1 else a.1, if q.2 < a.2 then q.2 else a.2)
def maxP (a q : Int × Int) : Int × Int := (if q.1 > a.1 then q.1 else a.1, if q.2 > a.2 then q.2 else a.2)
def lowP (l : List (Int × Int)) : Int × Int := l.foldl minP (0, 0)
def highP (l : List (Int × Int)) : Int × Int := l.foldl maxP (0, 0)
theorem fold_take {f : Int × Int → Int × Int → Int × Int} {z : Int × Int} {l : List (Int × Int)} {i : Nat} {q : Int × Int} (h : l[i]? = some q) : (l.take (i + 1)).foldl f z = f ((l.take i).foldl f z) q := by
  rw [List.take_add_one, h]
  simp
end Go.Proofs.Ytjiafgnibhgfbaa
