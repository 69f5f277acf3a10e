/-
  Types of letters and variables: their texts, read back, in plain Lean.
-/
import Derived.Test.YtomkdhkkggbioaaGreatDoorPrT
namespace Go.Proofs.YtomkdhkkggbioaaGreatDoor
open Go
set_option linter.unusedSimpArgs false
set_option linter.unusedVariables false

def letB (c : UInt8) : Bool := decide (97 ≤ c.toNat ∧ c.toNat ≤ 122)
def okA (n : List UInt8) (v : Int) : Bool := if n = [] then decide (1 ≤ v ∧ v ≤ 26) else decide (v = 0) && (decide (n = [45, 62]) || decide (n = [42]) || n.all letB)
def namedF : Nat → Tr → Bool
  | 0, _ => false
  | f + 1, .mk n v ks => okA n v && (decide (n = []) || ks.all (namedF f))
def sameK (S : Tr → Tr → Bool) : List Tr → List Tr → Bool
  | [], [] => true
  | k :: r, j :: q => S k j && sameK S r q
  | _, _ => false
def sameF : Nat → Tr → Tr → Bool
  | 0, _, _ => false
  | f + 1, .mk n v ks, .mk m z js => decide (n = m) && decide (v = z) && sameK (sameF f) ks js

theorem sameK_iff {S : Tr → Tr → Bool} : ∀ (ks js : List Tr), (∀ k ∈ ks, ∀ j ∈ js, (S k j = true ↔ k = j)) → (sameK S ks js = true ↔ ks = js)
  | [], [], _ => by simp [sameK]
  | [], j :: q, _ => by simp [sameK]
  | k :: r, [], _ => by simp [sameK]
  | k :: r, j :: q, h => by
    have h1 := h k (by simp) j (by simp)
    have h2 := sameK_iff r q (fun a ha b hb => h a (by simp [ha]) b (by simp [hb]))
    simp only [sameK, Bool.and_eq_true, h1, h2, List.cons.injEq]
theorem sameF_iff : ∀ (f : Nat) (t u : Tr), smallF f t = true → smallF f u = true → (sameF f t u = true ↔ t = u)
  | 0, t, u, h, _ => by simp [smallF] at h
  | f + 1, .mk n v ks, .mk m z js, h, g => by
    simp only [smallF, Bool.and_eq_true, List.all_eq_true] at h g
    have h2 := sameK_iff (S := sameF f) ks js (fun k hk j hj => sameF_iff f k j (h.2 k hk) (g.2 j hj))
    simp only [sameF, Bool.and_eq_true, decide_eq_true_eq, h2, Tr.mk.injEq]
    exact ⟨fun h => ⟨h.1.1, h.1.2, h.2⟩, fun h => ⟨⟨h.1, h.2.1⟩, h.2.2⟩⟩

/-- a reader of such texts -/
inductive Md where
  | ty | star | item
  | more (xs : List Tr) | args (xs : List Tr) | post (x : Tr)
def pr : Nat → Md → List UInt8 → Option (Tr × List UInt8)
  | 0, _, _ => none
  | F + 1, .ty, s => (pr F .star s).bind fun p => match p.2 with
    | 32 :: 45 :: 62 :: 32 :: r => (pr F .ty r).map fun q => (.mk [45, 62] 0 [p.1, q.1], q.2)
    | _ => some p
  | F + 1, .star, s => (pr F .item s).bind fun p => pr F (.more [p.1]) p.2
  | F + 1, .more xs, s => match s with
    | 32 :: 42 :: 32 :: r => (pr F .item r).bind fun p => pr F (.more (xs ++ [p.1])) p.2
    | s => match xs with
      | [x] => some (x, s)
      | xs => some (.mk [42] 0 xs, s)
  | F + 1, .item, s => match s with
    | 39 :: c :: r => pr F (.post (.mk [] ((c.toNat : Int) - 96) [])) r
    | 40 :: r => (pr F .ty r).bind fun p => match p.2 with
      | 41 :: r => pr F (.post p.1) r
      | 44 :: 32 :: r => pr F (.args [p.1]) r
      | _ => none
    | s => pr F (.post (.mk (s.takeWhile letB) 0 [])) (s.dropWhile letB)
  | F + 1, .args xs, s => (pr F .ty s).bind fun p => match p.2 with
    | 44 :: 32 :: r => pr F (.args (xs ++ [p.1])) r
    | 41 :: 32 :: r => pr F (.post (.mk (r.takeWhile letB) 0 (xs ++ [p.1]))) (r.dropWhile letB)
    | _ => none
  | F + 1, .post x, s => match s with
    | 32 :: c :: r => if letB c = true then pr F (.post (.mk ((c :: r).takeWhile letB) 0 [x])) ((c :: r).dropWhile letB) else some (x, 32 :: c :: r)
    | s => some (x, s)

/-- from some fuel on -/
def Ev (m : Md) (s : List UInt8) (R : Option (Tr × List UInt8)) : Prop := ∃ N, ∀ F, N ≤ F → pr F m s = R
/-- what may stand behind a name -/
def NL : List UInt8 → Prop
  | [] => True
  | c :: _ => letB c = false
def NP : List UInt8 → Prop
  | 32 :: c :: _ => letB c = false
  | _ => True
def NS : List UInt8 → Prop
  | 32 :: 42 :: 32 :: _ => False
  | _ => True
def NA : List UInt8 → Prop
  | 32 :: 45 :: 62 :: 32 :: _ => False
  | _ => True
theorem take_let {n r : List UInt8} (hn : n.all letB = true) (hr : NL r) : (n ++ r).takeWhile letB = n ∧ (n ++ r).dropWhile letB = r := by
  induction n with
  | nil =>
    cases r with
    | nil => exact ⟨rfl, rfl⟩
    | cons c r =>
      have : letB c = false := hr
      simp [this]
  | cons c n ih =>
    simp only [List.all_cons, Bool.and_eq_true] at hn
    obtain ⟨h1, h2⟩ := ih hn.2
    simp [hn.1, h1, h2]
theorem Ev.post {x : Tr} {r : List UInt8} (h : NP r) : Ev (.post x) r (some (x, r)) := by
  refine ⟨1, fun F hF => ?_⟩
  obtain ⟨F, rfl⟩ : ∃ g, F = g + 1 := ⟨F - 1, by omega⟩
  unfold pr
  split
  · rename_i c q
    have : letB c = false := h
    simp [this]
  · rfl
theorem Ev.name {x : Tr} {n r : List UInt8} {R : Option (Tr × List UInt8)} (hn : n.all letB = true) (h0 : n ≠ []) (hr : NL r) (h : Ev (.post (.mk n 0 [x])) r R) : Ev (.post x) (32 :: (n ++ r)) R := by
  obtain ⟨N, h⟩ := h
  refine ⟨N + 1, fun F hF => ?_⟩
  obtain ⟨F, rfl⟩ : ∃ g, F = g + 1 := ⟨F - 1, by omega⟩
  obtain ⟨h1, h2⟩ := take_let hn hr
  cases n with
  | nil => exact absurd rfl h0
  | cons c n =>
    have hc : letB c = true := by simpa using (List.all_eq_true.1 hn) c (by simp)
    rw [List.cons_append] at h1 h2 ⊢
    unfold pr
    simp only [hc, if_true, h1, h2]
    exact h F (by omega)
theorem Ev.moreStop {xs : List Tr} {r : List UInt8} (h : NS r) : Ev (.more xs) r (some (match xs with | [x] => (x, r) | xs => (.mk [42] 0 xs, r))) := by
  refine ⟨1, fun F hF => ?_⟩
  obtain ⟨F, rfl⟩ : ∃ g, F = g + 1 := ⟨F - 1, by omega⟩
  unfold pr
  split
  · exact h.elim
  · split <;> simp_all
theorem Ev.moreStep {xs : List Tr} {y : Tr} {s r : List UInt8} {R : Option (Tr × List UInt8)} (h1 : Ev .item s (some (y, r))) (h2 : Ev (.more (xs ++ [y])) r R) : Ev (.more xs) (32 :: 42 :: 32 :: s) R := by
  obtain ⟨N, h1⟩ := h1
  obtain ⟨M, h2⟩ := h2
  refine ⟨N + M + 1, fun F hF => ?_⟩
  obtain ⟨F, rfl⟩ : ∃ g, F = g + 1 := ⟨F - 1, by omega⟩
  unfold pr
  simp only [h1 F (by omega), Option.bind_some]
  exact h2 F (by omega)
theorem Ev.star {y : Tr} {s r : List UInt8} {R : Option (Tr × List UInt8)} (h1 : Ev .item s (some (y, r))) (h2 : Ev (.more [y]) r R) : Ev .star s R := by
  obtain ⟨N, h1⟩ := h1
  obtain ⟨M, h2⟩ := h2
  refine ⟨N + M + 1, fun F hF => ?_⟩
  obtain ⟨F, rfl⟩ : ∃ g, F = g + 1 := ⟨F - 1, by omega⟩
  unfold pr
  simp only [h1 F (by omega), Option.bind_some]
  exact h2 F (by omega)
theorem Ev.tyStop {y : Tr} {s r : List UInt8} (h1 : Ev .star s (some (y, r))) (hr : NA r) : Ev .ty s (some (y, r)) := by
  obtain ⟨N, h1⟩ := h1
  refine ⟨N + 1, fun F hF => ?_⟩
  obtain ⟨F, rfl⟩ : ∃ g, F = g + 1 := ⟨F - 1, by omega⟩
  unfold pr
  simp only [h1 F (by omega), Option.bind_some]
  split
  · exact hr.elim
  · rfl
theorem Ev.arrow {x y : Tr} {s r q : List UInt8} (h1 : Ev .star s (some (x, 32 :: 45 :: 62 :: 32 :: r))) (h2 : Ev .ty r (some (y, q))) : Ev .ty s (some (.mk [45, 62] 0 [x, y], q)) := by
  obtain ⟨N, h1⟩ := h1
  obtain ⟨M, h2⟩ := h2
  refine ⟨N + M + 1, fun F hF => ?_⟩
  obtain ⟨F, rfl⟩ : ∃ g, F = g + 1 := ⟨F - 1, by omega⟩
  unfold pr
  simp only [h1 F (by omega), Option.bind_some, h2 F (by omega), Option.map_some]
theorem Ev.itemVar {c : UInt8} {r : List UInt8} {R : Option (Tr × List UInt8)} (h : Ev (.post (.mk [] ((c.toNat : Int) - 96) [])) r R) : Ev .item (39 :: c :: r) R := by
  obtain ⟨N, h⟩ := h
  refine ⟨N + 1, fun F hF => ?_⟩
  obtain ⟨F, rfl⟩ : ∃ g, F = g + 1 := ⟨F - 1, by omega⟩
  unfold pr
  exact h F (by omega)
theorem Ev.itemBrk {x : Tr} {s r : List UInt8} {R : Option (Tr × List UInt8)} (h1 : Ev .ty s (some (x, 41 :: r))) (h2 : Ev (.post x) r R) : Ev .item (40 :: s) R := by
  obtain ⟨N, h1⟩ := h1
  obtain ⟨M, h2⟩ := h2
  refine ⟨N + M + 1, fun F hF => ?_⟩
  obtain ⟨F, rfl⟩ : ∃ g, F = g + 1 := ⟨F - 1, by omega⟩
  unfold pr
  simp only [h1 F (by omega), Option.bind_some]
  exact h2 F (by omega)
theorem Ev.itemArgs {x : Tr} {s r : List UInt8} {R : Option (Tr × List UInt8)} (h1 : Ev .ty s (some (x, 44 :: 32 :: r))) (h2 : Ev (.args [x]) r R) : Ev .item (40 :: s) R := by
  obtain ⟨N, h1⟩ := h1
  obtain ⟨M, h2⟩ := h2
  refine ⟨N + M + 1, fun F hF => ?_⟩
  obtain ⟨F, rfl⟩ : ∃ g, F = g + 1 := ⟨F - 1, by omega⟩
  unfold pr
  simp only [h1 F (by omega), Option.bind_some]
  exact h2 F (by omega)
theorem Ev.itemName {n r : List UInt8} {R : Option (Tr × List UInt8)} (hn : n.all letB = true) (h0 : n ≠ []) (hr : NL r) (h : Ev (.post (.mk n 0 [])) r R) : Ev .item (n ++ r) R := by
  obtain ⟨N, h⟩ := h
  refine ⟨N + 1, fun F hF => ?_⟩
  obtain ⟨F, rfl⟩ : ∃ g, F = g + 1 := ⟨F - 1, by omega⟩
  obtain ⟨h1, h2⟩ := take_let hn hr
  cases n with
  | nil => exact absurd rfl h0
  | cons c n =>
    have hc : letB c = true := by simpa using (List.all_eq_true.1 hn) c (by simp)
    rw [List.cons_append] at h1 h2 ⊢
    unfold pr
    split
    · rename_i heq
      injection heq with e _
      subst e
      exact absurd hc (by decide)
    · rename_i heq
      injection heq with e _
      subst e
      exact absurd hc (by decide)
    · rw [h1, h2]
      exact h F (by omega)
theorem Ev.argsStep {xs : List Tr} {y : Tr} {s r : List UInt8} {R : Option (Tr × List UInt8)} (h1 : Ev .ty s (some (y, 44 :: 32 :: r))) (h2 : Ev (.args (xs ++ [y])) r R) : Ev (.args xs) s R := by
  obtain ⟨N, h1⟩ := h1
  obtain ⟨M, h2⟩ := h2
  refine ⟨N + M + 1, fun F hF => ?_⟩
  obtain ⟨F, rfl⟩ : ∃ g, F = g + 1 := ⟨F - 1, by omega⟩
  unfold pr
  simp only [h1 F (by omega), Option.bind_some]
  exact h2 F (by omega)
theorem Ev.argsEnd {xs : List Tr} {y : Tr} {s n r : List UInt8} {R : Option (Tr × List UInt8)} (hn : n.all letB = true) (hr : NL r) (h1 : Ev .ty s (some (y, 41 :: 32 :: (n ++ r)))) (h2 : Ev (.post (.mk n 0 (xs ++ [y]))) r R) : Ev (.args xs) s R := by
  obtain ⟨N, h1⟩ := h1
  obtain ⟨M, h2⟩ := h2
  refine ⟨N + M + 1, fun F hF => ?_⟩
  obtain ⟨F, rfl⟩ : ∃ g, F = g + 1 := ⟨F - 1, by omega⟩
  obtain ⟨e1, e2⟩ := take_let hn hr
  unfold pr
  simp only [h1 F (by omega), Option.bind_some, e1, e2]
  exact h2 F (by omega)

/-- what a text is read as, within each place -/
structure Reads (f : Nat) (t : Tr) : Prop where
  item : ∀ (r : List UInt8) R, NL r → Ev (.post t) r R → Ev .item (typS f t 2 ++ r) R
  star : ∀ (r : List UInt8), NL r → NP r → NS r → Ev .star (typS f t 1 ++ r) (some (t, r))
  ty : ∀ (r : List UInt8), NL r → NP r → NS r → NA r → Ev .ty (typS f t 0 ++ r) (some (t, r))
theorem Reads.of_item {f : Nat} {t : Tr} (e1 : typS f t 1 = typS f t 2) (e0 : typS f t 0 = typS f t 2) (h : ∀ (r : List UInt8) R, NL r → Ev (.post t) r R → Ev .item (typS f t 2 ++ r) R) : Reads f t :=
  have st : ∀ (r : List UInt8), NL r → NP r → NS r → Ev .star (typS f t 2 ++ r) (some (t, r)) := fun r h1 h2 h3 => Ev.star (h r _ h1 (Ev.post h2)) (Ev.moreStop h3)
  ⟨h, fun r h1 h2 h3 => by rw [e1]; exact st r h1 h2 h3, fun r h1 h2 h3 h4 => by rw [e0]; exact Ev.tyStop (st r h1 h2 h3) h4⟩
theorem join_cons (x y : List UInt8) (r : List (List UInt8)) (sep : List UInt8) : Lib.join (x :: y :: r) sep = x ++ sep ++ Lib.join (y :: r) sep := by simp [Lib.join, List.intercalate]
theorem join_one (x sep : List UInt8) : Lib.join [x] sep = x := by simp [Lib.join, List.intercalate]
theorem stars {f : Nat} : ∀ (ks xs : List Tr) (r : List UInt8), (∀ k ∈ ks, Reads f k) → NL r → NP r → NS r → (xs ++ ks).length ≠ 1 → ks ≠ [] →
    Ev (.more xs) ([32, 42, 32] ++ Lib.join (ks.map fun k => typS f k 2) [32, 42, 32] ++ r) (some (.mk [42] 0 (xs ++ ks), r))
  | [], xs, r, _, _, _, _, _, h => absurd rfl h
  | [k], xs, r, h, h1, h2, h3, hn, _ => by
    rw [List.map_cons, List.map_nil, join_one]
    refine Ev.moreStep ((h k (by simp)).item r _ h1 (Ev.post h2)) ?_
    have e := Ev.moreStop (xs := xs ++ [k]) h3
    match hx : xs ++ [k], hn with
    | [], _ => simp at hx
    | [_], hn => exact absurd rfl hn
    | a :: b :: c, _ => rw [hx] at e; exact e
  | k :: j :: ks, xs, r, h, h1, h2, h3, hn, _ => by
    rw [List.map_cons, List.map_cons, join_cons]
    have e := stars (j :: ks) (xs ++ [k]) r (fun z hz => h z (by simp [hz])) h1 h2 h3 (by simp only [List.length_append, List.length_cons, List.length_nil]; omega) (by simp)
    rw [List.append_assoc xs [k]] at e
    rw [List.map_cons] at e
    rw [show [32, 42, 32] ++ (typS f k 2 ++ [32, 42, 32] ++ Lib.join (typS f j 2 :: List.map (fun k => typS f k 2) ks) [32, 42, 32]) ++ r = 32 :: 42 :: 32 :: (typS f k 2 ++ ([32, 42, 32] ++ Lib.join (typS f j 2 :: List.map (fun k => typS f k 2) ks) [32, 42, 32] ++ r)) by simp]
    exact Ev.moreStep ((h k (by simp)).item _ _ (by simp [NL, letB]) (Ev.post (by simp [NP, letB]))) e
theorem argss {f : Nat} {n r : List UInt8} {R : Option (Tr × List UInt8)} (hn : n.all letB = true) (hr : NL r) : ∀ (ks xs : List Tr), (∀ k ∈ ks, Reads f k) → ks ≠ [] → Ev (.post (.mk n 0 (xs ++ ks))) r R →
    Ev (.args xs) (Lib.join (ks.map fun k => typS f k 0) [44, 32] ++ [41, 32] ++ n ++ r) R
  | [], xs, _, h, _ => absurd rfl h
  | [k], xs, h, _, e => by
    rw [List.map_cons, List.map_nil, join_one]
    rw [show typS f k 0 ++ [41, 32] ++ n ++ r = typS f k 0 ++ (41 :: 32 :: (n ++ r)) by simp]
    exact Ev.argsEnd hn hr ((h k (by simp)).ty _ (by simp [NL, letB]) (by simp [NP]) (by simp [NS]) (by simp [NA])) e
  | k :: j :: ks, xs, h, _, e => by
    rw [List.map_cons, List.map_cons, join_cons]
    have e2 := argss hn hr (j :: ks) (xs ++ [k]) (fun z hz => h z (by simp [hz])) (by simp) (by rw [List.append_assoc]; exact e)
    rw [List.map_cons] at e2
    rw [show typS f k 0 ++ [44, 32] ++ Lib.join (typS f j 0 :: List.map (fun k => typS f k 0) ks) [44, 32] ++ [41, 32] ++ n ++ r = typS f k 0 ++ (44 :: 32 :: (Lib.join (typS f j 0 :: List.map (fun k => typS f k 0) ks) [44, 32] ++ [41, 32] ++ n ++ r)) by simp]
    exact Ev.argsStep ((h k (by simp)).ty _ (by simp [NL, letB]) (by simp [NP]) (by simp [NS]) (by simp [NA])) e2
theorem varS_small {v : Int} (h1 : 1 ≤ v) (h2 : v ≤ 26) : ∃ c : UInt8, varS v = [39, c] ∧ (c.toNat : Int) - 96 = v := by
  obtain ⟨n, rfl⟩ : ∃ n : Nat, v = (n : Int) := ⟨v.toNat, by omega⟩
  have : ∀ n : Fin 27, 1 ≤ n.val → ∃ c : UInt8, varS (n.val : Int) = [39, c] ∧ (c.toNat : Int) - 96 = (n.val : Int) := by
    intro n hn
    refine ⟨UInt8.ofNat (96 + n.val), ?_, ?_⟩
    · revert n; decide
    · revert n; decide
  exact this ⟨n, by omega⟩ (by show 1 ≤ n; omega)
theorem reads_all : ∀ (f : Nat) (t : Tr), smallF f t = true → namedF f t = true → Reads f t
  | 0, t, h, _ => by simp [smallF] at h
  | f + 1, .mk n v ks, h, g => by
    simp only [smallF, Bool.and_eq_true, List.all_eq_true, okN, decide_eq_true_eq] at h
    obtain ⟨⟨hk6, hk0, hk1, hk2⟩, hall⟩ := h
    simp only [namedF, Bool.and_eq_true, Bool.or_eq_true, decide_eq_true_eq, List.all_eq_true] at g
    obtain ⟨ga, gk⟩ := g
    by_cases e0 : n = []
    · subst e0
      have : ks = [] := by
        cases ks with
        | nil => rfl
        | cons k r => exact absurd ⟨rfl, by simp⟩ hk0
      subst this
      simp only [okA, if_true, decide_eq_true_eq] at ga
      obtain ⟨c, h1, h2⟩ := varS_small ga.1 ga.2
      refine Reads.of_item (by simp [typS]) (by simp [typS]) fun r R hr e => ?_
      simp only [typS, if_true, h1]
      refine Ev.itemVar ?_
      rw [h2]
      exact e
    · have hkid : ∀ k ∈ ks, Reads f k := fun k hk => reads_all f k (hall k hk) ((gk.resolve_left e0) k hk)
      simp only [okA, if_neg e0, Bool.and_eq_true, decide_eq_true_eq, Bool.or_eq_true] at ga
      obtain ⟨rfl, ga⟩ := ga
      by_cases e1 : n = [45, 62]
      · subst e1
        match ks, hkid, (show ks.length = 2 by by_cases h : ks.length = 2; exact h; exact absurd ⟨rfl, h⟩ hk1) with
        | [k0, k1], hkid, _ =>
          have r0 := hkid k0 (by simp)
          have r1 := hkid k1 (by simp)
          have body : ∀ (r : List UInt8), NL r → NP r → NS r → NA r → Ev .ty (typS f k0 1 ++ [32, 45, 62, 32] ++ typS f k1 0 ++ r) (some (.mk [45, 62] 0 [k0, k1], r)) := fun r h1 h2 h3 h4 => by
            rw [show typS f k0 1 ++ [32, 45, 62, 32] ++ typS f k1 0 ++ r = typS f k0 1 ++ (32 :: 45 :: 62 :: 32 :: (typS f k1 0 ++ r)) by simp]
            exact Ev.arrow (r0.star _ (by simp [NL, letB]) (by simp [NP, letB]) (by simp [NS])) (r1.ty r h1 h2 h3 h4)
          have it : ∀ (r : List UInt8) R, NL r → Ev (.post (.mk [45, 62] 0 [k0, k1])) r R → Ev .item ([40] ++ (typS f k0 1 ++ [32, 45, 62, 32] ++ typS f k1 0) ++ [41] ++ r) R := fun r R hr e => by
            have := body (41 :: r) (by simp [NL, letB]) (by simp [NP]) (by simp [NS]) (by simp [NA])
            rw [show [40] ++ (typS f k0 1 ++ [32, 45, 62, 32] ++ typS f k1 0) ++ [41] ++ r = 40 :: (typS f k0 1 ++ [32, 45, 62, 32] ++ typS f k1 0 ++ (41 :: r)) by simp]
            exact Ev.itemBrk this e
          refine ⟨fun r R hr e => ?_, fun r h1 h2 h3 => ?_, fun r h1 h2 h3 h4 => ?_⟩
          · have := it r R hr e
            simpa [typS, brk] using this
          · have := Ev.star (it r _ h1 (Ev.post h2)) (Ev.moreStop h3)
            simpa [typS, brk] using this
          · have := body r h1 h2 h3 h4
            simpa [typS, brk] using this
      · by_cases e2 : n = [42]
        · subst e2
          match ks, hkid, (show ¬ ks.length < 2 from fun h => hk2 ⟨rfl, h⟩) with
          | [], _, h => exact absurd (by simp) h
          | [_], _, h => exact absurd (by simp) h
          | k :: j :: ks, hkid, _ =>
            have body : ∀ (r : List UInt8), NL r → NP r → NS r → Ev .star (Lib.join ((k :: j :: ks).map fun k => typS f k 2) [32, 42, 32] ++ r) (some (.mk [42] 0 (k :: j :: ks), r)) := fun r h1 h2 h3 => by
              have e := stars (j :: ks) [k] r (fun z hz => hkid z (by simp [hz])) h1 h2 h3 (by simp) (by simp)
              rw [List.map_cons, List.map_cons, join_cons]
              rw [List.map_cons] at e
              rw [show typS f k 2 ++ [32, 42, 32] ++ Lib.join (typS f j 2 :: List.map (fun k => typS f k 2) ks) [32, 42, 32] ++ r = typS f k 2 ++ ([32, 42, 32] ++ Lib.join (typS f j 2 :: List.map (fun k => typS f k 2) ks) [32, 42, 32] ++ r) by simp]
              exact Ev.star ((hkid k (by simp)).item _ _ (by simp [NL, letB]) (Ev.post (by simp [NP, letB]))) e
            refine ⟨fun r R hr e => ?_, fun r h1 h2 h3 => ?_, fun r h1 h2 h3 h4 => ?_⟩
            · have := Ev.tyStop (body (41 :: r) (by simp [NL, letB]) (by simp [NP]) (by simp [NS])) (by simp [NA])
              have := Ev.itemBrk this e
              simpa [typS, brk] using this
            · have := body r h1 h2 h3
              simpa [typS, brk] using this
            · have := Ev.tyStop (body r h1 h2 h3) h4
              simpa [typS, brk] using this
        · have hl : n.all letB = true := by
            rcases ga with (h | h) | h
            · exact absurd h e1
            · exact absurd h e2
            · exact h
          match ks, hkid with
          | [], _ =>
            refine Reads.of_item (by simp [typS, e0, e1, e2]) (by simp [typS, e0, e1, e2]) fun r R hr e => ?_
            simp only [typS, if_neg e0, if_neg e1, if_neg e2]
            exact Ev.itemName hl e0 hr e
          | [k], hkid =>
            refine Reads.of_item (by simp [typS, e0, e1, e2]) (by simp [typS, e0, e1, e2]) fun r R hr e => ?_
            simp only [typS, if_neg e0, if_neg e1, if_neg e2]
            rw [show typS f k 2 ++ [32] ++ n ++ r = typS f k 2 ++ (32 :: (n ++ r)) by simp]
            exact (hkid k (by simp)).item _ _ (by simp [NL, letB]) (Ev.name hl e0 hr e)
          | k :: j :: ks, hkid =>
            refine Reads.of_item (by simp [typS, e0, e1, e2]) (by simp [typS, e0, e1, e2]) fun r R hr e => ?_
            simp only [typS, if_neg e0, if_neg e1, if_neg e2]
            rw [List.map_cons, List.map_cons, join_cons]
            have e3 := argss hl hr (j :: ks) [k] (fun z hz => hkid z (by simp [hz])) (by simp) e
            rw [List.map_cons] at e3
            rw [show [40] ++ (typS f k 0 ++ [44, 32] ++ Lib.join (typS f j 0 :: List.map (fun k => typS f k 0) ks) [44, 32]) ++ [41, 32] ++ n ++ r = 40 :: (typS f k 0 ++ (44 :: 32 :: (Lib.join (typS f j 0 :: List.map (fun k => typS f k 0) ks) [44, 32] ++ [41, 32] ++ n ++ r))) by simp]
            exact Ev.itemArgs ((hkid k (by simp)).ty _ (by simp [NL, letB]) (by simp [NP]) (by simp [NS]) (by simp [NA])) e3
theorem typS_inj {f : Nat} {t u : Tr} (h1 : smallF f t = true) (h2 : smallF f u = true) (g1 : namedF f t = true) (g2 : namedF f u = true) : (typS f t 0 = typS f u 0) ↔ t = u := by
  refine ⟨fun e => ?_, fun e => by rw [e]⟩
  obtain ⟨N, a⟩ := (reads_all f t h1 g1).ty [] trivial trivial trivial trivial
  obtain ⟨M, b⟩ := (reads_all f u h2 g2).ty [] trivial trivial trivial trivial
  have a := a (N + M) (by omega)
  have b := b (N + M) (by omega)
  rw [e, b] at a
  injection a with a
  exact (Prod.mk.inj a).1.symm
end Go.Proofs.YtomkdhkkggbioaaGreatDoor
