/-
  heap: collected twice it is as collected once. No program in sight.
-/
import Derived.Test.YtdpnnclkkbfihaaDoorHer
namespace Go.Proofs.YtdpnnclkkbfihaaDoor
open Go
set_option linter.unusedSimpArgs false
set_option linter.unusedVariables false

theorem Bfs.pre {old : List Nat} {k : Nat} {ord fin : List Nat} (h : Bfs old k ord fin) : ∃ r, fin = ord ++ r := by
  induction h with
  | done _ => exact ⟨[], by simp⟩
  | @step k a ord fin h r ih =>
    obtain ⟨r1, h1⟩ := ih
    obtain ⟨r2, h2⟩ := come_fold_pre (parts old a) ord
    exact ⟨r2 ++ r1, by rw [h1, h2, List.append_assoc]⟩
theorem plc_map {sz sz' : Nat → Nat} {φ : Nat → Nat} : ∀ {l : List Nat} {a : Nat}, (∀ b ∈ l, sz' (φ b) = sz b) → (∀ b ∈ l, φ b = φ a → b = a) → plc sz' (l.map φ) (φ a) = plc sz l a
  | [], a, _, _ => rfl
  | b :: l, a, h1, h2 => by
    simp only [List.map_cons, plc]
    have ih := plc_map (l := l) (a := a) (fun c hc => h1 c (by simp [hc])) (fun c hc => h2 c (by simp [hc]))
    by_cases e : b = a
    · subst e; rw [if_pos rfl, if_pos rfl]
    · rw [if_neg e, if_neg (fun e2 => e (h2 b (by simp) e2)), ih, h1 b (by simp)]
section
variable {old st fin to mv : List Nat}
theorem plc_one (hn : fin.Nodup) {a b : Nat} (ha : a ∈ fin) (hb : b ∈ fin) (h : plc (szAt old) fin a = plc (szAt old) fin b) : a = b :=
  (plc_inj (sz := szAt old) ha hb (d := 0) (d' := 0) (szAt_pos _ _) (szAt_pos _ _) (by omega)).1
theorem come_sim (hn : fin.Nodup) {ord : List Nat} (hs : ∀ a ∈ ord, a ∈ fin) {x : Nat} (hx : x % 2 = 1 ∨ x / 2 ∈ fin) :
    come (ord.map (plc (szAt old) fin)) (there old fin x) = (come ord x).map (plc (szAt old) fin) ∧ ∀ a ∈ come ord x, a ∈ fin := by
  rcases Nat.mod_two_eq_zero_or_one x with e | e
  · have hm : x / 2 ∈ fin := by rcases hx with h | h; omega; exact h
    have e1 : there old fin x = 2 * plc (szAt old) fin (x / 2) := by unfold there; rw [if_pos ⟨e, hm⟩]
    rw [e1]
    unfold come
    rw [show 2 * plc (szAt old) fin (x / 2) / 2 = plc (szAt old) fin (x / 2) by omega]
    by_cases hm2 : x / 2 ∈ ord
    · rw [if_pos (.inr (List.mem_map.2 ⟨_, hm2, rfl⟩)), if_pos (.inr hm2)]
      exact ⟨rfl, hs⟩
    · rw [if_neg, if_neg]
      · refine ⟨by rw [List.map_append]; rfl, fun a ha => ?_⟩
        rcases List.mem_append.1 ha with ha | ha
        · exact hs a ha
        · simp at ha; subst ha; exact hm
      · intro h; rcases h with h | h; omega; exact hm2 h
      · intro h
        rcases h with h | h
        · omega
        · obtain ⟨b, hb, hbe⟩ := List.mem_map.1 h
          exact hm2 (plc_one hn (hs b hb) hm hbe ▸ hb)
  · have e1 : there old fin x = x := by unfold there; rw [if_neg (by omega)]
    rw [e1]
    unfold come
    rw [if_pos (.inl e), if_pos (.inl e)]
    exact ⟨rfl, hs⟩
theorem come_sims (hn : fin.Nodup) : ∀ {l ord : List Nat}, (∀ a ∈ ord, a ∈ fin) → (∀ x ∈ l, x % 2 = 1 ∨ x / 2 ∈ fin) →
    (l.map (there old fin)).foldl come (ord.map (plc (szAt old) fin)) = (l.foldl come ord).map (plc (szAt old) fin) ∧ ∀ a ∈ l.foldl come ord, a ∈ fin
  | [], ord, hs, _ => ⟨rfl, hs⟩
  | x :: l, ord, hs, hx => by
    obtain ⟨h1, h2⟩ := come_sim (old := old) hn hs (hx x (by simp))
    rw [List.map_cons, List.foldl_cons, List.foldl_cons, h1]
    exact come_sims hn h2 (fun y hy => hx y (by simp [hy]))
theorem PI.sim (hPI : PI old st fin to mv to.length) (hv : Vd old st) {k : Nat} {ord f : List Nat} (h : Bfs old k ord f) : f = fin → Bfs to k (ord.map (plc (Go.Proofs.YtdpnnclkkbfihaaDoor.szAt old) fin)) (fin.map (plc (Go.Proofs.YtdpnnclkkbfihaaDoor.szAt old) fin)) := by
  induction h with
  | done h =>
    intro e
    subst e
    exact Bfs.done (by rw [List.length_map]; exact h)
  | @step k a ord f h r ih =>
    intro e
    have hp := (Bfs.step h r).pre
    obtain ⟨r1, h1⟩ := hp
    have hsub : ∀ b ∈ ord, b ∈ fin := fun b hb => by rw [← e, h1]; exact List.mem_append_left _ hb
    have ha : a ∈ fin := hsub a (List.mem_of_getElem? h)
    obtain ⟨p1, p2⟩ := hPI.partsTo hv ha
    have h2 := (come_sims (old := old) hPI.nd hsub p2).1
    refine Bfs.step (a := plc (Go.Proofs.YtdpnnclkkbfihaaDoor.szAt old) fin a) (by rw [List.getElem?_map, h]; rfl) ?_
    rw [p1, h2]
    exact ih e
theorem PI.plcTo (hPI : PI old st fin to mv to.length) {a : Nat} (ha : a ∈ fin) : plc (Go.Proofs.YtdpnnclkkbfihaaDoor.szAt to) (fin.map (plc (Go.Proofs.YtdpnnclkkbfihaaDoor.szAt old) fin)) (plc (Go.Proofs.YtdpnnclkkbfihaaDoor.szAt old) fin a) = plc (Go.Proofs.YtdpnnclkkbfihaaDoor.szAt old) fin a :=
  plc_map (fun b hb => hPI.szAt hb) (fun b hb h => plc_one hPI.nd hb ha h)
theorem PI.thereTo (hPI : PI old st fin to mv to.length) (y : Nat) : there to (fin.map (plc (Go.Proofs.YtdpnnclkkbfihaaDoor.szAt old) fin)) y = y := by
  unfold there
  split
  · rename_i h
    obtain ⟨a, ha, he⟩ := List.mem_map.1 h.2
    rw [← he, hPI.plcTo ha, he]
    omega
  · rfl
/-- twice as once -/
theorem PI.twice (hPI : PI old st fin to mv to.length) (hv : Vd old st) {xs : List Nat} (hbf : Bfs old 0 (xs.foldl come []) fin) (hx : ∀ x ∈ xs, x % 2 = 1 ∨ x / 2 ∈ fin) {fin2 to2 mv2 : List Nat}
    (hbf2 : Bfs to 0 ((xs.map (there old fin)).foldl come []) fin2) (hPI2 : PI to (fin.map (plc (Go.Proofs.YtdpnnclkkbfihaaDoor.szAt old) fin)) fin2 to2 mv2 to2.length) : fin2 = fin.map (plc (Go.Proofs.YtdpnnclkkbfihaaDoor.szAt old) fin) ∧ to2 = to := by
  have h1 := hPI.sim hv hbf rfl
  have h2 := (come_sims (old := old) hPI.nd (ord := []) (fun _ h => by cases h) hx).1
  rw [List.map_nil] at h2
  rw [← h2] at h1
  have e := hbf2.unique h1
  refine ⟨e, ?_⟩
  subst e
  have hl : to2.length = to.length := by
    rw [hPI2.ltot, hPI.ltot]
    unfold tot
    rw [List.map_map]
    congr 1
    apply List.map_congr_left
    intro a ha
    exact hPI.szAt ha
  apply List.ext_getElem?
  intro m
  rcases Nat.lt_or_ge m to.length with hm | hm
  · have hm2 := hm
    rw [hPI.ltot] at hm2
    obtain ⟨a, ha, d, hd, hpos⟩ := plc_pos hm2
    have hpos := hpos hPI.nd
    have ha2 : plc (Go.Proofs.YtdpnnclkkbfihaaDoor.szAt old) fin a ∈ fin.map (plc (Go.Proofs.YtdpnnclkkbfihaaDoor.szAt old) fin) := List.mem_map.2 ⟨a, ha, rfl⟩
    have hd2 : d < Go.Proofs.YtdpnnclkkbfihaaDoor.szAt to (plc (Go.Proofs.YtdpnnclkkbfihaaDoor.szAt old) fin a) := by rw [hPI.szAt ha]; exact hd
    have key : to2.getD m 0 = to.getD m 0 := by
      by_cases hp : isPart to (plc (Go.Proofs.YtdpnnclkkbfihaaDoor.szAt old) fin a) d
      · have h3 := (hPI2.new_ _ ha2 d hd2 (by rw [hPI.plcTo ha]; omega) hp).1
        rw [hPI.plcTo ha, hPI.thereTo, hpos] at h3
        exact h3
      · have h3 := hPI2.old_ _ ha2 d hd2 (fun e => hp e.2)
        rw [hPI.plcTo ha, hpos] at h3
        exact h3
    rw [getD_lt (by omega), getD_lt hm, key]
  · rw [List.getElem?_eq_none (by omega), List.getElem?_eq_none (by omega)]
end
/-! ### words that are objects -/
structure GoodH (l st : List Nat) : Prop where
  vd : Vd l st
  kd : ∀ a ∈ st, 1 ≤ l.getD a 0 % 256 ∧ l.getD a 0 % 256 ≤ 6
theorem GoodH.n8 {l st : List Nat} (h : GoodH l st) {a : Nat} (ha : a ∈ st) : l.getD a 0 / 256 ≤ 8 * l.length := by
  have h1 := (h.vd.in ha).2
  unfold szAt szO at h1
  split at h1 <;> omega
theorem GoodH.collect {old st fin to mv : List Nat} (hg : GoodH old st) (h : PI old st fin to mv to.length) (hl : old.length ≤ 1048576) : GoodH to (fin.map (plc (szAt old) fin)) := by
  refine ⟨hg.vd.collect h hl, fun a' ha' => ?_⟩
  obtain ⟨a, ha, rfl⟩ := List.mem_map.1 ha'
  rw [h.head ha]
  exact hg.kd a (h.sub a ha)
end Go.Proofs.YtdpnnclkkbfihaaDoor
