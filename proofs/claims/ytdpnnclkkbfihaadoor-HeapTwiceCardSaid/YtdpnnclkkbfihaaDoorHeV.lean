/-
  heap: what collecting does to the words, plain. No program in sight.
-/
import Derived.Test.YtdpnnclkkbfihaaDoorHeU
namespace Go.Proofs.YtdpnnclkkbfihaaDoor
open Go
set_option linter.unusedSimpArgs false
set_option linter.unusedVariables false

/-! ### places -/
def plc (sz : Nat → Nat) : List Nat → Nat → Nat
  | [], _ => 0
  | b :: r, a => if b = a then 0 else sz b + plc sz r a
def tot (sz : Nat → Nat) (ord : List Nat) : Nat := (ord.map sz).sum
theorem tot_nil (sz : Nat → Nat) : tot sz [] = 0 := rfl
theorem tot_cons (sz : Nat → Nat) (b : Nat) (r : List Nat) : tot sz (b :: r) = sz b + tot sz r := by simp [tot]
theorem tot_app (sz : Nat → Nat) (a b : List Nat) : tot sz (a ++ b) = tot sz a + tot sz b := by simp [tot]
theorem plc_app {sz : Nat → Nat} : ∀ {ord : List Nat} {a : Nat} (r : List Nat), a ∈ ord → plc sz (ord ++ r) a = plc sz ord a
  | [], a, r, h => by cases h
  | b :: l, a, r, h => by
    simp only [List.cons_append, plc]
    split
    · rfl
    · rename_i hne
      rw [plc_app r (by rcases List.mem_cons.1 h with h | h; exact absurd h.symm hne; exact h)]
theorem plc_new {sz : Nat → Nat} : ∀ {ord : List Nat} {a : Nat}, a ∉ ord → plc sz (ord ++ [a]) a = tot sz ord
  | [], a, _ => by simp [plc, tot]
  | b :: l, a, h => by
    have h1 : b ≠ a := fun e => h (by simp [e])
    have h2 : a ∉ l := fun e => h (by simp [e])
    simp only [List.cons_append, plc, tot_cons]
    rw [if_neg h1, plc_new h2]
theorem plc_lt {sz : Nat → Nat} : ∀ {ord : List Nat} {a : Nat}, a ∈ ord → plc sz ord a + sz a ≤ tot sz ord
  | [], a, h => by cases h
  | b :: l, a, h => by
    simp only [plc, tot_cons]
    split
    · rename_i e; subst e; omega
    · rename_i hne
      have := plc_lt (sz := sz) (show a ∈ l by rcases List.mem_cons.1 h with h | h; exact absurd h.symm hne; exact h)
      omega
theorem plc_inj {sz : Nat → Nat} : ∀ {ord : List Nat} {a a' d d' : Nat}, a ∈ ord → a' ∈ ord → d < sz a → d' < sz a' → plc sz ord a + d = plc sz ord a' + d' → a = a' ∧ d = d'
  | [], a, a', d, d', h, _, _, _, _ => by cases h
  | b :: l, a, a', d, d', h, h', hd, hd', e => by
    simp only [plc] at e
    by_cases h1 : b = a
    · by_cases h2 : b = a'
      · rw [if_pos h1, if_pos h2] at e; exact ⟨h1.symm.trans h2, by omega⟩
      · rw [if_pos h1, if_neg h2] at e; subst h1; omega
    · by_cases h2 : b = a'
      · rw [if_neg h1, if_pos h2] at e; subst h2; omega
      · rw [if_neg h1, if_neg h2] at e
        exact plc_inj (sz := sz) (ord := l) (by rcases List.mem_cons.1 h with h | h; exact absurd h.symm h1; exact h) (by rcases List.mem_cons.1 h' with h | h; exact absurd h.symm h2; exact h) hd hd' (by omega)
theorem plc_take {sz : Nat → Nat} : ∀ {ord : List Nat} {k a : Nat}, ord.Nodup → ord[k]? = some a → plc sz ord a = tot sz (ord.take k)
  | [], k, a, _, h => by simp at h
  | b :: l, 0, a, _, h => by simp at h; subst h; simp [plc, tot]
  | b :: l, k + 1, a, hn, h => by
    have h1 : l[k]? = some a := by simpa using h
    have h2 : a ∈ l := List.mem_of_getElem? h1
    have h3 : b ≠ a := fun e => by subst e; exact (List.nodup_cons.1 hn).1 h2
    simp only [plc, List.take_succ_cons, tot_cons]
    rw [if_neg h3, plc_take (List.nodup_cons.1 hn).2 h1]
theorem plc_pos {sz : Nat → Nat} : ∀ {ord : List Nat} {m : Nat}, m < tot sz ord → ∃ a ∈ ord, ∃ d, d < sz a ∧ (ord.Nodup → plc sz ord a + d = m)
  | [], m, h => by simp [tot] at h
  | b :: l, m, h => by
    rw [tot_cons] at h
    rcases Nat.lt_or_ge m (sz b) with h1 | h1
    · exact ⟨b, by simp, m, h1, fun _ => by simp [plc]⟩
    · obtain ⟨a, ha, d, hd, he⟩ := plc_pos (sz := sz) (ord := l) (m := m - sz b) (by omega)
      refine ⟨a, by simp [ha], d, hd, fun hn => ?_⟩
      have h3 : b ≠ a := fun e => by subst e; exact (List.nodup_cons.1 hn).1 ha
      have h4 := he (List.nodup_cons.1 hn).2
      simp only [plc]
      rw [if_neg h3]
      omega
theorem tot_erase {sz : Nat → Nat} : ∀ {l : List Nat} {a : Nat}, a ∈ l → tot sz l = sz a + tot sz (l.erase a)
  | [], a, h => by cases h
  | b :: l, a, h => by
    by_cases e : b = a
    · subst e; rw [List.erase_cons_head, tot_cons]
    · rw [List.erase_cons_tail (by simpa using e), tot_cons, tot_cons, tot_erase (sz := sz) (show a ∈ l by rcases List.mem_cons.1 h with h | h; exact absurd h.symm e; exact h)]
      omega
theorem tot_sub {sz : Nat → Nat} : ∀ {a b : List Nat}, a.Nodup → (∀ x ∈ a, x ∈ b) → tot sz a ≤ tot sz b
  | [], b, _, _ => by simp [tot]
  | x :: a, b, hn, hs => by
    have h1 := List.nodup_cons.1 hn
    have h2 := tot_sub (sz := sz) (a := a) (b := b.erase x) h1.2 (fun y hy => by
      have hne : y ≠ x := fun e => by subst e; exact h1.1 hy
      exact (List.mem_erase_of_ne hne).2 (hs y (by simp [hy])))
    rw [tot_cons, tot_erase (sz := sz) (hs x (by simp))]
    omega

/-! ### a heap of objects, one behind the other -/
def Tile (old : List Nat) : Nat → List Nat → Prop
  | at_, [] => at_ = old.length
  | at_, a :: r => a = at_ ∧ at_ + szAt old at_ ≤ old.length ∧ Tile old (at_ + szAt old at_) r
theorem Tile.tot {old : List Nat} : ∀ {st : List Nat} {at_ : Nat}, Tile old at_ st → at_ + tot (szAt old) st = old.length
  | [], at_, h => by simp only [Tile] at h; simp [Go.Proofs.YtdpnnclkkbfihaaDoor.tot, h]
  | a :: r, at_, h => by
    obtain ⟨rfl, h1, h2⟩ := h
    rw [tot_cons]
    have := Tile.tot h2
    omega
theorem Tile.mem {old : List Nat} : ∀ {st : List Nat} {at_ a : Nat}, Tile old at_ st → a ∈ st → at_ ≤ a ∧ a + szAt old a ≤ old.length
  | [], at_, a, _, h => by cases h
  | b :: r, at_, a, h, hm => by
    obtain ⟨rfl, h1, h2⟩ := h
    rcases List.mem_cons.1 hm with rfl | hm
    · exact ⟨Nat.le_refl _, h1⟩
    · have := Tile.mem h2 hm
      exact ⟨by omega, this.2⟩
theorem Tile.nodup {old : List Nat} : ∀ {st : List Nat} {at_ : Nat}, Tile old at_ st → st.Nodup
  | [], _, _ => List.nodup_nil
  | a :: r, at_, h => by
    obtain ⟨rfl, h1, h2⟩ := h
    refine List.nodup_cons.2 ⟨fun hm => ?_, Tile.nodup h2⟩
    have := (Tile.mem h2 hm).1
    have := szAt_pos old a
    omega
def parts (old : List Nat) (a : Nat) : List Nat := if old.getD a 0 % 256 = 3 then [] else (old.drop (a + 1)).take (old.getD a 0 / 256)
structure Vd (old st : List Nat) : Prop where
  tile : Tile old 0 st
  refs : ∀ a ∈ st, ∀ x ∈ parts old a, x % 2 = 1 ∨ x / 2 ∈ st
  w64 : ∀ y ∈ old, y < 18446744073709551616
theorem Vd.in {old st : List Nat} (h : Vd old st) {a : Nat} (ha : a ∈ st) : a < old.length ∧ a + szAt old a ≤ old.length := by
  have h1 := (h.tile.mem ha).2
  have := szAt_pos old a
  exact ⟨by omega, h1⟩
theorem getD_lt {l : List Nat} {i : Nat} (h : i < l.length) : l[i]? = some (l.getD i 0) := by
  rw [List.getD_eq_getElem?_getD, List.getElem?_eq_getElem h]; rfl

/-! ### what is come to, in which order -/
def come (ord : List Nat) (x : Nat) : List Nat := if x % 2 = 1 ∨ x / 2 ∈ ord then ord else ord ++ [x / 2]
def there (old ord : List Nat) (x : Nat) : Nat := if x % 2 = 0 ∧ x / 2 ∈ ord then 2 * plc (szAt old) ord (x / 2) else x
inductive Bfs (old : List Nat) : Nat → List Nat → List Nat → Prop
  | done {k : Nat} {ord : List Nat} (h : ord.length ≤ k) : Bfs old k ord ord
  | step {k a : Nat} {ord fin : List Nat} (h : ord[k]? = some a) (r : Bfs old (k + 1) ((parts old a).foldl come ord) fin) : Bfs old k ord fin
theorem Bfs.unique {old : List Nat} {k : Nat} {ord f1 : List Nat} (h : Bfs old k ord f1) : ∀ {f2 : List Nat}, Bfs old k ord f2 → f1 = f2 := by
  induction h with
  | done h =>
    intro f2 h2
    cases h2 with
    | done _ => rfl
    | step h3 _ => have := (List.getElem?_eq_some_iff.1 h3).1; omega
  | step h r ih =>
    intro f2 h2
    cases h2 with
    | done h3 => have := (List.getElem?_eq_some_iff.1 h).1; omega
    | step h3 r3 =>
      rw [h] at h3
      injection h3 with h3
      subst h3
      exact ih r3
theorem come_pre (ord : List Nat) (x : Nat) : ∃ r, come ord x = ord ++ r := by
  unfold come
  split
  · exact ⟨[], by simp⟩
  · exact ⟨_, rfl⟩
theorem come_fold_pre : ∀ (l : List Nat) (ord : List Nat), ∃ r, l.foldl come ord = ord ++ r
  | [], ord => ⟨[], by simp⟩
  | x :: l, ord => by
    obtain ⟨r1, h1⟩ := come_pre ord x
    obtain ⟨r2, h2⟩ := come_fold_pre l (come ord x)
    exact ⟨r1 ++ r2, by rw [List.foldl_cons, h2, h1, List.append_assoc]⟩
theorem come_in {ord : List Nat} {x : Nat} : x % 2 = 1 ∨ x / 2 ∈ come ord x := by
  unfold come
  split
  · assumption
  · exact .inr (by simp)

/-! ### the collector's state -/
def isPart (old : List Nat) (a d : Nat) : Prop := 1 ≤ d ∧ old.getD a 0 % 256 ≠ 3
structure PI (old st ord to mv : List Nat) (m : Nat) : Prop where
  nd : ord.Nodup
  sub : ∀ a ∈ ord, a ∈ st
  lmv : mv.length = old.length
  mvs : ∀ a, a < old.length → mv.getD a 0 = if a ∈ ord then 2 * plc (szAt old) ord a + 1 else 0
  ltot : to.length = tot (szAt old) ord
  lm : m ≤ to.length
  old_ : ∀ a ∈ ord, ∀ d, d < szAt old a → ¬ (plc (szAt old) ord a + d < m ∧ isPart old a d) → to.getD (plc (szAt old) ord a + d) 0 = old.getD (a + d) 0
  new_ : ∀ a ∈ ord, ∀ d, d < szAt old a → plc (szAt old) ord a + d < m → isPart old a d → to.getD (plc (szAt old) ord a + d) 0 = there old ord (old.getD (a + d) 0) ∧ (old.getD (a + d) 0 % 2 = 1 ∨ old.getD (a + d) 0 / 2 ∈ ord)

theorem there_app {old ord : List Nat} {x : Nat} (r : List Nat) (h : x % 2 = 1 ∨ x / 2 ∈ ord) : there old (ord ++ r) x = there old ord x := by
  unfold there
  rcases h with h | h
  · rw [if_neg (by omega), if_neg (by omega)]
  · by_cases h2 : x % 2 = 0
    · rw [if_pos ⟨h2, by simp [h]⟩, if_pos ⟨h2, h⟩, plc_app r h]
    · rw [if_neg (fun e => h2 e.1), if_neg (fun e => h2 e.1)]

theorem PI.le {old st ord to mv : List Nat} {m : Nat} (h : PI old st ord to mv m) (hv : Vd old st) : to.length ≤ old.length := by
  rw [h.ltot]
  have := hv.tile.tot
  have := tot_sub (sz := szAt old) h.nd h.sub
  omega
theorem PI.go {old st ord to mv : List Nat} {m x : Nat} (h : PI old st ord to mv m) (hv : Vd old st) (hx : x % 2 = 1 ∨ x / 2 ∈ st) (hl : old.length ≤ 1048576) :
    isR old x → x / 2 + szAt old (x / 2) ≤ old.length ∧ (mv.getD (x / 2) 0 = 0 ∧ to.length + szAt old (x / 2) ≤ old.length ∨ ∃ k, mv.getD (x / 2) 0 = 2 * k + 1 ∧ k < 1152921504606846976) := by
  intro hr
  have hs : x / 2 ∈ st := by rcases hx with h | h; exact absurd hr.1 (by omega); exact h
  refine ⟨(hv.in hs).2, ?_⟩
  rw [h.mvs _ hr.2]
  by_cases hm : x / 2 ∈ ord
  · rw [if_pos hm]
    right
    have h1 := plc_lt (sz := szAt old) hm
    have h2 := h.le hv
    rw [h.ltot] at h2
    exact ⟨_, rfl, by omega⟩
  · rw [if_neg hm]
    left
    refine ⟨rfl, ?_⟩
    have h1 := tot_sub (sz := szAt old) (a := ord ++ [x / 2]) (b := st) (by
      rw [List.nodup_append]
      exact ⟨h.nd, by simp, fun a ha b hb e => by simp at hb; subst hb; subst e; exact hm ha⟩) (fun y hy => by
      rcases List.mem_append.1 hy with hy | hy
      · exact h.sub y hy
      · simp at hy; subst hy; exact hs)
    rw [tot_app, tot_cons, tot_nil] at h1
    have h2 := hv.tile.tot
    rw [h.ltot]
    omega

theorem getD_app_l {l r : List Nat} {i : Nat} (h : i < l.length) : (l ++ r).getD i 0 = l.getD i 0 := by
  rw [List.getD_eq_getElem?_getD, List.getD_eq_getElem?_getD, List.getElem?_append_left h]
theorem getD_app_r {l r : List Nat} {i : Nat} : (l ++ r).getD (l.length + i) 0 = r.getD i 0 := by
  rw [List.getD_eq_getElem?_getD, List.getD_eq_getElem?_getD, List.getElem?_append_right (by omega)]
  congr 2
  omega
theorem objAt_get {old : List Nat} {a d : Nat} (hd : d < szAt old a) : (objAt old a).getD d 0 = old.getD (a + d) 0 := by
  unfold objAt
  rw [List.getD_eq_getElem?_getD, List.getD_eq_getElem?_getD, List.getElem?_take_of_lt hd, List.getElem?_drop]

/-- what a step of the collector does to its state -/
theorem PI.move {old st ord to mv : List Nat} {m x : Nat} (h : PI old st ord to mv m) (hv : Vd old st) (hx : x % 2 = 1 ∨ x / 2 ∈ st) :
    PI old st (come ord x) (mvTo old to mv x) (mvMv old to mv x) m ∧ mvY old to mv x = there old (come ord x) x := by
  by_cases hr : isR old x
  · have hs : x / 2 ∈ st := by rcases hx with h | h; exact absurd hr.1 (by omega); exact h
    have hmv := h.mvs _ hr.2
    by_cases hm : x / 2 ∈ ord
    · rw [if_pos hm] at hmv
      have e1 : come ord x = ord := by unfold come; rw [if_pos (.inr hm)]
      have e2 : mvTo old to mv x = to := if_neg (fun e => by have := e.2; omega)
      have e3 : mvMv old to mv x = mv := if_neg (fun e => by have := e.2; omega)
      have e4 : mvY old to mv x = 2 * plc (szAt old) ord (x / 2) := by
        unfold mvY
        rw [if_pos hr, if_neg (by omega), hmv]
        omega
      have e5 : there old ord x = 2 * plc (szAt old) ord (x / 2) := by unfold there; rw [if_pos ⟨hr.1, hm⟩]
      rw [e1, e2, e3, e4, e5]
      exact ⟨h, rfl⟩
    · rw [if_neg hm] at hmv
      have e1 : come ord x = ord ++ [x / 2] := by unfold come; rw [if_neg (by have := hr.1; intro e; rcases e with e | e; omega; exact hm e)]
      have e2 : mvTo old to mv x = to ++ objAt old (x / 2) := if_pos ⟨hr, hmv⟩
      have e3 : mvMv old to mv x = mv.set (x / 2) (2 * to.length + 1) := if_pos ⟨hr, hmv⟩
      have e4 : mvY old to mv x = 2 * to.length := by unfold mvY; rw [if_pos hr, if_pos hmv]
      have e5 : there old (ord ++ [x / 2]) x = 2 * to.length := by unfold there; rw [if_pos ⟨hr.1, by simp⟩, plc_new hm, h.ltot]
      rw [e1, e2, e3, e4, e5]
      refine ⟨⟨?_, ?_, ?_, ?_, ?_, ?_, ?_, ?_⟩, rfl⟩
      · rw [List.nodup_append]
        exact ⟨h.nd, by simp, fun a ha b hb e => by simp at hb; subst hb; subst e; exact hm ha⟩
      · intro y hy
        rcases List.mem_append.1 hy with hy | hy
        · exact h.sub y hy
        · simp at hy; subst hy; exact hs
      · rw [List.length_set]; exact h.lmv
      · intro a ha
        rw [List.getD_eq_getElem?_getD, List.getElem?_set]
        by_cases e : x / 2 = a
        · subst e
          rw [if_pos rfl, if_pos (by rw [h.lmv]; exact ha), if_pos (by simp), plc_new hm, h.ltot]
          rfl
        · rw [if_neg e, ← List.getD_eq_getElem?_getD, h.mvs a ha]
          by_cases e2 : a ∈ ord
          · rw [if_pos e2, if_pos (by simp [e2]), plc_app _ e2]
          · rw [if_neg e2, if_neg (by simp [e2]; exact fun h => e h.symm)]
      · rw [List.length_append, objAt_len (hv.in hs).2, tot_app, tot_cons, tot_nil, h.ltot]
        omega
      · rw [List.length_append]; have := h.lm; omega
      · intro a ha d hd hn
        rcases List.mem_append.1 ha with ha | ha
        · have h1 := plc_lt (sz := szAt old) ha
          have h2 := h.ltot
          rw [plc_app _ ha] at hn ⊢
          rw [getD_app_l (by omega)]
          exact h.old_ a ha d hd hn
        · simp at ha
          subst ha
          rw [plc_new hm, ← h.ltot, getD_app_r, objAt_get hd]
      · intro a ha d hd hn hp
        rcases List.mem_append.1 ha with ha | ha
        · have h1 := plc_lt (sz := szAt old) ha
          have h2 := h.ltot
          rw [plc_app _ ha] at hn ⊢
          rw [getD_app_l (by omega)]
          obtain ⟨h3, h4⟩ := h.new_ a ha d hd hn hp
          refine ⟨by rw [h3, there_app _ h4], ?_⟩
          rcases h4 with h4 | h4
          · exact .inl h4
          · exact .inr (List.mem_append_left _ h4)
        · simp at ha
          subst ha
          rw [plc_new hm, ← h.ltot] at hn
          have := h.lm
          omega
  · have ho : x % 2 = 1 := by
      rcases hx with h | h
      · exact h
      · have h1 := (hv.in h).1
        rcases Nat.mod_two_eq_zero_or_one x with e | e
        · exact absurd ⟨e, h1⟩ hr
        · exact e
    have e1 : come ord x = ord := by unfold come; rw [if_pos (.inl ho)]
    have e2 : mvTo old to mv x = to := if_neg (fun e => hr e.1)
    have e3 : mvMv old to mv x = mv := if_neg (fun e => hr e.1)
    have e4 : mvY old to mv x = x := by unfold mvY; rw [if_neg hr]
    have e5 : there old ord x = x := by unfold there; rw [if_neg (by omega)]
    rw [e1, e2, e3, e4, e5]
    exact ⟨h, rfl⟩
/-- a word that is scanned -/
theorem PI.scan {old st ord to mv : List Nat} {m a d : Nat} (h : PI old st ord to mv m) (hv : Vd old st) (ha : a ∈ ord) (hd : d < szAt old a) (hp : isPart old a d) (hm : plc (szAt old) ord a + d = m)
    (hx : old.getD (a + d) 0 % 2 = 1 ∨ old.getD (a + d) 0 / 2 ∈ st) :
    to.getD m 0 = old.getD (a + d) 0 ∧ PI old st (come ord (old.getD (a + d) 0)) ((mvTo old to mv (old.getD (a + d) 0)).set m (mvY old to mv (old.getD (a + d) 0))) (mvMv old to mv (old.getD (a + d) 0)) (m + 1) := by
  have h0 : to.getD m 0 = old.getD (a + d) 0 := by rw [← hm]; exact h.old_ a ha d hd (fun e => by omega)
  refine ⟨h0, ?_⟩
  obtain ⟨h1, h2⟩ := h.move hv hx
  generalize hxx : old.getD (a + d) 0 = x at *
  obtain ⟨r, hr⟩ := come_pre ord x
  have hpl : plc (szAt old) (come ord x) a + d = m := by rw [hr, plc_app _ ha]; exact hm
  have ha2 : a ∈ come ord x := by rw [hr]; simp [ha]
  have hlt := plc_lt (sz := szAt old) ha2
  have hlen := h1.ltot
  refine ⟨h1.nd, h1.sub, h1.lmv, h1.mvs, by rw [List.length_set]; exact hlen, by rw [List.length_set]; omega, ?_, ?_⟩
  · intro b hb e he hn
    have hne : plc (szAt old) (come ord x) b + e ≠ m := fun h5 => by
      obtain ⟨rfl, rfl⟩ := plc_inj hb ha2 he hd (h5.trans hpl.symm)
      exact hn ⟨by omega, hp⟩
    rw [List.getD_eq_getElem?_getD, List.getElem?_set, if_neg (fun h5 => hne h5.symm), ← List.getD_eq_getElem?_getD]
    exact h1.old_ b hb e he (fun h5 => hn ⟨by omega, h5.2⟩)
  · intro b hb e he hl hpb
    by_cases hne : plc (szAt old) (come ord x) b + e = m
    · obtain ⟨rfl, rfl⟩ := plc_inj hb ha2 he hd (hne.trans hpl.symm)
      rw [hne, List.getD_eq_getElem?_getD, List.getElem?_set, if_pos rfl, if_pos (by omega), hxx]
      exact ⟨h2, come_in⟩
    · rw [List.getD_eq_getElem?_getD, List.getElem?_set, if_neg (fun h5 => hne h5.symm), ← List.getD_eq_getElem?_getD]
      exact h1.new_ b hb e he (by omega) hpb
/-- words that are none of an object's parts are passed over -/
theorem PI.skip {old st ord to mv : List Nat} {m m' : Nat} (h : PI old st ord to mv m) (hm : m ≤ m') (hl : m' ≤ to.length)
    (hn : ∀ a ∈ ord, ∀ d, d < szAt old a → m ≤ plc (szAt old) ord a + d → plc (szAt old) ord a + d < m' → ¬ isPart old a d) : PI old st ord to mv m' := by
  refine ⟨h.nd, h.sub, h.lmv, h.mvs, h.ltot, hl, ?_, ?_⟩
  · intro a ha d hd hne
    exact h.old_ a ha d hd (fun e => hne ⟨by omega, e.2⟩)
  · intro a ha d hd hlt hp
    rcases Nat.lt_or_ge (plc (szAt old) ord a + d) m with h1 | h1
    · exact h.new_ a ha d hd h1 hp
    · exact absurd hp (hn a ha d hd h1 hlt)
theorem PI.start {old st : List Nat} : PI old st [] [] (List.replicate old.length 0) 0 :=
  ⟨List.nodup_nil, fun _ h => (by cases h), (by simp), fun a ha => (by simp [List.getD_eq_getElem?_getD, List.getElem?_replicate, ha]), (by simp [tot]), Nat.le_refl _, fun _ h => (by cases h), fun _ h => (by cases h)⟩
end Go.Proofs.YtdpnnclkkbfihaaDoor
