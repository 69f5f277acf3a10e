/-
  heap: where roots stand, in memory; the collector's rows.
-/
import Derived.Test.YtdpnnclkkbfihaaDoorHeV
import Derived.Test.YtdpnnclkkbfihaaDoorHep
namespace Go.Proofs.YtdpnnclkkbfihaaDoor
open Go
set_option linter.unusedSimpArgs false
set_option linter.unusedVariables false

def ptrV (e : Nat × Nat) : Value := .pointer (some ⟨e.1, e.2, none⟩)
/-- words at places; what stood in these blocks besides stays -/
structure Roots (w0 w : World) (rl : List (Nat × Nat)) (ys : List Nat) : Prop where
  len : rl.length = ys.length
  blk : ∀ (b : Nat) (cs : Array Value), (∃ o : Nat, (b, o) ∈ rl) → Blk w0 b cs tWord → ∃ cs', Blk w b cs' tWord ∧ cs'.size = cs.size ∧ (∀ o : Nat, (b, o) ∉ rl → cs'[o]? = cs[o]?) ∧ ∀ (i o : Nat), rl[i]? = some (b, o) → ∃ y : Nat, ys[i]? = some y ∧ cs'[o]? = some (Wd y)
theorem Roots.upd {w0 w w' : World} {S : Nat → Prop} {rl : List (Nat × Nat)} {ys : List Nat} (h : Roots w0 w rl ys) (hu : Upd S w w') (hn : ∀ k, (∃ o, (k, o) ∈ rl) → k < w.heap.size → ¬ S k) : Roots w0 w' rl ys := by
  refine ⟨h.len, fun b cs hb hk => ?_⟩
  obtain ⟨cs', h1, h2⟩ := h.blk b cs hb hk
  exact ⟨cs', h1.upd hu (hn b hb h1.lt), h2⟩
theorem Roots.set {w0 w w' : World} {S : Nat → Prop} {rl : List (Nat × Nat)} {ys : List Nat} {i b o y : Nat} {cs0 cs : Array Value} (h : Roots w0 w rl ys) (hnd : rl.Nodup) (hi : rl[i]? = some (b, o)) (hu : Upd S w w') (hn : ∀ k, (∃ o, (k, o) ∈ rl) → k < w.heap.size → k ≠ b → ¬ S k)
    (hb0 : Blk w0 b cs0 tWord) (hb : Blk w b cs tWord) (hb' : Blk w' b (cs.setIfInBounds o (Wd y)) tWord) : Roots w0 w' rl (ys.set i y) := by
  have hmem : ∃ o, (b, o) ∈ rl := ⟨o, List.mem_of_getElem? hi⟩
  have hil : i < rl.length := (List.getElem?_eq_some_iff.1 hi).1
  refine ⟨by rw [List.length_set]; exact h.len, fun b2 cs2 hb2 hk2 => ?_⟩
  obtain ⟨cs', h1, h2, h3, h4⟩ := h.blk b2 cs2 hb2 hk2
  by_cases e : b2 = b
  · subst e
    obtain rfl := h1.inj hb
    refine ⟨_, hb', by rw [Array.size_setIfInBounds]; exact h2, fun o2 ho2 => ?_, fun i2 o2 h5 => ?_⟩
    · have hne : o ≠ o2 := fun e => by subst e; exact ho2 (List.mem_of_getElem? hi)
      rw [Array.getElem?_setIfInBounds_ne hne]
      exact h3 o2 ho2
    · by_cases e : i2 = i
      · subst e
        rw [hi] at h5
        injection h5 with h5
        injection h5 with _ h5
        subst h5
        obtain ⟨y2, h6, h7⟩ := h4 i2 o hi
        refine ⟨y, by rw [List.getElem?_set_self (by rw [← h.len]; exact hil)], ?_⟩
        rw [Array.getElem?_setIfInBounds_self_of_lt (Array.getElem?_eq_some_iff.1 h7).1]
      · have hne : o ≠ o2 := fun e2 => by
          subst e2
          have h8 := (List.getElem?_inj (j := i) (List.getElem?_eq_some_iff.1 h5).1 hnd).1 (h5.trans hi.symm)
          exact e h8
        obtain ⟨y2, h6, h7⟩ := h4 i2 o2 h5
        refine ⟨y2, by rw [List.getElem?_set_ne (fun h => e h.symm)]; exact h6, by rw [Array.getElem?_setIfInBounds_ne hne]; exact h7⟩
  · refine ⟨cs', h1.upd hu (hn b2 hb2 h1.lt e), h2, h3, fun i2 o2 h5 => ?_⟩
    obtain ⟨y2, h6, h7⟩ := h4 i2 o2 h5
    have hne : i ≠ i2 := fun e2 => by
      subst e2
      rw [hi] at h5
      injection h5 with h5
      injection h5 with h5 _
      exact e h5.symm
    exact ⟨y2, by rw [List.getElem?_set_ne hne]; exact h6, h7⟩
theorem CS.cell {w : World} {D : Nat → Prop} {co cm ct bm bt : Nat} {vo : Value} {old to mv : List Nat} (h : CS w D co cm ct bm bt vo old to mv) {i x j : Nat} (hj : j = i) (hx : to[i]? = some x) : w.cell? ⟨bt, j, none⟩ = some (Wd x) := by
  rw [hj]
  obtain ⟨cur, h1, h2, h3⟩ := h.rt
  refine h1.cell ?_
  have h4 : (to.map Wd)[i]? = some (Wd x) := by rw [List.getElem?_map, hx]; rfl
  rw [← h3, List.getElem?_take_of_lt (List.getElem?_eq_some_iff.1 hx).1, Array.getElem?_toList] at h4
  exact h4
theorem CS.own {w : World} {D : Nat → Prop} {co cm ct bm bt : Nat} {vo : Value} {old to mv : List Nat} (h : CS w D co cm ct bm bt vo old to mv) : Own w (At bt) tWord 1 (.slice (some ⟨bt, 0, none⟩) to.length old.length) to.length (to.map Wd) := by
  obtain ⟨cur, h1, h2, h3⟩ := h.rt
  have h4 := h.le
  have := Own.shut (F := At bt) (sz := 1) h1 rfl h4.1 (le_maxLen (by omega)) (by omega)
  rw [Nat.mul_one, h3] at this
  exact this

theorem PI.skipText {old st ord to mv : List Nat} {M a : Nat} (h : PI old st ord to mv M) (ha : a ∈ ord) (hM : plc (szAt old) ord a = M) (hk : old.getD a 0 % 256 = 3) : PI old st ord to mv (M + szAt old a) := by
  have h1 := plc_lt (sz := szAt old) ha
  have h2 := h.ltot
  refine h.skip (by omega) (by omega) fun b hb d hd h3 h4 hp => ?_
  obtain ⟨rfl, _⟩ := plc_inj (sz := szAt old) hb ha (d := d) (d' := plc (szAt old) ord b + d - M) hd (by omega) (by omega)
  exact hp.2 hk
theorem PI.skipHead {old st ord to mv : List Nat} {M a : Nat} (h : PI old st ord to mv M) (ha : a ∈ ord) (hM : plc (szAt old) ord a = M) : PI old st ord to mv (M + 1) := by
  have h1 := plc_lt (sz := szAt old) ha
  have h2 := h.ltot
  have h0 := szAt_pos old a
  refine h.skip (by omega) (by omega) fun b hb d hd h3 h4 hp => ?_
  obtain ⟨_, rfl⟩ := plc_inj (sz := szAt old) hb ha (d := d) (d' := 0) hd (by omega) (by omega)
  have := hp.1
  omega
theorem parts_get {old : List Nat} {a i : Nat} (hk : old.getD a 0 % 256 ≠ 3) (hi : i < old.getD a 0 / 256) (hl : a + szAt old a ≤ old.length) : (parts old a)[i]? = some (old.getD (a + 1 + i) 0) ∧ 1 + i < szAt old a := by
  have e : szAt old a = 1 + old.getD a 0 / 256 := by unfold szAt szO; rw [if_neg hk]
  unfold parts
  rw [if_neg hk, List.getElem?_take_of_lt hi, List.getElem?_drop]
  exact ⟨getD_lt (by omega), by omega⟩
theorem parts_len {old : List Nat} {a : Nat} (hk : old.getD a 0 % 256 ≠ 3) (hl : a + szAt old a ≤ old.length) : (parts old a).length = old.getD a 0 / 256 := by
  have e : szAt old a = 1 + old.getD a 0 / 256 := by unfold szAt szO; rw [if_neg hk]
  unfold parts
  rw [if_neg hk, List.length_take, List.length_drop]
  omega

/-! ### roots that are come to -/
theorem come_fold_mem {ys : List Nat} : ∀ {l ord : List Nat} {x : Nat}, x ∈ l → x % 2 = 1 ∨ x / 2 ∈ l.foldl come ord
  | [], ord, x, h => by cases h
  | y :: l, ord, x, h => by
    rw [List.foldl_cons]
    rcases List.mem_cons.1 h with rfl | h
    · obtain ⟨r, hr⟩ := come_fold_pre l (come ord x)
      rcases come_in (ord := ord) (x := x) with h | h
      · exact .inl h
      · rw [hr]; exact .inr (List.mem_append_left _ h)
    · exact come_fold_mem (ys := ys) h
def mixR (old : List Nat) (xs : List Nat) (j : Nat) : List Nat := (xs.take j).map (there old ((xs.take j).foldl come [])) ++ xs.drop j
theorem mixR_zero (old xs : List Nat) : mixR old xs 0 = xs := by simp [mixR]
theorem mixR_len (old xs : List Nat) (j : Nat) (h : j ≤ xs.length) : (mixR old xs j).length = xs.length := by simp [mixR]; omega
theorem mixR_get {old xs : List Nat} {j x : Nat} (h : xs[j]? = some x) : (mixR old xs j)[j]? = some x := by
  have hj := (List.getElem?_eq_some_iff.1 h).1
  unfold mixR
  rw [List.getElem?_append_right (by simp; omega), List.getElem?_drop]
  simp only [List.length_map, List.length_take]
  rw [show j + (j - min j xs.length) = j by omega]
  exact h
theorem mixR_step {old xs : List Nat} {j x : Nat} (h : xs[j]? = some x) : (mixR old xs j).set j (there old (come ((xs.take j).foldl come []) x) x) = mixR old xs (j + 1) := by
  have hj := (List.getElem?_eq_some_iff.1 h).1
  have e1 : xs.take (j + 1) = xs.take j ++ [x] := take_get h
  have e2 : xs.drop j = x :: xs.drop (j + 1) := by
    rw [List.drop_eq_getElem_cons hj]
    rw [List.getElem?_eq_getElem hj] at h
    injection h with h
    rw [h]
  unfold mixR
  rw [e1, List.foldl_append, List.foldl_cons, List.foldl_nil, List.map_append, e2]
  have hl : ((xs.take j).map (there old ((xs.take j).foldl come []))).length = j := by simp; omega
  rw [List.set_append_right _ _ (by omega), hl, Nat.sub_self, List.set_cons_zero]
  obtain ⟨r, hr⟩ := come_pre ((xs.take j).foldl come []) x
  have e3 : (xs.take j).map (there old (come ((xs.take j).foldl come []) x)) = (xs.take j).map (there old ((xs.take j).foldl come [])) := by
    apply List.map_congr_left
    intro y hy
    rw [hr]
    exact there_app r (come_fold_mem (ys := []) hy)
  rw [e3]
  simp
theorem mixR_all (old xs : List Nat) : mixR old xs xs.length = xs.map (there old (xs.foldl come [])) := by simp [mixR]
theorem there_fin {old ord0 fin xs : List Nat} (h : ∃ r, fin = ord0 ++ r) (h0 : ord0 = xs.foldl come []) : xs.map (there old ord0) = xs.map (there old fin) := by
  obtain ⟨r, rfl⟩ := h
  subst h0
  apply List.map_congr_left
  intro y hy
  exact (there_app r (come_fold_mem (ys := []) hy)).symm
end Go.Proofs.YtdpnnclkkbfihaaDoor
