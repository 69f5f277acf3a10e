/-
  heap: what a collected heap is, plain; a row of roots.
-/
import Derived.Test.YtdpnnclkkbfihaaDoorHeq
namespace Go.Proofs.YtdpnnclkkbfihaaDoor
open Go
set_option linter.unusedSimpArgs false
set_option linter.unusedVariables false

theorem getD_of {l : List Nat} {i x : Nat} (h : l[i]? = some x) : l.getD i 0 = x := by
  rw [List.getD_eq_getElem?_getD, h]; rfl
section
variable {old st fin to mv : List Nat}
theorem PI.head (h : PI old st fin to mv to.length) {a : Nat} (ha : a ∈ fin) : to.getD (plc (szAt old) fin a) 0 = old.getD a 0 :=
  h.old_ a ha 0 (szAt_pos _ _) (fun e => by have := e.2.1; omega)
theorem PI.szAt (h : PI old st fin to mv to.length) {a : Nat} (ha : a ∈ fin) : szAt to (plc (szAt old) fin a) = szAt old a := by
  show szO (to.getD (plc (Go.Proofs.YtdpnnclkkbfihaaDoor.szAt old) fin a) 0) = szO (old.getD a 0)
  rw [h.head ha]
theorem PI.tile (h : PI old st fin to mv to.length) : ∀ (n k : Nat), k + n = fin.length → Tile to (tot (Go.Proofs.YtdpnnclkkbfihaaDoor.szAt old) (fin.take k)) ((fin.drop k).map (plc (Go.Proofs.YtdpnnclkkbfihaaDoor.szAt old) fin))
  | 0, k, hk => by
    rw [List.drop_eq_nil_of_le (by omega), List.map_nil, List.take_of_length_le (by omega)]
    exact h.ltot.symm
  | n + 1, k, hk => by
    have hkl : k < fin.length := by omega
    have h1 := plc_take (sz := Go.Proofs.YtdpnnclkkbfihaaDoor.szAt old) h.nd (List.getElem?_eq_getElem hkl)
    have hm := List.getElem_mem hkl
    have h2 := plc_lt (sz := Go.Proofs.YtdpnnclkkbfihaaDoor.szAt old) hm
    have h3 := h.szAt hm
    have h4 := h.tile n (k + 1) (by omega)
    rw [take_get (List.getElem?_eq_getElem hkl), tot_app, tot_cons, tot_nil] at h4
    rw [List.drop_eq_getElem_cons hkl, List.map_cons]
    refine ⟨h1, ?_, ?_⟩
    · rw [← h1, h3, h.ltot]; exact h2
    · rw [← h1, h3, h1]; exact h4
theorem PI.partsTo (h : PI old st fin to mv to.length) (hv : Vd old st) {a : Nat} (ha : a ∈ fin) : parts to (plc (Go.Proofs.YtdpnnclkkbfihaaDoor.szAt old) fin a) = (parts old a).map (there old fin) ∧ ∀ x ∈ parts old a, x % 2 = 1 ∨ x / 2 ∈ fin := by
  have h0 := h.head ha
  have hin := hv.in (h.sub a ha)
  have h2 := plc_lt (sz := Go.Proofs.YtdpnnclkkbfihaaDoor.szAt old) ha
  have h3 := h.szAt ha
  by_cases hk : old.getD a 0 % 256 = 3
  · unfold parts
    rw [h0, if_pos hk, if_pos hk]
    exact ⟨rfl, fun _ hx => by cases hx⟩
  · have hl1 := parts_len hk hin.2
    have hl2 := parts_len (old := to) (a := plc (Go.Proofs.YtdpnnclkkbfihaaDoor.szAt old) fin a) (by rw [h0]; exact hk) (by rw [h3, h.ltot]; exact h2)
    rw [h0] at hl2
    have key : ∀ i, i < old.getD a 0 / 256 → (parts to (plc (Go.Proofs.YtdpnnclkkbfihaaDoor.szAt old) fin a))[i]? = some (there old fin (old.getD (a + 1 + i) 0)) ∧ (parts old a)[i]? = some (old.getD (a + 1 + i) 0) ∧ (old.getD (a + 1 + i) 0 % 2 = 1 ∨ old.getD (a + 1 + i) 0 / 2 ∈ fin) := by
      intro i hi
      obtain ⟨p1, p2⟩ := parts_get hk hi hin.2
      obtain ⟨p3, p4⟩ := parts_get (old := to) (a := plc (Go.Proofs.YtdpnnclkkbfihaaDoor.szAt old) fin a) (i := i) (by rw [h0]; exact hk) (by rw [h0]; exact hi) (by rw [h3, h.ltot]; exact h2)
      obtain ⟨p5, p6⟩ := h.new_ a ha (1 + i) p2 (by rw [h.ltot]; omega) ⟨by omega, hk⟩
      rw [show a + (1 + i) = a + 1 + i by omega] at p5 p6
      rw [show plc (Go.Proofs.YtdpnnclkkbfihaaDoor.szAt old) fin a + (1 + i) = plc (Go.Proofs.YtdpnnclkkbfihaaDoor.szAt old) fin a + 1 + i by omega] at p5
      rw [p5] at p3
      exact ⟨p3, p1, p6⟩
    refine ⟨?_, fun x hx => ?_⟩
    · apply List.ext_getElem?
      intro i
      rcases Nat.lt_or_ge i (old.getD a 0 / 256) with hi | hi
      · obtain ⟨k1, k2, _⟩ := key i hi
        rw [k1, List.getElem?_map, k2]
        rfl
      · rw [List.getElem?_eq_none (by omega), List.getElem?_eq_none (by rw [List.length_map]; omega)]
    · obtain ⟨i, hi, rfl⟩ := List.mem_iff_getElem.1 hx
      obtain ⟨_, k2, k3⟩ := key i (by omega)
      rw [List.getElem?_eq_getElem hi] at k2
      injection k2 with k2
      rw [k2]
      exact k3
theorem there_tgt {x : Nat} (hx : x % 2 = 1 ∨ x / 2 ∈ fin) : there old fin x % 2 = 1 ∨ (there old fin x / 2 ∈ fin.map (plc (Go.Proofs.YtdpnnclkkbfihaaDoor.szAt old) fin)) := by
  unfold there
  split
  · rename_i h
    right
    rw [show 2 * plc (Go.Proofs.YtdpnnclkkbfihaaDoor.szAt old) fin (x / 2) / 2 = plc (Go.Proofs.YtdpnnclkkbfihaaDoor.szAt old) fin (x / 2) by omega]
    exact List.mem_map.2 ⟨_, h.2, rfl⟩
  · rename_i h
    rcases hx with h1 | h1
    · exact .inl h1
    · left
      rcases Nat.mod_two_eq_zero_or_one x with e | e
      · exact absurd ⟨e, h1⟩ h
      · exact e
/-- a collected heap is one -/
theorem Vd.collect (hv : Vd old st) (h : PI old st fin to mv to.length) (hl : old.length ≤ 1048576) : Vd to (fin.map (plc (Go.Proofs.YtdpnnclkkbfihaaDoor.szAt old) fin)) := by
  have hle := h.le hv
  refine ⟨?_, ?_, ?_⟩
  · have := h.tile fin.length 0 (by omega)
    simpa [tot] using this
  · intro a' ha' x hx
    obtain ⟨a, ha, rfl⟩ := List.mem_map.1 ha'
    obtain ⟨e, hr⟩ := h.partsTo hv ha
    rw [e] at hx
    obtain ⟨y, hy, rfl⟩ := List.mem_map.1 hx
    exact there_tgt (hr y hy)
  · intro y hy
    obtain ⟨i, hi, rfl⟩ := List.mem_iff_getElem.1 hy
    have hi2 := hi
    rw [h.ltot] at hi2
    obtain ⟨a, ha, d, hd, hpos⟩ := plc_pos hi2
    have hpos := hpos h.nd
    have hy2 : to[i] = to.getD i 0 := (getD_of (List.getElem?_eq_getElem hi)).symm
    have hin := hv.in (h.sub a ha)
    have hb : old.getD (a + d) 0 < 18446744073709551616 := hv.w64 _ (List.mem_of_getElem? (getD_lt (by omega)))
    by_cases hp : isPart old a d
    · obtain ⟨h1, h2⟩ := h.new_ a ha d hd (by omega) hp
      rw [hpos] at h1
      rw [hy2, h1]
      unfold there
      split
      · rename_i h3
        have h4 := plc_lt (sz := Go.Proofs.YtdpnnclkkbfihaaDoor.szAt old) h3.2
        rw [← h.ltot] at h4
        omega
      · exact hb
    · have h1 := h.old_ a ha d hd (fun e => hp e.2)
      rw [hpos] at h1
      rw [hy2, h1]
      exact hb
theorem szText {a n : Nat} (h : old[a]? = some (n * 256 + 3)) : Go.Proofs.YtdpnnclkkbfihaaDoor.szAt old a = 1 + (n + 7) / 8 := by
  unfold Go.Proofs.YtdpnnclkkbfihaaDoor.szAt
  rw [getD_of h]
  unfold szO
  rw [if_pos (by omega)]
  omega
/-- a text that is reached is the same where it stands then -/
theorem TextAt.collect {a : Nat} {s : List UInt8} (hv : Vd old st) (h : PI old st fin to mv to.length) (ha : a ∈ fin) (ht : TextAt old a s) : TextAt to (plc (Go.Proofs.YtdpnnclkkbfihaaDoor.szAt old) fin a) s := by
  have h2 := plc_lt (sz := Go.Proofs.YtdpnnclkkbfihaaDoor.szAt old) ha
  have hs := szText ht.1
  have hk : old.getD a 0 = s.length * 256 + 3 := getD_of ht.1
  have hlt := h.ltot
  refine ⟨?_, fun j x hj => ?_⟩
  · rw [getD_lt (l := to) (i := plc (Go.Proofs.YtdpnnclkkbfihaaDoor.szAt old) fin a) (by omega), h.head ha, hk]
  · have hjl := (List.getElem?_eq_some_iff.1 hj).1
    rw [encT_len] at hjl
    have h3 := h.old_ a ha (1 + j) (by omega) (fun e => e.2.2 (by rw [hk]; omega))
    rw [show a + (1 + j) = a + 1 + j by omega, getD_of (ht.2 j x hj)] at h3
    rw [show plc (Go.Proofs.YtdpnnclkkbfihaaDoor.szAt old) fin a + (1 + j) = plc (Go.Proofs.YtdpnnclkkbfihaaDoor.szAt old) fin a + 1 + j by omega] at h3
    rw [getD_lt (l := to) (i := plc (Go.Proofs.YtdpnnclkkbfihaaDoor.szAt old) fin a + 1 + j) (by omega), h3]
end

/-! ### an object more -/
theorem szAt_app {old r : List Nat} {a : Nat} (h : a < old.length) : szAt (old ++ r) a = szAt old a := by
  unfold szAt; rw [getD_app_l h]
theorem Tile.app {old r : List Nat} : ∀ {st : List Nat} {at_ : Nat}, Tile old at_ st → r ≠ [] → szAt (old ++ r) old.length = r.length → Tile (old ++ r) at_ (st ++ [old.length])
  | [], at_, h, hr, hs => by
    simp only [Tile] at h
    subst h
    refine ⟨rfl, by rw [hs, List.length_append]; exact Nat.le_refl _, ?_⟩
    simp only [Tile]
    rw [hs, List.length_append]
  | b :: l, at_, h, hr, hs => by
    obtain ⟨rfl, h1, h2⟩ := h
    have h3 := szAt_pos old b
    have e : szAt (old ++ r) b = szAt old b := szAt_app (by omega)
    refine ⟨rfl, by rw [e, List.length_append]; omega, ?_⟩
    rw [e]
    exact Tile.app h2 hr hs
theorem parts_app {old r : List Nat} {a : Nat} (h : a + szAt old a ≤ old.length) : parts (old ++ r) a = parts old a := by
  have h0 := szAt_pos old a
  unfold parts
  rw [getD_app_l (by omega)]
  split
  · rfl
  · rename_i hk
    have e : szAt old a = 1 + old.getD a 0 / 256 := by unfold szAt szO; rw [if_neg hk]
    rw [List.drop_append_of_le_length (by omega), List.take_append_of_le_length (by rw [List.length_drop]; omega)]
theorem Vd.put {old st obj : List Nat} {hd : Nat} (hv : Vd old st) (hs : szO hd = 1 + obj.length) (hw : ∀ y ∈ hd :: obj, y < 18446744073709551616) (hp : hd % 256 ≠ 3 → ∀ x ∈ obj, x % 2 = 1 ∨ x / 2 ∈ st) : Vd (old ++ hd :: obj) (st ++ [old.length]) := by
  have hg : (old ++ hd :: obj).getD old.length 0 = hd := by
    simp
  have hsz : szAt (old ++ hd :: obj) old.length = (hd :: obj).length := by unfold szAt; rw [hg, hs, List.length_cons]; omega
  refine ⟨hv.tile.app (by simp) hsz, fun a ha x hx => ?_, fun y hy => ?_⟩
  · rcases List.mem_append.1 ha with ha | ha
    · rw [parts_app (hv.in ha).2] at hx
      rcases hv.refs a ha x hx with h | h
      · exact .inl h
      · exact .inr (List.mem_append_left _ h)
    · simp at ha
      subst ha
      unfold parts at hx
      rw [hg] at hx
      split at hx
      · cases hx
      · rename_i hk
        have h1 : ((old ++ hd :: obj).drop (old.length + 1)).take (hd / 256) = obj := by
          rw [List.drop_append, List.drop_eq_nil_of_le (by omega), List.nil_append, show old.length + 1 - old.length = 1 by omega, List.drop_one, List.tail_cons]
          have e : szO hd = 1 + hd / 256 := by unfold szO; rw [if_neg hk]
          exact List.take_of_length_le (by omega)
        rw [h1] at hx
        rcases hp hk x hx with h | h
        · exact .inl h
        · exact .inr (List.mem_append_left _ h)
  · rcases List.mem_append.1 hy with hy | hy
    · exact hv.w64 y hy
    · exact hw y hy
theorem Vd.nil : Vd [] [] := ⟨rfl, fun _ h => (by cases h), fun _ h => (by cases h)⟩
theorem encT_lt {s : List UInt8} {y : Nat} (h : y ∈ encT s) : y < 18446744073709551616 := by
  unfold encT at h
  obtain ⟨i, _, rfl⟩ := List.mem_map.1 h
  have h1 := leW_lt ((s.drop (8 * i)).take 8)
  have h2 : ((s.drop (8 * i)).take 8).length ≤ 8 := by simp; omega
  have h3 : 256 ^ ((s.drop (8 * i)).take 8).length ≤ 256 ^ 8 := Nat.pow_le_pow_right (by decide) h2
  have h4 : (256 : Nat) ^ 8 = 18446744073709551616 := by decide
  omega
theorem Vd.putText {old st : List Nat} {s : List UInt8} (hv : Vd old st) (hs : s.length ≤ 1000000) : Vd (old ++ [s.length * 256 + 3] ++ encT s) (st ++ [old.length]) := by
  rw [List.append_assoc, show [s.length * 256 + 3] ++ encT s = (s.length * 256 + 3) :: encT s from rfl]
  refine hv.put ?_ (fun y hy => ?_) (fun h => absurd (by omega) h)
  · unfold szO; rw [if_pos (by omega), encT_len]; omega
  · rcases List.mem_cons.1 hy with rfl | hy
    · omega
    · exact encT_lt hy

/-! ### a row of roots -/
def rowAt (g m : Nat) : List (Nat × Nat) := (List.range m).map fun i => (g, i)
theorem rowAt_get {g m i : Nat} (h : i < m) : (rowAt g m)[i]? = some (g, i) := by
  unfold rowAt; rw [List.getElem?_map, List.getElem?_range h]; rfl
theorem rowAt_mem {g m b o : Nat} (h : (b, o) ∈ rowAt g m) : b = g ∧ o < m := by
  unfold rowAt at h
  obtain ⟨i, hi, e⟩ := List.mem_map.1 h
  injection e with e1 e2
  subst e1 e2
  exact ⟨rfl, List.mem_range.1 hi⟩
theorem rowAt_nodup (g m : Nat) : (rowAt g m).Nodup := by
  unfold rowAt
  rw [List.nodup_iff_pairwise_ne, List.pairwise_map]
  exact List.nodup_range.imp (fun h e => h (by injection e))
theorem rowAt_len (g m : Nat) : (rowAt g m).length = m := by simp [rowAt]
/-- what an owned row of words is: its places -/
theorem Own.roots {w : World} {F : Nat → Prop} {v : Value} {ys : List Nat} (h : Own w F tWord 1 v ys.length (ys.map Wd)) :
    ∃ g A c, v = .slice A ys.length c ∧ (0 < ys.length → A = some ⟨g, 0, none⟩ ∧ F g ∧ g < w.heap.size) ∧ Roots w w (rowAt g ys.length) ys ∧ (∀ e ∈ rowAt g ys.length, ∃ cs, Blk w e.1 cs tWord) ∧
      ∀ (w' : World) (S : Nat → Prop) (zs : List Nat), Upd S w w' → (ys.length = 0 → ∀ k, F k → k < w.heap.size → ¬ S k) → Roots w w' (rowAt g ys.length) zs → Own w' F tWord 1 v ys.length (zs.map Wd) := by
  rcases Nat.eq_zero_or_pos ys.length with h0 | h0
  · obtain ⟨A, c, rfl, _⟩ := h.form
    refine ⟨0, A, c, rfl, fun h => by omega, ⟨by rw [rowAt_len], fun b cs ⟨o, ho⟩ _ => by have := (rowAt_mem ho).2; omega⟩, fun e he => by obtain ⟨b, o⟩ := e; have := (rowAt_mem he).2; omega, fun w' S zs hu hn hz => ?_⟩
    have hzl := hz.len
    rw [rowAt_len] at hzl
    have e1 : zs = [] := List.eq_nil_of_length_eq_zero (by omega)
    have e2 : ys = [] := List.eq_nil_of_length_eq_zero h0
    rw [e1]
    rw [e2] at h hn ⊢
    exact h.upd hu (hn rfl)
  · rcases h.1.2 with ⟨_, h1⟩ | ⟨g, cap, cur, rfl, _, hg, hnc, hcm, hcs, htk⟩
    · omega
    · have hb : Blk w g cur tWord := hg
      rw [Nat.mul_one] at htk hcs
      have hcur : ∀ (i y : Nat), ys[i]? = some y → cur[i]? = some (Wd y) := fun i y hy => by
        have hi := (List.getElem?_eq_some_iff.1 hy).1
        have h4 : (ys.map Wd)[i]? = some (Wd y) := by rw [List.getElem?_map, hy]; rfl
        rw [← htk, List.getElem?_take_of_lt hi, Array.getElem?_toList] at h4
        exact h4
      refine ⟨g, _, cap, rfl, fun _ => ⟨rfl, h.2 g rfl, hb.lt⟩, ⟨by rw [rowAt_len], fun b cs ⟨o, ho⟩ hk => ?_⟩, fun e he => ?_, fun w' S zs hu _ hz => ?_⟩
      · obtain ⟨rfl, ho2⟩ := rowAt_mem ho
        obtain rfl := hk.inj hb
        refine ⟨cs, hb, rfl, fun _ _ => rfl, fun i o2 hi => ?_⟩
        have hil := (List.getElem?_eq_some_iff.1 hi).1
        rw [rowAt_len] at hil
        rw [rowAt_get hil] at hi
        injection hi with hi
        injection hi with _ hi
        subst hi
        exact ⟨ys[i], List.getElem?_eq_getElem hil, hcur i _ (List.getElem?_eq_getElem hil)⟩
      · obtain ⟨b, o⟩ := e
        obtain ⟨rfl, _⟩ := rowAt_mem he
        exact ⟨cur, hb⟩
      · have hzl := hz.len
        rw [rowAt_len] at hzl
        obtain ⟨cs', h1, h2, _, h4⟩ := hz.blk g cur ⟨0, List.mem_of_getElem? (rowAt_get h0)⟩ hb
        have h5 := Own.shut (F := F) (sz := 1) h1 (h.2 g rfl) hnc hcm (by omega)
        have e : cs'.toList.take (ys.length * 1) = zs.map Wd := by
          rw [Nat.mul_one]
          apply List.ext_getElem?
          intro i
          rcases Nat.lt_or_ge i ys.length with hi | hi
          · obtain ⟨y, hy1, hy2⟩ := h4 i i (rowAt_get hi)
            rw [List.getElem?_take_of_lt hi, Array.getElem?_toList, hy2, List.getElem?_map, hy1]
            rfl
          · rw [List.getElem?_eq_none (by rw [List.length_take]; omega), List.getElem?_eq_none (by rw [List.length_map]; omega)]
        rw [e] at h5
        exact h5
end Go.Proofs.YtdpnnclkkbfihaaDoor
