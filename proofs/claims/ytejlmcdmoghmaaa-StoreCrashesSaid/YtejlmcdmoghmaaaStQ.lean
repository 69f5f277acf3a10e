/-
  The store over a drum: what stands behind any fall. No program in sight.
-/
import Derived.Test.YtejlmcdmoghmaaaStP
namespace Go.Proofs.Ytejlmcdmoghmaaa
open Go
set_option linter.unusedSimpArgs false
set_option linter.unusedVariables false

theorem armB_nn {a : Int} {f : Bool} (h : 0 ≤ a) : 0 ≤ (armB a f).1 ∧ (a = 0 → armB a f = (a, f)) := by
  unfold armB
  split
  · exact ⟨by simp only; omega, fun h0 => by omega⟩
  · exact ⟨h, fun _ => rfl⟩
theorem look_of {D : DS} {i : Nat} (hi : i < D.l.length) (h : D.off = false) : D.look (i : Int) = 0 := by
  unfold DS.look lookN
  rw [if_neg (by omega), h, if_neg (by simp)]

/-- while one track is written: D0 the drum at first, e what was answered -/
structure Wr (D0 : DS) (i : Nat) (B p : List UInt8) (D : DS) (e : Nat) : Prop where
  len : D.l.length = D0.l.length
  most : D.most = D0.most
  other : ∀ j, j ≠ i → D.l[j]? = D0.l[j]?
  armed : 0 ≤ D.armed
  calm : D0.armed = 0 → D.armed = 0 ∧ e = 0
  now : ∃ k, k ≤ p.length ∧ D.l[i]? = some ⟨B, p.take k, true⟩
  code : (e = 0 ∧ D.off = false) ∨ (e = 12 ∧ D.off = true)

theorem track_eq {D : DS} {i : Nat} {t : Trk} (h : D.l[i]? = some t) : D.track i = t := by simp [DS.track, h]
theorem begin_calm {D : DS} (h : 0 ≤ D.armed) (h0 : D.off = false) : 0 ≤ D.begin.armed ∧ (D.armed = 0 → D.begin.armed = 0 ∧ D.begin.off = false) := by
  have := armB_nn (f := D.off) h
  refine ⟨this.1, fun hz => ?_⟩
  simp only [DS.begin]
  rw [this.2 hz]
  exact ⟨hz, h0⟩
theorem code_cases (D : DS) : (D.code = 0 ∧ D.off = false) ∨ (D.code = 12 ∧ D.off = true) := by
  unfold DS.code
  cases D.off <;> simp

theorem wr_start {D0 : DS} {i : Nat} {t : Trk} {p : List UInt8} (hi : D0.l[i]? = some t) (hoff : D0.off = false) (harm : 0 ≤ D0.armed) (hm : 0 ≤ D0.most) : Wr D0 i t.sure p (D0.write i []).1 (D0.write i []).2 := by
  have hlt : i < D0.l.length := (List.getElem?_eq_some_iff.1 hi).1
  have hw : D0.write (i : Int) [] = (D0.begin.setT i ⟨t.sure, [], true⟩, D0.begin.code) := by
    unfold DS.write
    rw [look_of hlt hoff, if_neg (by simp), if_neg (by simp; omega)]
    simp [track_eq hi]
  have hb := begin_calm harm hoff
  rw [hw]
  refine ⟨by simp [DS.setT, DS.begin], rfl, fun j hj => ?_, hb.1, fun h0 => ⟨(hb.2 h0).1, ?_⟩, ⟨0, by omega, ?_⟩, code_cases D0.begin⟩
  · simp only [DS.setT, DS.begin]
    rw [List.getElem?_set_ne (Ne.symm hj)]
  · unfold DS.code
    rw [(hb.2 h0).2]
    rfl
  · simp only [DS.setT, DS.begin]
    rw [List.getElem?_set_self hlt]
    simp

theorem wr_append {D0 D : DS} {i k : Nat} {B p : List UInt8} (h : Wr D0 i B p D 0) (hp : (p.length : Int) ≤ D0.most) (hk : k ≤ p.length) (hn : D.l[i]? = some ⟨B, p.take k, true⟩) :
    Wr D0 i B p (D.append i ((p.drop k).take 500)).1 (D.append i ((p.drop k).take 500)).2 ∧ ∃ m, m = k + min 500 (p.length - k) ∧ (D.append i ((p.drop k).take 500)).1.l[i]? = some ⟨B, p.take m, true⟩ := by
  have hlt : i < D.l.length := (List.getElem?_eq_some_iff.1 hn).1
  have hoff : D.off = false := by
    rcases h.code with hc | hc
    · exact hc.2
    · omega
  have hl : ((p.drop k).take 500).length = min 500 (p.length - k) := by rw [List.length_take, List.length_drop]
  have hj : p.take k ++ (p.drop k).take 500 = p.take (k + min 500 (p.length - k)) := by
    rw [List.take_add]
    congr 1
    exact take_same (by rw [List.length_drop]; omega)
  have ha : D.append (i : Int) ((p.drop k).take 500) = (D.begin.setT i ⟨B, p.take (k + min 500 (p.length - k)), true⟩, D.begin.code) := by
    unfold DS.append
    rw [look_of hlt hoff, if_neg (by simp)]
    simp only [Int.toNat_natCast, track_eq hn, List.length_take]
    rw [if_neg (by rw [h.most, List.length_drop]; omega), hj]
  have hb := begin_calm h.armed hoff
  rw [ha]
  have hset : (D.begin.setT i ⟨B, p.take (k + min 500 (p.length - k)), true⟩).l[i]? = some ⟨B, p.take (k + min 500 (p.length - k)), true⟩ := by
    simp only [DS.setT, DS.begin]
    rw [List.getElem?_set_self hlt]
  refine ⟨⟨by simp [DS.setT, DS.begin, h.len], h.most, fun j hj => ?_, hb.1, fun h0 => ?_, ⟨_, by omega, hset⟩, code_cases D.begin⟩, _, rfl, hset⟩
  · simp only [DS.setT, DS.begin]
    rw [List.getElem?_set_ne (Ne.symm hj)]
    exact h.other j hj
  · have h1 := hb.2 (h.calm h0).1
    refine ⟨h1.1, ?_⟩
    unfold DS.code
    rw [h1.2]
    rfl

theorem wr_all {D0 : DS} {i : Nat} {B p : List UInt8} (hp : (p.length : Int) ≤ D0.most) : ∀ (f k : Nat) (D : DS) (e : Nat), Wr D0 i B p D e → k ≤ p.length → p.length - k ≤ f → (e = 0 → D.l[i]? = some ⟨B, p.take k, true⟩) →
    Wr D0 i B p (putAll f D i (p.drop k) e).1 (putAll f D i (p.drop k) e).2 ∧ ((putAll f D i (p.drop k) e).2 = 0 → (putAll f D i (p.drop k) e).1.l[i]? = some ⟨B, p, true⟩)
  | f, k, D, e, h, hk, hf, hn => by
    by_cases hd : p.drop k = [] ∨ e ≠ 0
    · rw [putAll_done hd]
      refine ⟨h, fun h0 => ?_⟩
      simp only at h0
      have hkl : p.length ≤ k := by
        rcases hd with hd | hd
        · have := congrArg List.length hd
          rw [List.length_drop, List.length_nil] at this
          omega
        · exact absurd h0 hd
      have := hn h0
      rwa [List.take_of_length_le hkl] at this
    · have hp0 : p.drop k ≠ [] := fun h => hd (.inl h)
      have he : e = 0 := Decidable.of_not_not fun h => hd (.inr h)
      subst he
      have hlt : k < p.length := by
        rcases Nat.lt_or_ge k p.length with h1 | h1
        · exact h1
        · exact absurd (List.drop_of_length_le h1) hp0
      cases f with
      | zero => omega
      | succ f =>
        rw [putAll_step hp0 rfl]
        obtain ⟨h1, m, hm, h2⟩ := wr_append h hp hk (hn rfl)
        have e1 : (p.drop k).drop 500 = p.drop m := by
          rw [List.drop_drop]
          by_cases h5 : k + 500 ≤ p.length
          · rw [hm]; congr 1; omega
          · rw [List.drop_of_length_le (by omega), List.drop_of_length_le (by omega)]
        rw [e1]
        exact wr_all hp f m _ _ h1 (by omega) (by omega) (fun _ => h2)

/-- a track saved: whole and durable, or cut -/
theorem save_two {D0 : DS} {i : Nat} {t : Trk} {p : List UInt8} (hi : D0.l[i]? = some t) (hoff : D0.off = false) (harm : 0 ≤ D0.armed) (hp : (p.length : Int) ≤ D0.most) :
    ((saveD D0 i p).1.l.length = D0.l.length ∧ (saveD D0 i p).1.most = D0.most ∧ (∀ j, j ≠ i → (saveD D0 i p).1.l[j]? = D0.l[j]?) ∧ 0 ≤ (saveD D0 i p).1.armed ∧ (D0.armed = 0 → (saveD D0 i p).1.armed = 0 ∧ (saveD D0 i p).2 = 0)) ∧
    (((saveD D0 i p).2 = 0 ∧ (saveD D0 i p).1.off = false ∧ (saveD D0 i p).1.l[i]? = some ⟨p, p, false⟩) ∨ ((saveD D0 i p).2 = 12 ∧ ∃ k, (saveD D0 i p).1.l[i]? = some ⟨t.sure, p.take k, true⟩)) := by
  have h0 := wr_start (p := p) hi hoff harm (by omega)
  obtain ⟨k0, hk0, hn0⟩ := h0.now
  have hlt : i < D0.l.length := (List.getElem?_eq_some_iff.1 hi).1
  have hn00 : (D0.write i []).1.l[i]? = some ⟨t.sure, p.take 0, true⟩ := by
    have hw : D0.write (i : Int) [] = (D0.begin.setT i ⟨t.sure, [], true⟩, D0.begin.code) := by
      unfold DS.write
      rw [look_of hlt hoff, if_neg (by simp), if_neg (by simp; omega)]
      simp [track_eq hi]
    rw [hw]
    simp only [DS.setT, DS.begin]
    rw [List.getElem?_set_self hlt]
    simp
  obtain ⟨h1, h2⟩ := wr_all hp p.length 0 _ _ h0 (by omega) (by omega) (fun _ => hn00)
  rw [List.drop_zero] at h1 h2
  unfold saveD
  generalize putAll p.length (D0.write i []).1 i p (D0.write i []).2 = r at h1 h2
  obtain ⟨D, e⟩ := r
  simp only at h1 h2
  by_cases he : e = 0
  · subst he
    simp only [if_true]
    have hn := h2 rfl
    have hoff' : D.off = false := by
      rcases h1.code with hc | hc
      · exact hc.2
      · omega
    have hlt' : i < D.l.length := by rw [h1.len]; exact hlt
    have hb := begin_calm h1.armed hoff'
    have hl := look_of hlt' hoff'
    by_cases ho : D.begin.off = true
    · have hs : D.sync (i : Int) = (D.begin, 12) := by unfold DS.sync; rw [hl, if_neg (by simp), if_pos ho]
      rw [hs]
      refine ⟨⟨h1.len, h1.most, h1.other, hb.1, fun h0 => ?_⟩, .inr ⟨rfl, p.length, by rw [List.take_length]; exact hn⟩⟩
      have := (hb.2 (h1.calm h0).1).2
      rw [this] at ho
      cases ho
    · have hs : D.sync (i : Int) = (D.begin.setT i ⟨p, p, false⟩, 0) := by unfold DS.sync; rw [hl, if_neg (by simp), if_neg ho]; simp [track_eq hn]
      rw [hs]
      refine ⟨⟨by simp [DS.setT, DS.begin, h1.len], h1.most, fun j hj => ?_, hb.1, fun h0 => ⟨(hb.2 (h1.calm h0).1).1, rfl⟩⟩, .inl ⟨rfl, by simpa [DS.setT] using ho, ?_⟩⟩
      · simp only [DS.setT, DS.begin]
        rw [List.getElem?_set_ne (Ne.symm hj)]
        exact h1.other j hj
      · simp only [DS.setT, DS.begin]
        rw [List.getElem?_set_self hlt']
  · rw [if_neg he]
    obtain ⟨k, _, hk⟩ := h1.now
    refine ⟨⟨h1.len, h1.most, h1.other, h1.armed, fun h0 => ⟨(h1.calm h0).1, (h1.calm h0).2⟩⟩, .inr ⟨?_, k, hk⟩⟩
    rcases h1.code with hc | hc
    · omega
    · exact hc.1

/-! what stands -/
def Old (T : SS) (p : List UInt8) : Prop := ∀ y, unlayB p = some y → y.idx < T.s.idx
/-- the track that counts, and the other one, both durable; x: what may stand there whole or in part -/
structure Half (M : Int) (D : DS) (T : SS) (x : Sn) : Prop where
  len : D.l.length = 3
  most : D.most = M
  armed : 0 ≤ D.armed
  side : T.side < 2
  cur : ∃ A, D.l[1 + T.side]? = some ⟨A, A, false⟩ ∧ ((T = ss0 ∧ unlayB A = none) ∨ (0 < T.s.idx ∧ T.s.ok ∧ A = layB T.s))
  oth : ∃ B, D.l[2 - T.side]? = some ⟨B, B, false⟩ ∧ (Old T B ∨ ((T.s.idx < x.idx ∧ x.ok) ∧ ∃ k, B = (layB x).take k))
structure Quiet (M : Int) (D : DS) (T : SS) : Prop where
  len : D.l.length = 3
  most : D.most = M
  armed : 0 ≤ D.armed
  off : D.off = false
  side : T.side < 2
  cur : ∃ A, D.l[1 + T.side]? = some ⟨A, A, false⟩ ∧ ((T = ss0 ∧ unlayB A = none) ∨ (0 < T.s.idx ∧ T.s.ok ∧ A = layB T.s))
  oth : ∃ B, D.l[2 - T.side]? = some ⟨B, B, false⟩ ∧ Old T B
/-- a saving was cut -/
structure Cut (M : Int) (D : DS) (T : SS) (x : Sn) : Prop where
  len : D.l.length = 3
  most : D.most = M
  side : T.side < 2
  cur : ∃ A, D.l[1 + T.side]? = some ⟨A, A, false⟩ ∧ ((T = ss0 ∧ unlayB A = none) ∨ (0 < T.s.idx ∧ T.s.ok ∧ A = layB T.s))
  oth : ∃ B k f, D.l[2 - T.side]? = some ⟨B, (layB x).take k, f⟩ ∧ Old T B ∧ f = true
  new : T.s.idx < x.idx ∧ x.ok
theorem Quiet.half {M : Int} {D : DS} {T : SS} (h : Quiet M D T) (x : Sn) : Half M D T x := by
  obtain ⟨B, h1, h2⟩ := h.oth
  exact ⟨h.len, h.most, h.armed, h.side, h.cur, B, h1, .inl h2⟩
theorem Quiet.new {M : Int} : Quiet M (DS.new 3 M) ss0 :=
  ⟨rfl, rfl, by simp [DS.new], rfl, by simp [ss0], ⟨[], rfl, .inl ⟨rfl, unlay_nil⟩⟩, ⟨[], rfl, fun y hy => by rw [unlay_nil] at hy; cases hy⟩⟩
theorem Quiet.sok {M : Int} {D : DS} {T : SS} (h : Quiet M D T) : T.s.ok := by
  obtain ⟨A, _, h1 | h1⟩ := h.cur
  · rw [h1.1]; exact ⟨by decide, by decide, by simp [ss0, sn0]⟩
  · exact h1.2.1

theorem save_quiet {M : Int} {D : DS} {T : SS} {x : Sn} (h : Quiet M D T) (hx : x.ok) (hi : T.s.idx < x.idx) (hM : ((layB x).length : Int) ≤ M) :
    (SS.save D 1 T x).1.most = M ∧ (D.armed = 0 → (SS.save D 1 T x).1.armed = 0 ∧ (SS.save D 1 T x).2.2 = 0) ∧
    (((SS.save D 1 T x).2.2 = 0 ∧ (SS.save D 1 T x).2.1.s = x ∧ Quiet M (SS.save D 1 T x).1 (SS.save D 1 T x).2.1) ∨
     ((SS.save D 1 T x).2.2 = 12 ∧ (SS.save D 1 T x).2.1 = T ∧ Cut M (SS.save D 1 T x).1 T x)) := by
  obtain ⟨A, hA, hA2⟩ := h.cur
  obtain ⟨B, hB, hB2⟩ := h.oth
  have hs := h.side
  have ei : (1 : Int) + 1 - (T.side : Int) = ((2 - T.side : Nat) : Int) := by omega
  have hp : ((layB x).length : Int) ≤ D.most := by rw [h.most]; exact hM
  obtain ⟨⟨c1, c2, c3, c4, c5⟩, c6⟩ := save_two (p := layB x) hB h.off h.armed hp
  unfold SS.save
  rw [if_neg (by omega), if_neg (by omega), ei]
  generalize saveD D ((2 - T.side : Nat) : Int) (layB x) = r at c1 c2 c3 c4 c5 c6
  obtain ⟨D', e⟩ := r
  simp only at c1 c2 c3 c4 c5 c6
  rcases c6 with ⟨he, ho, hn⟩ | ⟨he, k, hn⟩
  · subst he
    simp only [if_true]
    refine ⟨c2.trans h.most, fun h0 => ⟨(c5 h0).1, trivial⟩, .inl ⟨trivial, trivial, c1.trans h.len, c2.trans h.most, c4, ho, by simp only; omega, ⟨layB x, ?_, .inr ⟨by simp only; omega, hx, rfl⟩⟩, ⟨A, ?_, fun y hy => ?_⟩⟩⟩
    · simp only
      rw [show 1 + (1 - T.side) = 2 - T.side by omega]
      exact hn
    · simp only
      rw [show 2 - (1 - T.side) = 1 + T.side by omega, c3 _ (by omega)]
      exact hA
    · simp only
      rcases hA2 with ⟨_, h1⟩ | ⟨_, h1, h2⟩
      · rw [h1] at hy; cases hy
      · rw [h2, unlay_lay h1] at hy
        injection hy with hy
        rw [← hy]
        exact hi
  · subst he
    simp only [show ¬ (12 = 0) by decide, if_false]
    refine ⟨c2.trans h.most, fun h0 => ?_, .inr ⟨by simp, by simp, c1.trans h.len, c2.trans h.most, hs, ⟨A, by rw [c3 _ (by omega)]; exact hA, hA2⟩, ⟨B, k, true, hn, hB2, rfl⟩, ⟨hi, hx⟩⟩⟩
    have := (c5 h0).2
    omega
theorem fall_same {A : List UInt8} (c : Int) : fallT ⟨A, A, false⟩ c = ⟨A, A, false⟩ := by
  have h : fallS ⟨A, A, false⟩ c = A := by
    unfold fallS
    rw [if_neg (by simp)]
    split
    · exact List.take_of_length_le (by simp only; omega)
    · rfl
  unfold fallT
  rw [h]
theorem fallL_get {l : List Trk} {cuts : List Int} {j : Nat} {t : Trk} (h : l[j]? = some t) : (fallL l cuts)[j]? = some (fallT t (cuts.getD j (-1))) := by
  simp [fallL, List.getElem?_zipIdx, h]
theorem fallL_len (l : List Trk) (cuts : List Int) : (fallL l cuts).length = l.length := by simp [fallL]
theorem Half.restart {M : Int} {D : DS} {T : SS} {x : Sn} (h : Half M D T x) (cuts : List Int) : Half M (D.restart cuts) T x := by
  obtain ⟨A, hA, hA2⟩ := h.cur
  obtain ⟨B, hB, hB2⟩ := h.oth
  exact ⟨(fallL_len _ _).trans h.len, h.most, Int.le_refl _, h.side, ⟨A, by have := fallL_get (cuts := cuts) hA; rw [fall_same] at this; exact this, hA2⟩, ⟨B, by have := fallL_get (cuts := cuts) hB; rw [fall_same] at this; exact this, hB2⟩⟩
theorem Quiet.restart {M : Int} {D : DS} {T : SS} (h : Quiet M D T) (cuts : List Int) : Quiet M (D.restart cuts) T := by
  obtain ⟨A, hA, hA2⟩ := h.cur
  obtain ⟨B, hB, hB2⟩ := h.oth
  exact ⟨(fallL_len _ _).trans h.len, h.most, Int.le_refl _, rfl, h.side, ⟨A, by have := fallL_get (cuts := cuts) hA; rw [fall_same] at this; exact this, hA2⟩, ⟨B, by have := fallL_get (cuts := cuts) hB; rw [fall_same] at this; exact this, hB2⟩⟩
theorem Cut.restart {M : Int} {D : DS} {T : SS} {x : Sn} (h : Cut M D T x) (cuts : List Int) : Half M (D.restart cuts) T x := by
  obtain ⟨A, hA, hA2⟩ := h.cur
  obtain ⟨B, k, f, hB, hB2, rfl⟩ := h.oth
  refine ⟨(fallL_len _ _).trans h.len, h.most, Int.le_refl _, h.side, ⟨A, by have := fallL_get (cuts := cuts) hA; rw [fall_same] at this; exact this, hA2⟩, ?_⟩
  have h1 := fallL_get (cuts := cuts) hB
  refine ⟨fallS ⟨B, (layB x).take k, true⟩ (cuts.getD (2 - T.side) (-1)), h1, ?_⟩
  unfold fallS
  split
  · exact .inr ⟨h.new, min (cuts.getD (2 - T.side) (-1)).toNat k, by rw [List.take_take]⟩
  · rw [if_neg (by simp)]
    exact .inl hB2

/-- what opening comes to -/
theorem pick_half {M : Int} {D : DS} {T : SS} {x : Sn} (h : Half M D T x) {p0 p1 : List UInt8} (h0 : D.l[1]? = some ⟨p0, p0, false⟩) (h1 : D.l[2]? = some ⟨p1, p1, false⟩) :
    (pick2 p0 p1 = T ∧ Quiet M { D with off := false } T) ∨ (pick2 p0 p1 = ⟨1 - T.side, x⟩ ∧ Quiet M { D with off := false } ⟨1 - T.side, x⟩ ∧ T.s.idx < x.idx) := by
  obtain ⟨A, hA, hA2⟩ := h.cur
  obtain ⟨B, hB, hB2⟩ := h.oth
  have hs := h.side
  have hcase : (Old T B) ∨ (B = layB x ∧ T.s.idx < x.idx ∧ x.ok) := by
    rcases hB2 with h2 | ⟨⟨hi, hx⟩, k, rfl⟩
    · exact .inl h2
    · rcases Nat.lt_or_ge k (layB x).length with hk | hk
      · exact .inl fun y hy => by rw [unlay_prefix hx hk] at hy; cases hy
      · exact .inr ⟨List.take_of_length_le hk, hi, hx⟩
  have hq : Old T B → Quiet M { D with off := false } T := fun ho => ⟨h.len, h.most, h.armed, rfl, h.side, ⟨A, hA, hA2⟩, ⟨B, hB, ho⟩⟩
  have hq2 : T.s.idx < x.idx → x.ok → B = layB x → Quiet M { D with off := false } ⟨1 - T.side, x⟩ := fun hi hx ho => by
    refine ⟨h.len, h.most, h.armed, rfl, by simp only; omega, ⟨layB x, ?_, .inr ⟨by simp only; omega, hx, rfl⟩⟩, ⟨A, ?_, fun y hy => ?_⟩⟩
    · simp only
      rw [show 1 + (1 - T.side) = 2 - T.side by omega, hB, ho]
    · simp only
      rw [show 2 - (1 - T.side) = 1 + T.side by omega]
      exact hA
    · simp only
      rcases hA2 with ⟨_, h1⟩ | ⟨_, h1, h2⟩
      · rw [h1] at hy; cases hy
      · rw [h2, unlay_lay h1] at hy
        injection hy with hy
        rw [← hy]
        exact hi
  have hT : (T = ss0 ∧ unlayB A = none) ∨ (0 < T.s.idx ∧ unlayB A = some T.s) := by
    rcases hA2 with h1 | ⟨h1, h2, h3⟩
    · exact .inl h1
    · exact .inr ⟨h1, by rw [h3]; exact unlay_lay h2⟩
  obtain ⟨sd, s⟩ := T
  simp only at hs hA hB hT hq hq2 hcase ⊢
  have hOB : Old ⟨sd, s⟩ B → unlayB B = none ∨ ∃ y, unlayB B = some y ∧ y.idx < s.idx := fun ho => by
    cases hb : unlayB B with
    | none => exact .inl rfl
    | some y => exact .inr ⟨y, rfl, ho y hb⟩
  match sd, hs with
  | 0, _ =>
    rw [h0] at hA
    rw [h1] at hB
    injection hA with hA
    injection hB with hB
    injection hA with hA
    injection hB with hB
    subst hA hB
    rcases hcase with ho | ⟨ho, hi, hx⟩
    · left
      refine ⟨?_, hq ho⟩
      unfold pick2 pick
      rcases hT with ⟨e1, e2⟩ | ⟨e1, e2⟩
      · injection e1 with _ e1
        subst e1
        rw [e2]
        rcases hOB ho with e3 | ⟨y, e3, e4⟩
        · rw [e3]; rfl
        · simp [sn0] at e4
      · rw [e2]
        simp only [show ss0.s.idx < s.idx from e1, if_true]
        rcases hOB ho with e3 | ⟨y, e3, e4⟩
        · rw [e3]
        · rw [e3]
          simp only
          rw [if_neg (by omega)]
    · right
      refine ⟨?_, hq2 hi hx ho, hi⟩
      unfold pick2 pick
      rw [ho, unlay_lay hx]
      rcases hT with ⟨e1, e2⟩ | ⟨e1, e2⟩
      · injection e1 with _ e1
        subst e1
        rw [e2]
        simp only
        rw [if_pos (by exact hi)]
      · rw [e2]
        simp only [show ss0.s.idx < s.idx from e1, if_true]
        rw [if_pos hi]
  | 1, _ =>
    rw [h1] at hA
    rw [h0] at hB
    injection hA with hA
    injection hB with hB
    injection hA with hA
    injection hB with hB
    subst hA hB
    have e1 : 0 < s.idx ∧ unlayB p1 = some s := by
      rcases hT with ⟨e1, _⟩ | e1
      · injection e1 with e1 _
        omega
      · exact e1
    rcases hcase with ho | ⟨ho, hi, hx⟩
    · left
      refine ⟨?_, hq ho⟩
      unfold pick2 pick
      rw [e1.2]
      rcases hOB ho with e3 | ⟨y, e3, e4⟩
      · rw [e3]
        simp only [show ss0.s.idx < s.idx from e1.1, if_true]
      · rw [e3]
        simp only
        by_cases h5 : ss0.s.idx < y.idx
        · rw [if_pos h5, if_pos e4]
        · rw [if_neg h5, if_pos (show ss0.s.idx < s.idx from e1.1)]
    · right
      refine ⟨?_, hq2 hi hx ho, hi⟩
      unfold pick2 pick
      rw [ho, unlay_lay hx, e1.2]
      simp only [show ss0.s.idx < x.idx from Nat.lt_of_le_of_lt (Nat.zero_le _) hi, if_true]
      rw [if_neg (by omega)]

theorem half_tracks {M : Int} {D : DS} {T : SS} {x : Sn} (h : Half M D T x) : ∃ p0 p1, D.l[1]? = some ⟨p0, p0, false⟩ ∧ D.l[2]? = some ⟨p1, p1, false⟩ := by
  obtain ⟨A, hA, _⟩ := h.cur
  obtain ⟨B, hB, _⟩ := h.oth
  have hs := h.side
  rcases Nat.lt_or_ge T.side 1 with h1 | h1
  · rw [show 1 + T.side = 1 by omega] at hA
    rw [show 2 - T.side = 2 by omega] at hB
    exact ⟨A, B, hA, hB⟩
  · rw [show 1 + T.side = 2 by omega] at hA
    rw [show 2 - T.side = 1 by omega] at hB
    exact ⟨B, A, hB, hA⟩
end Go.Proofs.Ytejlmcdmoghmaaa
