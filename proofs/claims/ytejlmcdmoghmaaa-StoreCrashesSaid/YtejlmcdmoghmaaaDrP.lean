/-
  The drum: what it is in plain Lean, and how it lies in memory.
-/
import Derived.Test.YtejlmcdmoghmaaaFm
import Derived.Test.YtejlmcdmoghmaaaTab
namespace Go.Proofs.Ytejlmcdmoghmaaa
open Go
set_option linter.unusedSimpArgs false
set_option linter.unusedVariables false

structure Trk where
  sure : List UInt8
  now : List UInt8
  fresh : Bool
structure DS where
  l : List Trk
  most : Int
  ops : Int
  armed : Int
  off : Bool

def armB (armed : Int) (off : Bool) : Int × Bool := if 0 < armed then (armed - 1, decide (armed - 1 = 0)) else (armed, off)
def DS.begin (D : DS) : DS := { D with ops := IntKind.i64.wrap (D.ops + 1), armed := (armB D.armed D.off).1, off := (armB D.armed D.off).2 }
def lookN (n : Nat) (off : Bool) (i : Int) : Nat := if i < 0 ∨ (n : Int) ≤ i then 1 else if off = true then 12 else 0
def DS.look (D : DS) (i : Int) : Nat := lookN D.l.length D.off i
def DS.code (D : DS) : Nat := if D.off = true then 12 else 0
def DS.setT (D : DS) (i : Nat) (t : Trk) : DS := { D with l := D.l.set i t }
def DS.track (D : DS) (i : Nat) : Trk := D.l.getD i ⟨[], [], false⟩
def DS.append (D : DS) (i : Int) (q : List UInt8) : DS × Nat :=
  if D.look i ≠ 0 then (D, D.look i) else
  if D.most - (D.track i.toNat).now.length < q.length then (D, 13) else
  (D.begin.setT i.toNat { D.track i.toNat with now := (D.track i.toNat).now ++ q }, D.begin.code)
def DS.write (D : DS) (i : Int) (q : List UInt8) : DS × Nat :=
  if D.look i ≠ 0 then (D, D.look i) else
  if D.most < q.length then (D, 13) else
  (D.begin.setT i.toNat { D.track i.toNat with now := q, fresh := true }, D.begin.code)
def DS.sync (D : DS) (i : Int) : DS × Nat :=
  if D.look i ≠ 0 then (D, D.look i) else
  if D.begin.off = true then (D.begin, 12) else
  (D.begin.setT i.toNat { sure := (D.track i.toNat).now, now := (D.track i.toNat).now, fresh := false }, 0)
def DS.read (D : DS) (i : Int) : List UInt8 × Nat := if D.look i ≠ 0 then ([], D.look i) else ((D.track i.toNat).now, 0)
/-- what is durable behind a fall -/
def fallS (t : Trk) (cut : Int) : List UInt8 :=
  if t.fresh = true ∧ 0 ≤ cut then t.now.take cut.toNat
  else if t.fresh = false ∧ 0 < cut then t.now.take (t.sure.length + (min cut t.now.length).toNat)
  else t.sure
def fallT (t : Trk) (cut : Int) : Trk := { sure := fallS t cut, now := fallS t cut, fresh := false }
def fallL (l : List Trk) (cuts : List Int) : List Trk := l.zipIdx.map fun x => fallT x.1 (cuts.getD x.2 (-1))
def DS.restart (D : DS) (cuts : List Int) : DS := { D with l := fallL D.l cuts, armed := 0, off := false }

/-- what holds of a drum -/
structure DS.WF (D : DS) : Prop where
  most : 0 ≤ D.most ∧ D.most ≤ 1048576
  len : D.l.length ≤ 8
  armed : inK .i64 D.armed
  trk : ∀ t ∈ D.l, (t.sure.length : Int) ≤ D.most ∧ (t.now.length : Int) ≤ D.most

/-- a track as it lies: the slices, the mark, the blocks of the slices -/
structure TrkV where
  sv : Value
  nv : Value
  fr : Bool
  FS : Nat → Prop
  FN : Nat → Prop
def trkC (l : List TrkV) : List Value := l.flatMap fun t => [t.sv, t.nv, .bool t.fr]
theorem trkC_cons (t : TrkV) (l : List TrkV) : trkC (t :: l) = t.sv :: t.nv :: .bool t.fr :: trkC l := rfl
theorem trkC_length : ∀ l : List TrkV, (trkC l).length = l.length * 3
  | [] => rfl
  | t :: l => by rw [trkC_cons, List.length_cons, List.length_cons, List.length_cons, List.length_cons, trkC_length l]; omega
theorem trkC_get : ∀ {l : List TrkV} {i : Nat} {t : TrkV}, l[i]? = some t → (trkC l)[i * 3]? = some t.sv ∧ (trkC l)[i * 3 + 1]? = some t.nv ∧ (trkC l)[i * 3 + 2]? = some (.bool t.fr)
  | [], i, t, h => by simp at h
  | a :: l, 0, t, h => by
    simp only [List.getElem?_cons_zero, Option.some.injEq] at h
    subst h
    exact ⟨rfl, rfl, rfl⟩
  | a :: l, i + 1, t, h => by
    have := trkC_get (l := l) (i := i) (t := t) (by simpa using h)
    rw [trkC_cons, show (i + 1) * 3 = i * 3 + 1 + 1 + 1 by omega]
    simpa using this
theorem trkC_set : ∀ {l : List TrkV} {i : Nat} {t : TrkV}, l[i]? = some t →
    (∀ v, (trkC l).set (i * 3) v = trkC (l.set i { t with sv := v })) ∧ (∀ v, (trkC l).set (i * 3 + 1) v = trkC (l.set i { t with nv := v })) ∧ (∀ b, (trkC l).set (i * 3 + 2) (.bool b) = trkC (l.set i { t with fr := b }))
  | [], i, t, h => by simp at h
  | a :: l, 0, t, h => by
    simp only [List.getElem?_cons_zero, Option.some.injEq] at h
    subst h
    exact ⟨fun _ => rfl, fun _ => rfl, fun _ => rfl⟩
  | a :: l, i + 1, t, h => by
    have := trkC_set (l := l) (i := i) (t := t) (by simpa using h)
    rw [trkC_cons, show (i + 1) * 3 = i * 3 + 1 + 1 + 1 by omega]
    refine ⟨fun v => ?_, fun v => ?_, fun v => ?_⟩
    · rw [List.set_cons_succ, List.set_cons_succ, List.set_cons_succ, this.1 v]; rfl
    · rw [List.set_cons_succ, List.set_cons_succ, List.set_cons_succ, this.2.1 v]; rfl
    · rw [List.set_cons_succ, List.set_cons_succ, List.set_cons_succ, this.2.2 v]; rfl

structure TrkOK (w : World) (t : TrkV) (a : Trk) : Prop where
  sure : Own w t.FS 5 1 t.sv a.sure.length (a.sure.map U8)
  now : Own w t.FN 5 1 t.nv a.now.length (a.now.map U8)
  fr : t.fr = a.fresh
theorem TrkOK.upd {w w' : World} {t : TrkV} {a : Trk} {S : Nat → Prop} (h : TrkOK w t a) (hu : Upd S w w') (hn : ∀ k, t.FS k ∨ t.FN k → k < w.heap.size → ¬ S k) : TrkOK w' t a :=
  ⟨h.sure.upd hu fun k hk => hn k (.inl hk), h.now.upd hu fun k hk => hn k (.inr hk), h.fr⟩

/-- the drum's own block -/
def hdD (g n : Nat) (D : DS) : Array Value := #[.slice (some ⟨g, 0, none⟩) n n, .int .i64 D.most, .int .i64 D.ops, .int .i64 D.armed, .bool D.off]

/-- the drum lies there: p its block, g its row's, l its tracks -/
structure DrumAt (w : World) (F : Nat → Prop) (p g : Nat) (l : List TrkV) (D : DS) : Prop where
  hd : Blk w p (hdD g D.l.length D) 83
  row : Blk w g (trkC l).toArray 86
  len : l.length = D.l.length
  ok : ∀ (i : Nat) t a, l[i]? = some t → D.l[i]? = some a → TrkOK w t a
  apart : ∀ (i j : Nat) t u, l[i]? = some t → l[j]? = some u → i ≠ j → ∀ k, t.FS k ∨ t.FN k → ¬ (u.FS k ∨ u.FN k)
  two : ∀ (i : Nat) t, l[i]? = some t → ∀ k, t.FS k → ¬ t.FN k
  fp : ∀ (i : Nat) t, l[i]? = some t → ∀ k, t.FS k ∨ t.FN k → F k ∧ k ≠ p ∧ k ≠ g ∧ k < w.heap.size
  own : F p ∧ F g
  wf : D.WF
def IsD (w : World) (F : Nat → Prop) (p : Nat) (D : DS) : Prop := ∃ g l, DrumAt w F p g l D

theorem DrumAt.ne {w : World} {F : Nat → Prop} {p g : Nat} {l : List TrkV} {D : DS} (h : DrumAt w F p g l D) : p ≠ g := h.hd.ne h.row (by decide)
theorem DrumAt.mono {w : World} {F F' : Nat → Prop} {p g : Nat} {l : List TrkV} {D : DS} (h : DrumAt w F p g l D) (hF : ∀ k, F k → k < w.heap.size → F' k) : DrumAt w F' p g l D :=
  { h with fp := fun i t ht k hk => by have := h.fp i t ht k hk; exact ⟨hF k this.1 this.2.2.2, this.2⟩, own := ⟨hF p h.own.1 h.hd.lt, hF g h.own.2 h.row.lt⟩ }
theorem DrumAt.upd {w w' : World} {F S : Nat → Prop} {p g : Nat} {l : List TrkV} {D : DS} (h : DrumAt w F p g l D) (hu : Upd S w w') (hn : ∀ k, F k → k < w.heap.size → ¬ S k) : DrumAt w' F p g l D :=
  { h with
    hd := h.hd.upd hu (hn p h.own.1 h.hd.lt)
    row := h.row.upd hu (hn g h.own.2 h.row.lt)
    ok := fun i t a ht ha => (h.ok i t a ht ha).upd hu fun k hk hl => hn k (h.fp i t ht k hk).1 hl
    fp := fun i t ht k hk => by have := h.fp i t ht k hk; exact ⟨this.1, this.2.1, this.2.2.1, Nat.lt_of_lt_of_le this.2.2.2 hu.size⟩ }
theorem IsD.mono {w : World} {F F' : Nat → Prop} {p : Nat} {D : DS} (h : IsD w F p D) (hF : ∀ k, F k → k < w.heap.size → F' k) : IsD w F' p D := by
  obtain ⟨g, l, h⟩ := h
  exact ⟨g, l, h.mono hF⟩
theorem IsD.upd {w w' : World} {F S : Nat → Prop} {p : Nat} {D : DS} (h : IsD w F p D) (hu : Upd S w w') (hn : ∀ k, F k → k < w.heap.size → ¬ S k) : IsD w' F p D := by
  obtain ⟨g, l, h⟩ := h
  exact ⟨g, l, h.upd hu hn⟩
theorem IsD.wf {w : World} {F : Nat → Prop} {p : Nat} {D : DS} (h : IsD w F p D) : D.WF := by
  obtain ⟨g, l, h⟩ := h
  exact h.wf

/-- the blocks of one track, its row and the drum's own -/
def trkS (p g : Nat) (t : TrkV) : Nat → Prop := fun k => k = p ∨ k = g ∨ t.FS k ∨ t.FN k

/-- one track is another one -/
theorem DrumAt.put {w w' : World} {F : Nat → Prop} {p g i : Nat} {l : List TrkV} {D D' : DS} {t t' : TrkV} {a' : Trk} (h : DrumAt w F p g l D) (ht : l[i]? = some t) (hu : Upd (trkS p g t) w w')
    (hhd : Blk w' p (hdD g D.l.length D') 83) (hrow : Blk w' g (trkC (l.set i t')).toArray 86) (hok : TrkOK w' t' a') (hl : D'.l = D.l.set i a') (hwf : D'.WF)
    (hS : ∀ k, t'.FS k ∨ t'.FN k → (t.FS k ∨ t.FN k ∨ w.heap.size ≤ k) ∧ k < w'.heap.size) (h2 : ∀ k, t'.FS k → ¬ t'.FN k) : DrumAt w' (Grow F w w') p g (l.set i t') D' := by
  have hi : i < l.length := (List.getElem?_eq_some_iff.1 ht).1
  have hlp := h.hd.lt
  have hlg := h.row.lt
  have old : ∀ (j : Nat) u, l[j]? = some u → i ≠ j → ∀ k, u.FS k ∨ u.FN k → ¬ (t'.FS k ∨ t'.FN k) := fun j u hj hij k hk hk' => by
    have h1 := hS k hk'
    have h3 := h.fp j u hj k hk
    rcases h1.1 with h4 | h4 | h4
    · exact h.apart i j t u ht hj hij k (.inl h4) hk
    · exact h.apart i j t u ht hj hij k (.inr h4) hk
    · omega
  have get : ∀ (j : Nat) u, (l.set i t')[j]? = some u → (i = j ∧ u = t') ∨ (i ≠ j ∧ l[j]? = some u) := fun j u hj => by
    rw [List.getElem?_set] at hj
    split at hj
    · rename_i e
      injection hj with hj
      exact .inl ⟨e, hj.symm⟩
    · exact .inr ⟨by assumption, hj⟩
  refine ⟨?_, hrow, by rw [List.length_set, hl, List.length_set, h.len], fun j u a hj ha => ?_, fun j j' u u' hj hj' hne k hk hk' => ?_, fun j u hj k hk hk' => ?_, fun j u hj k hk => ?_, ⟨.inl h.own.1, .inl h.own.2⟩, hwf⟩
  · rw [hl, List.length_set]; exact hhd
  · rw [hl] at ha
    rcases get j u hj with ⟨rfl, rfl⟩ | ⟨hij, hj⟩
    · rw [List.getElem?_set_self (by rw [← h.len]; exact hi)] at ha
      injection ha with ha
      subst ha
      exact hok
    · rw [List.getElem?_set_ne hij] at ha
      refine (h.ok j u a hj ha).upd hu fun k hk hl hSk => ?_
      have h3 := h.fp j u hj k hk
      rcases hSk with h4 | h4 | h4
      · exact h3.2.1 h4
      · exact h3.2.2.1 h4
      · exact h.apart i j t u ht hj hij k h4 hk
  · rcases get j u hj with ⟨e0, e1⟩ | ⟨hij, hn⟩ <;> rcases get j' u' hj' with ⟨e, e2⟩ | ⟨hij', hn'⟩
    · exact hne (e0.symm.trans e)
    · exact old j' u' hn' hij' k hk' (e1 ▸ hk)
    · exact old j u hn hij k hk (e2 ▸ hk')
    · exact h.apart j j' u u' hn hn' hne k hk hk'
  · rcases get j u hj with ⟨rfl, rfl⟩ | ⟨hij, hj⟩
    · exact h2 k hk hk'
    · exact h.two j u hj k hk hk'
  · rcases get j u hj with ⟨rfl, rfl⟩ | ⟨hij, hj⟩
    · have h1 := hS k hk
      rcases h1.1 with h4 | h4 | h4
      · have h5 := h.fp i t ht k (.inl h4); exact ⟨.inl h5.1, h5.2.1, h5.2.2.1, h1.2⟩
      · have h5 := h.fp i t ht k (.inr h4); exact ⟨.inl h5.1, h5.2.1, h5.2.2.1, h1.2⟩
      · exact ⟨.inr ⟨h4, h1.2⟩, by omega, by omega, h1.2⟩
    · have h5 := h.fp j u hj k hk
      exact ⟨.inl h5.1, h5.2.1, h5.2.2.1, Nat.lt_of_lt_of_le h5.2.2.2 hu.size⟩
/-- only the drum's own block changes -/
theorem DrumAt.head {w w' : World} {F : Nat → Prop} {p g : Nat} {l : List TrkV} {D D' : DS} (h : DrumAt w F p g l D) (hu : Upd (At p) w w') (hhd : Blk w' p (hdD g D.l.length D') 83) (hl : D'.l = D.l) (hwf : D'.WF) : DrumAt w' F p g l D' :=
  { hd := by rw [hl]; exact hhd
    row := h.row.upd hu (fun e => h.ne e.symm)
    len := by rw [hl]; exact h.len
    ok := fun i t a ht ha => (h.ok i t a ht (by rw [← hl]; exact ha)).upd hu fun k hk hl e => (h.fp i t ht k hk).2.1 e
    apart := h.apart
    two := h.two
    fp := fun i t ht k hk => by have := h.fp i t ht k hk; exact ⟨this.1, this.2.1, this.2.2.1, Nat.lt_of_lt_of_le this.2.2.2 hu.size⟩
    own := h.own
    wf := hwf }

theorem DS.WF.begin {D : DS} (h : D.WF) : D.begin.WF := ⟨h.most, h.len, by
  have := h.armed
  simp only [DS.begin, armB, inK] at this ⊢
  split <;> simp only <;> omega, h.trk⟩
theorem DS.WF.setT {D : DS} (h : D.WF) {i : Nat} {t : Trk} (hs : (t.sure.length : Int) ≤ D.most) (hn : (t.now.length : Int) ≤ D.most) : (D.setT i t).WF := ⟨h.most, by simp only [DS.setT, List.length_set]; exact h.len, h.armed, fun u hu => by
  rcases List.mem_or_eq_of_mem_set hu with hu | rfl
  · exact h.trk u hu
  · exact ⟨hs, hn⟩⟩
theorem DS.track_get {D : DS} {i : Nat} (h : i < D.l.length) : D.l[i]? = some (D.track i) := by
  simp [DS.track, List.getElem?_eq_getElem h]
theorem DS.track_mem {D : DS} {i : Nat} (h : i < D.l.length) : D.track i ∈ D.l := List.mem_of_getElem? (DS.track_get h)
theorem fallS_len (t : Trk) (cut : Int) : (fallS t cut).length ≤ max t.sure.length t.now.length := by
  unfold fallS
  split
  · rw [List.length_take]; omega
  · split
    · rw [List.length_take]; omega
    · omega
end Go.Proofs.Ytejlmcdmoghmaaa
