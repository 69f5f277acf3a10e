/-
  Pairs of types that are handed in; canon keeps the size; rows of pairs, flat.
-/
import Derived.Test.YtncakfcafkfmfaaTyO
import Derived.Test.YtncakfcafkfmfaaTyV
namespace Go.Proofs.Ytncakfcafkfmfaa
open Go Go.ChangeShapes Go.WideShapes Go.ChangeAt Go.RowKit Go.Deep
set_option linter.unusedSimpArgs false
set_option linter.unusedVariables false

def c6 (p : C3 × C3) : List Value := c3 p.1 ++ c3 p.2
theorem c6_len (p : C3 × C3) : (c6 p).length = 6 := rfl
/-- pairs in a row, as they may come in -/
def PRs (w : World) (F : Nat → Prop) (xs : List (C3 × C3)) (ts : List (Tr × Tr)) : Prop := xs.length = ts.length ∧ ∀ (i : Nat) c t, xs[i]? = some c → ts[i]? = some t → TR w F c.1 t.1 ∧ TR w F c.2 t.2
theorem PRs.upd {w w' : World} {F S : Nat → Prop} {xs : List (C3 × C3)} {ts : List (Tr × Tr)} (h : PRs w F xs ts) (hu : Upd S w w') (hn : ∀ k, F k → k < w.heap.size → ¬ S k) : PRs w' F xs ts := ⟨h.1, fun i c t h1 h2 => ⟨(h.2 i c t h1 h2).1.upd hu hn, (h.2 i c t h1 h2).2.upd hu hn⟩⟩
theorem PRs.updA {w w' : World} {F S : Nat → Prop} {xs : List (C3 × C3)} {ts : List (Tr × Tr)} (h : PRs w F xs ts) (hu : Upd S w w') (hn : ∀ k, F k → k < w.heap.size → ¬ S k := by first | exact (fun _ _ _ h => h) | with_reducible assumption | (intro k hk hl hS; simp only [At] at hS; subst hS; contradiction) | (intro k hk hl hS; (try simp only [At, From, No, Grow, New] at hk hS); omega)) : PRs w' F xs ts := h.upd hu hn
theorem PRs.tv {w : World} {F : Nat → Prop} {xs : List (C3 × C3)} {ts : List (Tr × Tr)} (h : PRs w F xs ts) {i : Nat} (hi : i < ts.length) : ∃ (p : C3 × C3), xs[i]? = some p ∧ TR w F p.1 ts[i].1 ∧ TR w F p.2 ts[i].2 := by
  have hl : i < xs.length := by have := h.1; omega
  have hx : xs[i]? = some xs[i] := List.getElem?_eq_getElem hl
  exact ⟨_, hx, h.2 i _ _ hx (List.getElem?_eq_getElem hi)⟩
theorem pair_cells {w : World} {F : Nat → Prop} {b off n c q i : Nat} {xs : List (C3 × C3)} {x : C3 × C3} (hr : Rd w F (.slice (some ⟨b, off, none⟩) n c) n 6 (xs.flatMap c6)) (hx : xs[i]? = some x) (hq : q = off + i * 6) : CellsAt w ⟨b, q, none⟩ [x.1.1, x.1.2.1, x.1.2.2] := by
  subst hq
  exact Rd.cellsL (i := i * 6) hr rfl fun j v hj => by
    have hj3 : j < 3 := by
      rcases Nat.lt_or_ge j 3 with h | h
      · exact h
      · rw [List.getElem?_eq_none (by simpa using h)] at hj; cases hj
    refine flatMap_get c6_len hx j v ?_
    unfold c6
    rw [List.getElem?_append_left (by simpa [c3] using hj3)]
    exact hj
theorem pair_cells2 {w : World} {F : Nat → Prop} {b off n c q i : Nat} {xs : List (C3 × C3)} {x : C3 × C3} (hr : Rd w F (.slice (some ⟨b, off, none⟩) n c) n 6 (xs.flatMap c6)) (hx : xs[i]? = some x) (hq : q = off + i * 6 + 3) : CellsAt w ⟨b, q, none⟩ [x.2.1, x.2.2.1, x.2.2.2] := by
  subst hq
  rw [Nat.add_assoc]
  exact Rd.cellsL (i := i * 6 + 3) hr rfl fun j v hj => by
    have := flatMap_get c6_len hx (3 + j) v (by
      unfold c6
      rw [List.getElem?_append_right (by simp [c3])]
      simpa [c3] using hj)
    rwa [← Nat.add_assoc] at this

theorem cellsP6 : Try.prog.cellsOf 39 = 6 := by kernel_rfl
theorem bytesP6 : Try.prog.bytesOf 39 = 96 := by kernel_rfl
theorem rep_pair {W : World} {f : Nat} {cs : List Value} (h : Rep Try.prog W f 39 cs) : ∃ (p : (C3 × C3) × (Tr × Tr)), cs = c6 p.1 ∧ TR W (fun k => k < W.heap.size) p.1.1 p.2.1 ∧ TR W (fun k => k < W.heap.size) p.1.2 p.2.2 := by
  obtain ⟨g, hg, hl, hf⟩ := h.struct Try.underlying39
  have hA : Rep Try.prog W g typ ((cs.drop 0).take 3) := Rep.field hf 0 (n := 3) rfl rfl rfl (by kernel_rfl)
  have hB : Rep Try.prog W g typ ((cs.drop 3).take 3) := Rep.field hf 1 (n := 3) rfl rfl rfl (by kernel_rfl)
  obtain ⟨⟨a, s⟩, e1, t1⟩ := rep_tr g hA
  obtain ⟨⟨b, t⟩, e2, t2⟩ := rep_tr g hB
  refine ⟨((a, b), (s, t)), ?_, t1, t2⟩
  rw [cellsP6] at hl
  show cs = c3 a ++ c3 b
  rw [← e1, ← e2, List.take_of_length_le (l := cs.drop 3) (by simp; omega), List.drop_zero, List.take_append_drop]
theorem rep_pairs {W : World} {v : Value} (h : ∃ f, Rep Try.prog W f 37 [v]) : ∃ xs ts, ts.length * 96 ≤ 140737488351232 ∧ Rd W (fun k => k < W.heap.size) v ts.length 6 (xs.flatMap c6) ∧ PRs W (fun k => k < W.heap.size) xs ts := by
  obtain ⟨f, hs⟩ := h
  obtain ⟨v', l, g2, _, h1, h2, h3, h4⟩ := hs.list (fun p : (C3 × C3) × (Tr × Tr) => c6 p.1) (fun _ p => TR W (fun k => k < W.heap.size) p.1.1 p.2.1 ∧ TR W (fun k => k < W.heap.size) p.1.2 p.2.2) Try.underlying37 (by rw [cellsP6]; decide) (by rw [bytesP6]; decide) (fun g' cs hlt hr => rep_pair hr)
  have f2 : v = v' := by injection h1
  subst f2
  rw [cellsP6] at h3
  rw [bytesP6] at h2
  refine ⟨l.map (·.1), l.map (·.2), by simpa using h2, ?_, by simp, fun i c k hc hk => ?_⟩
  · rw [List.length_map, List.flatMap_map]
    exact h3
  · rw [List.getElem?_map] at hc hk
    cases hli : l[i]? with
    | none => rw [hli] at hc; cases hc
    | some p =>
      rw [hli] at hc hk
      injection hc with hc
      injection hk with hk
      subst hc hk
      exact h4 p (List.mem_of_getElem? hli)

/-! ### sizes -/
theorem vars_sz (t : Ty) : (vars t).length ≤ sz t := by
  induction t using Ty.ind with
  | hv x => rw [vars_v, sz_v]; simp
  | hc n ks ih =>
    rw [vars_c, sz_c, List.length_flatten, List.map_map]
    have : (ks.map (List.length ∘ vars)).sum ≤ (ks.map sz).sum := by
      induction ks with
      | nil => simp
      | cons k ks ih2 =>
        simp only [List.map_cons, List.sum_cons, Function.comp]
        have h1 := ih k (by simp)
        have h2 := ih2 fun k hk => ih k (List.mem_cons_of_mem _ hk)
        omega
    omega
theorem sz_ren {f : Int → Ty} (hf : ∀ x, ∃ y, f x = .v y) (t : Ty) : sz (ext f t) = sz t := by
  induction t using Ty.ind with
  | hv x => rw [ext_v]; obtain ⟨y, e⟩ := hf x; rw [e, sz_v, sz_v]
  | hc n ks ih =>
    rw [ext_c, sz_c, sz_c, List.map_map]
    congr 2
    exact List.map_congr_left fun k hk => ih k hk
theorem sz_canon (t : Ty) : sz (canon t) = sz t := by
  unfold canon
  refine sz_ren (fun x => ?_) t
  rcases putT_cases (varsOf t) ((onesL (varsOf t).length).map Ty.v) x with h | h
  · obtain ⟨y, _, e⟩ := List.mem_map.1 h
    exact ⟨y, e.symm⟩
  · exact ⟨x, h.1⟩
theorem sz_star {l : List Ty} {b : Nat} (h : ∀ t ∈ l, sz t ≤ b) : sz (.c nStar l) ≤ 1 + l.length * b := by
  rw [sz_c]
  have : (l.map sz).sum ≤ l.length * b := by
    induction l with
    | nil => simp
    | cons a l ih =>
      have h1 := h a (by simp)
      have h2 := ih fun t ht => h t (List.mem_cons_of_mem _ ht)
      rw [List.map_cons, List.sum_cons, List.length_cons, Nat.succ_mul]
      omega
  omega
theorem canon_bound {a b : Ty} {n : Nat} (h : canon a = canon b) (hs : sz a ≤ n) : (vars a).length ≤ n ∧ (vars b).length ≤ n := by
  have h1 := vars_sz a
  have h2 := vars_sz b
  have h3 := sz_canon a
  have h4 := sz_canon b
  rw [h] at h3
  omega

/-! ### pairs, flat -/
def flat2 (ps : List (Ty × Ty)) : List Ty := ps.flatMap fun p => [p.1, p.2]
theorem flat2_len (ps : List (Ty × Ty)) : (flat2 ps).length = 2 * ps.length := by
  induction ps with
  | nil => rfl
  | cons p ps ih => simp only [flat2, List.flatMap_cons, List.length_append, List.length_cons, List.length_nil] at ih ⊢; omega
theorem flat2_snoc (ps : List (Ty × Ty)) (a b : Ty) : flat2 (ps ++ [(a, b)]) = flat2 ps ++ [a] ++ [b] := by simp [flat2]
theorem flat2_get {ps : List (Ty × Ty)} {j : Nat} {p : Ty × Ty} (h : ps[j]? = some p) : (flat2 ps)[2 * j]? = some p.1 ∧ (flat2 ps)[2 * j + 1]? = some p.2 := by
  induction ps generalizing j with
  | nil => simp at h
  | cons q ps ih =>
    cases j with
    | zero => simp at h; subst h; simp [flat2]
    | succ j =>
      have := ih (j := j) (by simpa using h)
      have e : flat2 (q :: ps) = q.1 :: q.2 :: flat2 ps := rfl
      rw [e, show 2 * (j + 1) = 2 * j + 1 + 1 by omega, List.getElem?_cons_succ, List.getElem?_cons_succ, List.getElem?_cons_succ]
      exact ⟨this.1, by rw [show 2 * j + 1 + 1 = (2 * j + 1) + 1 by omega]; exact this.2⟩
theorem mem_flat2 {ps : List (Ty × Ty)} {t : Ty} (h : t ∈ flat2 ps) : ∃ p ∈ ps, t = p.1 ∨ t = p.2 := by
  simp only [flat2, List.mem_flatMap, List.mem_cons, List.not_mem_nil, or_false] at h
  exact h
/-- the last i pairs, the last first, turned about -/
def backT (ps : List (Ty × Ty)) (i : Nat) : List (Ty × Ty) := (ps.reverse.take i).map fun p => (p.2, p.1)
theorem backT_succ {ps : List (Ty × Ty)} {i j : Nat} {p : Ty × Ty} (hi : i < ps.length) (hj : j = ps.length - 1 - i) (h : ps[j]? = some p) : backT ps (i + 1) = backT ps i ++ [(p.2, p.1)] := by
  subst hj
  unfold backT
  have hr : i < ps.reverse.length := by simpa using hi
  rw [List.take_succ_eq_append_getElem hr, List.map_append]
  congr 1
  have h2 : ps.reverse[i] = p := by
    rw [List.getElem_reverse]
    rw [List.getElem?_eq_getElem (by omega)] at h
    injection h
  rw [h2]
  rfl
theorem backT_all {ps : List (Ty × Ty)} (q : Ty × Ty) : q ∈ backT ps ps.length ↔ (q.2, q.1) ∈ ps := by
  unfold backT
  rw [List.take_of_length_le (by simp), List.mem_map]
  constructor
  · rintro ⟨p, hp, rfl⟩
    exact List.mem_reverse.1 hp
  · intro h
    exact ⟨_, List.mem_reverse.2 h, rfl⟩
/-! ### a row of trees, one written over -/
theorem TVs.get {w : World} {F : Nat → Prop} {xs : List C3} {ts : List Ty} (h : TVs w F xs ts) {i : Nat} {t : Ty} (ht : ts[i]? = some t) : ∃ c : C3, xs[i]? = some c ∧ TV w F c t := by
  have hi : i < ts.length := by
    rcases Nat.lt_or_ge i ts.length with h9 | h9
    · exact h9
    · rw [List.getElem?_eq_none h9] at ht; cases ht
  have hl : i < xs.length := by have := h.1; omega
  have hx : xs[i]? = some xs[i] := List.getElem?_eq_getElem hl
  exact ⟨_, hx, h.2 i _ _ hx ht⟩
theorem TVs.set {w : World} {F : Nat → Prop} {xs : List C3} {ts : List Ty} {i : Nat} {c : C3} {t : Ty} (h : TVs w F xs ts) (hc : TV w F c t) : TVs w F (xs.set i c) (ts.set i t) := by
  refine ⟨by simp [h.1], fun j c' t' h1 h2 => ?_⟩
  rw [List.getElem?_set] at h1 h2
  have hl := h.1
  by_cases hij : i = j
  · subst hij
    simp only [if_true] at h1 h2
    split at h1
    · rename_i h9
      rw [if_pos (by omega)] at h2
      injection h1 with h1
      injection h2 with h2
      subst h1 h2
      exact hc
    · cases h1
  · simp only [hij, if_false] at h1 h2
    exact h.2 j c' t' h1 h2
theorem set_flat {xs : List C3} {i : Nat} {c : C3} (hi : i < xs.length) : (xs.set i c).flatMap c3 = (xs.flatMap c3).take (i * 3) ++ c3 c ++ (xs.flatMap c3).drop (i * 3 + 3) := by
  induction xs generalizing i with
  | nil => simp at hi
  | cons x xs ih =>
    cases i with
    | zero => simp [c3]
    | succ i =>
      have := ih (i := i) (by simpa using hi)
      rw [List.set_cons_succ, List.flatMap_cons, List.flatMap_cons, this, show (i + 1) * 3 = i * 3 + 1 + 1 + 1 by omega, show i * 3 + 1 + 1 + 1 + 3 = (i * 3 + 3) + 1 + 1 + 1 by omega]
      simp [c3]
/-- the first i replaced -/
def mixT (f : Ty → Ty) (l : List Ty) (i : Nat) : List Ty := (l.take i).map f ++ l.drop i
theorem mixT_succ {f : Ty → Ty} {l : List Ty} {i : Nat} {t : Ty} (h : l[i]? = some t) : (mixT f l i).set i (f t) = mixT f l (i + 1) := by
  induction l generalizing i with
  | nil => simp at h
  | cons a l ih =>
    cases i with
    | zero => simp at h; subst h; simp [mixT]
    | succ i =>
      have := ih (i := i) (by simpa using h)
      simp only [mixT, List.take_succ_cons, List.map_cons, List.drop_succ_cons, List.cons_append, List.set_cons_succ] at this ⊢
      rw [this]
theorem mixT_get {f : Ty → Ty} {l : List Ty} {i : Nat} {t : Ty} (h : l[i]? = some t) : (mixT f l i)[i]? = some t := by
  have hi : i < l.length := by
    rcases Nat.lt_or_ge i l.length with h9 | h9
    · exact h9
    · rw [List.getElem?_eq_none h9] at h; cases h
  unfold mixT
  rw [List.getElem?_append_right (by simp; omega)]
  simp only [List.length_map, List.length_take, Nat.min_eq_left (Nat.le_of_lt hi), Nat.sub_self, List.getElem?_drop, Nat.add_zero]
  exact h
theorem mixT_len {f : Ty → Ty} (l : List Ty) (i : Nat) : (mixT f l i).length = l.length := by simp [mixT]; omega
theorem mixT_all {f : Ty → Ty} (l : List Ty) : mixT f l l.length = l.map f := by simp [mixT]
end Go.Proofs.Ytncakfcafkfmfaa
