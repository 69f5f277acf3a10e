/-
  HeapTexts: any texts, kept while others come and go, are what they were, wherever they stand.
-/
import Derived.Test.YtdpnnclkkbfihaaDoorHer
namespace Go.Proofs.YtdpnnclkkbfihaaDoor
open Go
set_option linter.unusedSimpArgs false
set_option linter.unusedVariables false

def tsum (l : List (List UInt8)) : Nat := (l.map textN).sum
theorem tsum_snoc (l : List (List UInt8)) (s : List UInt8) : tsum (l ++ [s]) = tsum l + textN s := by simp [tsum]
theorem tsum_take {l : List (List UInt8)} {j : Nat} {s : List UInt8} (h : l[j]? = some s) : tsum (l.take (j + 1)) = tsum (l.take j) + textN s ∧ tsum (l.take (j + 1)) ≤ tsum l := by
  refine ⟨by rw [take_get h, tsum_snoc], ?_⟩
  have e : tsum l = tsum (l.take (j + 1)) + tsum (l.drop (j + 1)) := by
    unfold tsum; rw [← List.sum_append, ← List.map_append, List.take_append_drop]
  omega
theorem tsum_le : ∀ (l : List (List UInt8)), (∀ s ∈ l, s.length ≤ 1000) → tsum l ≤ 126 * l.length
  | [], _ => by simp [tsum]
  | s :: l, h => by
    have h1 := tsum_le l (fun x hx => h x (by simp [hx]))
    have h2 := h s (by simp)
    have e : tsum (s :: l) = textN s + tsum l := by simp [tsum]
    rw [e, List.length_cons]
    unfold textN
    omega
/-- a heap, roots and what they are to be -/
def TX (w : World) (B p q lim i : Nat) (rs : List Nat) (ws : List (List UInt8)) (vr vw : Value) : Prop :=
  ∃ (G Gr Gw : Nat → Prop) (A1 : Option Addr) (c1 : Nat) (mem st : List Nat) (n : Nat), HS w G p A1 c1 mem q n ∧ Vd mem st ∧ mem.length ≤ lim ∧ n ≤ i ∧
    Own w Gr tWord 1 vr (rs.map (2 * ·)).length ((rs.map (2 * ·)).map Wd) ∧ Own w Gw 9 1 vw ws.length (ws.map Str) ∧ ws.length = rs.length ∧ rs.length ≤ i ∧
    (∀ (j a : Nat) (s : List UInt8), rs[j]? = some a → ws[j]? = some s → a ∈ st ∧ TextAt mem a s ∧ s.length ≤ 1000) ∧ (∀ k, G k → B ≤ k) ∧ (∀ k, Gr k → B ≤ k ∧ k ≠ p ∧ ¬ G k ∧ ¬ Gw k ∧ k < w.heap.size) ∧ (∀ k, Gw k → B ≤ k ∧ k ≠ p ∧ ¬ G k ∧ k < w.heap.size)
theorem TX.upd {w w' : World} {S : Nat → Prop} {B p q lim i : Nat} {rs : List Nat} {ws : List (List UInt8)} {vr vw : Value} (h : TX w B p q lim i rs ws vr vw) (hu : Upd S w w') (hn : ∀ k, k < w.heap.size → ¬ S k) : TX w' B p q lim i rs ws vr vw := by
  obtain ⟨G, Gr, Gw, A1, c1, mem, st, n, h1, h2, h3, h4, h5, h6, h7, h8, h9, h10, h11, h12⟩ := h
  have := hu.size
  exact ⟨G, Gr, Gw, A1, c1, mem, st, n, h1.upd hu (fun k _ hl => hn k hl), h2, h3, h4, h5.upd hu (fun k _ hl => hn k hl), h6.upd hu (fun k _ hl => hn k hl), h7, h8, h9, h10, fun k hk => by have := h11 k hk; exact ⟨this.1, this.2.1, this.2.2.1, this.2.2.2.1, by omega⟩, fun k hk => by have := h12 k hk; exact ⟨this.1, this.2.1, this.2.2.1, by omega⟩⟩
theorem TX.mono {w : World} {B p q lim lim' i i' : Nat} {rs : List Nat} {ws : List (List UInt8)} {vr vw : Value} (h : TX w B p q lim i rs ws vr vw) (h1 : lim ≤ lim') (h2 : i ≤ i') : TX w B p q lim' i' rs ws vr vw := by
  obtain ⟨G, Gr, Gw, A1, c1, mem, st, n, a1, a2, a3, a4, a5, a6, a7, a8, a9, a10, a11, a12⟩ := h
  exact ⟨G, Gr, Gw, A1, c1, mem, st, n, a1, a2, by omega, by omega, a5, a6, a7, by omega, a9, a10, a11, a12⟩
/-- a text is put, with roots and room enough -/
theorem puttextTX_ok {w : World} {B p q lim i : Nat} {rs : List Nat} {ws : List (List UInt8)} {vr vw vR : Value} {s : List UInt8} (h : TX w B p q lim i rs ws vr vw) (hs : s.length ≤ 1000) (hf : textN s + lim ≤ q) (hB : B ≤ p) :
    Ret Tryd.prog 12 #[.pointer (some ⟨p, 0, none⟩), .string ⟨s.toArray⟩, vR] w fun v w' => ∃ (G Gr Gw : Nat → Prop) (A1 : Option Addr) (c1 : Nat) (mem st : List Nat) (n : Nat), v = .tuple #[.int .u64 ((2 * mem.length : Nat) : Int), .int .i64 0] ∧ HS w' G p A1 c1 (mem ++ [s.length * 256 + 3] ++ encT s) q n ∧ Vd (mem ++ [s.length * 256 + 3] ++ encT s) (st ++ [mem.length]) ∧ mem.length ≤ lim ∧ n ≤ i ∧
    Own w' Gr tWord 1 vr (rs.map (2 * ·)).length ((rs.map (2 * ·)).map Wd) ∧ Own w' Gw 9 1 vw ws.length (ws.map Str) ∧ ws.length = rs.length ∧ rs.length ≤ i ∧
    (∀ (j a : Nat) (s' : List UInt8), rs[j]? = some a → ws[j]? = some s' → a ∈ st ++ [mem.length] ∧ TextAt (mem ++ [s.length * 256 + 3] ++ encT s) a s' ∧ s'.length ≤ 1000) ∧ (∀ k, G k → B ≤ k) ∧ (∀ k, Gr k → B ≤ k ∧ k ≠ p ∧ ¬ G k ∧ ¬ Gw k ∧ k < w'.heap.size) ∧ (∀ k, Gw k → B ≤ k ∧ k ≠ p ∧ ¬ G k ∧ k < w'.heap.size) ∧ Upd (fun k => B ≤ k) w w' := by
  obtain ⟨G, Gr, Gw, A1, c1, mem, st, n, h1, h2, h3, h4, h5, h6, h7, h8, h9, h10, h11, h12⟩ := h
  have hlG := h1.lt
  have hlp := h1.hd.lt
  have hup : Upd No w w := Upd.refl _ _
  refine Calls.mono (puttextG_ok (vR := vR) (S := No) (X := fun _ M N => M = mem ∧ N = n) h1 (by omega) (Ret.mono (roomFit_ok h1 (by unfold textN; omega) (by omega)) ?_) (fun _ _ _ _ _ h _ => h)) ?_
  · rintro v w' ⟨rfl, hu⟩
    exact ⟨G, A1, c1, mem, n, congrArg Value.bool (decide_eq_true (by omega)).symm, h1.upd hu (fun _ _ _ h => h), fun _ h => .inl h, hu, rfl, rfl⟩
  · rintro e w' ⟨v, rfl, G', A', c', mem', M, N, hH, hG, hu, ⟨rfl, rfl⟩, hfit, -⟩
    obtain ⟨rfl, rfl⟩ := hfit (by omega)
    have hsz := hu.size
    refine ⟨_, rfl, G', Gr, Gw, A', c', M, st, N, rfl, hH, h2.putText (by omega), h3, h4, h5.upd hu (fun k hk hl hS => ?_), h6.upd hu (fun k hk hl hS => ?_), h7, h8, fun j a s' ha hw => ?_, fun k hk => ?_, fun k hk => ?_, fun k hk => ?_, hu.mono fun k hl hk => ?_⟩
    · have := h11 k hk
      rcases hS with h | h | h
      · exact this.2.1 h
      · exact this.2.2.1 h
      · exact h
    · have := h12 k hk
      rcases hS with h | h | h
      · exact this.2.1 h
      · exact this.2.2.1 h
      · exact h
    · obtain ⟨b1, b2, b3⟩ := h9 j a s' ha hw
      refine ⟨List.mem_append_left _ b1, ?_, b3⟩
      rw [List.append_assoc]
      exact b2.app
    · rcases hG k hk with h | h
      · exact h10 k h
      · omega
    · have := h11 k hk
      refine ⟨this.1, this.2.1, fun h => ?_, this.2.2.2.1, by omega⟩
      rcases hG k h with h | h
      · exact this.2.2.1 h
      · omega
    · have := h12 k hk
      refine ⟨this.1, this.2.1, fun h => ?_, by omega⟩
      rcases hG k h with h | h
      · exact this.2.2.1 h
      · omega
    · rcases hk with h | h | h
      · omega
      · exact h10 k h
      · exact h.elim
/-- what isn't reached goes -/
theorem collectTX_ok {w : World} {B p q lim i : Nat} {rs : List Nat} {ws : List (List UInt8)} {vr vw vR : Value} {R : Nat → Prop} {g : Nat} (h : TX w B p q lim i rs ws vr vw) (hi : i ≤ 1000) (hB : B ≤ p)
    (hr : Rd w R vR (rowAt g (rs.map (2 * ·)).length).length 1 ((rowAt g (rs.map (2 * ·)).length).map ptrV)) (hg : 0 < rs.length → ∃ c, vr = .slice (some ⟨g, 0, none⟩) (rs.map (2 * ·)).length c) (hRl : ∀ k, R k → k < w.heap.size) (hRB : ∀ k, R k → k ≠ p ∧ (0 < rs.length → k ≠ g)) :
    Ret Tryd.prog 14 #[.pointer (some ⟨p, 0, none⟩), vR] w fun v w' => ∃ rs', rs'.length = rs.length ∧ TX w' B p q lim (i + 1) rs' ws vr vw ∧ Upd (fun k => B ≤ k) w w' := by
  obtain ⟨G, Gr, Gw, A1, c1, mem, st, n, h1, h2, h3, h4, h5, h6, h7, h8, h9, h10, h11, h12⟩ := h
  have hlG := h1.lt
  have hlp := h1.hd.lt
  have hle := h1.le
  obtain ⟨g2, A2, c2, hv, hpos, hro, hbl, hback⟩ := h5.roots
  have hgg : 0 < rs.length → g2 = g := fun h0 => by
    obtain ⟨c3, e1⟩ := hg h0
    obtain ⟨e2, _⟩ := hpos (by rw [List.length_map]; exact h0)
    rw [hv] at e1
    injection e1 with e1
    rw [e2] at e1
    injection e1 with e1
    injection e1 with e1
  have hrow : rowAt g (rs.map (2 * ·)).length = rowAt g2 (rs.map (2 * ·)).length := by
    rcases Nat.eq_zero_or_pos rs.length with h0 | h0
    · rw [List.length_map, h0]; rfl
    · rw [hgg h0]
  rw [hrow] at hr
  have hgF : ∀ k o, (k, o) ∈ rowAt g2 (rs.map (2 * ·)).length → Gr k ∧ k = g := fun k o ho => by
    obtain ⟨rfl, ho2⟩ := rowAt_mem ho
    obtain ⟨_, e2, _⟩ := hpos (by omega)
    exact ⟨e2, hgg (by rw [List.length_map] at ho2; omega)⟩
  refine Calls.mono (collect_ok h1 (by omega) h2 hr (rowAt_nodup _ _) hro hbl (fun e he => (h11 _ (hgF e.1 e.2 he).1).2.2.1) (fun k hk o ho => (hRB k hk).2 (by have := (rowAt_mem ho).2; rw [List.length_map] at this; omega) (hgF k o ho).2) hRl (fun h => (hRB p h).1 rfl) (fun x hx => ?_) (by rw [rowAt_len, List.length_map]; omega)) ?_
  · obtain ⟨a, ha, rfl⟩ := List.mem_map.1 hx
    obtain ⟨j, hj, rfl⟩ := List.mem_iff_getElem.1 ha
    have hjw : j < ws.length := by omega
    obtain ⟨b1, _, _⟩ := h9 j _ _ (List.getElem?_eq_getElem hj) (List.getElem?_eq_getElem hjw)
    have := (h2.in b1).1
    exact ⟨by omega, .inr (by rw [Nat.mul_div_cancel_left _ (by decide)]; exact b1)⟩
  · rintro e w' ⟨v, rfl, fin, to, mv, bt, hbfs, ⟨r0, hr0⟩, hPI, hH, hbt, hro2, hu⟩
    have hfin : ∀ a ∈ rs, a ∈ fin := fun a ha => by
      have := come_fold_mem (ys := []) (ord := []) (l := rs.map (2 * ·)) (x := 2 * a) (List.mem_map.2 ⟨a, ha, rfl⟩)
      rcases this with h | h
      · omega
      · rw [Nat.mul_div_cancel_left _ (by decide)] at h
        rw [hr0]
        exact List.mem_append_left _ h
    have hth : (rs.map (2 * ·)).map (there mem fin) = (rs.map (plc (szAt mem) fin)).map (2 * ·) := by
      rw [List.map_map, List.map_map]
      apply List.map_congr_left
      intro a ha
      show there mem fin (2 * a) = 2 * plc (szAt mem) fin a
      unfold there
      rw [Nat.mul_div_cancel_left _ (by decide), if_pos ⟨by omega, hfin a ha⟩]
    rw [hth] at hro2
    have hsz := hu.size
    have hR2 := hback w' _ _ hu (fun h0 k hk hl hS => by
      rcases hS with h | ⟨o, ho⟩
      · exact (h11 k hk).2.1 h
      · have := (rowAt_mem ho).2; omega) hro2
    have hpl := hPI.le h2
    refine ⟨_, rfl, rs.map (plc (szAt mem) fin), by rw [List.length_map], ⟨At bt, Gr, Gw, _, _, to, fin.map (plc (szAt mem) fin), n + 1, hH, h2.collect hPI (by omega), by omega, by omega, ?_, h6.upd hu (fun k hk hl hS => ?_), by rw [List.length_map]; exact h7, by rw [List.length_map]; omega, fun j a s ha hw => ?_, fun k hk => ?_, fun k hk => ?_, fun k hk => ?_⟩, hu.mono fun k hl hk => ?_⟩
    · simp only [List.length_map] at hR2 ⊢
      exact hR2
    · have := h12 k hk
      rcases hS with h | ⟨o, ho⟩
      · exact this.2.1 h
      · exact (h11 k (hgF k o ho).1).2.2.2.1 hk
    · rw [List.getElem?_map] at ha
      cases hj : rs[j]? with
      | none => rw [hj] at ha; cases ha
      | some a0 =>
        rw [hj] at ha
        injection ha with ha
        subst ha
        have hm := hfin a0 (List.mem_of_getElem? hj)
        obtain ⟨_, b2, b3⟩ := h9 j a0 s hj hw
        exact ⟨List.mem_map.2 ⟨a0, hm, rfl⟩, b2.collect h2 hPI hm, b3⟩
    · simp only [At] at hk; omega
    · have := h11 k hk
      exact ⟨this.1, this.2.1, fun h => by simp only [At] at h; omega, this.2.2.2.1, by omega⟩
    · have := h12 k hk
      exact ⟨this.1, this.2.1, fun h => by simp only [At] at h; omega, by omega⟩
    · rcases hk with h | ⟨o, ho⟩
      · omega
      · exact (h11 k (hgF k o ho).1).1
end Go.Proofs.YtdpnnclkkbfihaaDoor
