/-
  A table out of bytes. No program in sight.
-/
import Derived.Test.YtipabhbnljadfaaSef
namespace Go.Proofs.Ytipabhbnljadfaa
open Go
set_option linter.unusedSimpArgs false
set_option linter.unusedVariables false

def nextOK (L : List Ls) (id : Nat) : Bool := match L[L.length - 1]? with
  | some x => decide (x.id < id)
  | none => true
/-- so many more sessions -/
def loadL : Nat → Option (List UInt8) → List Ls → Option (List UInt8) × List Ls
  | 0, s, L => (s, L)
  | _ + 1, none, L => (none, L)
  | n + 1, some p, L =>
    if (uintR (some p)).1 = 0 ∨ (uintR (uintR (some p)).2).1 = 0 ∨ nextOK L (uintR (some p)).1 = false then (none, L)
    else loadL n (bytesR 1048576 (uintR (uintR (some p)).2).2).2 (L ++ [⟨(uintR (some p)).1, (uintR (uintR (some p)).2).1, (bytesR 1048576 (uintR (uintR (some p)).2).2).1⟩])
def loadS (p : List UInt8) : Option (List UInt8) × List Ls := loadL (uptoR 64 (some p)).1 (uptoR 64 (some p)).2 []
theorem loadL_none (k : Nat) (L : List Ls) : loadL k none L = (none, L) := by cases k <;> rfl
theorem loadL_bad {n : Nat} {p : List UInt8} {L : List Ls} {a b : Nat} {s1 s2 : Option (List UInt8)} (ha : uintR (some p) = (a, s1)) (hb : uintR s1 = (b, s2)) (h : a = 0 ∨ b = 0 ∨ nextOK L a = false) : loadL (n + 1) (some p) L = (none, L) := by
  unfold loadL
  rw [ha]
  simp only
  rw [hb]
  exact if_pos h
theorem loadL_good {n : Nat} {p : List UInt8} {L : List Ls} {a b : Nat} {d : List UInt8} {s1 s2 s3 : Option (List UInt8)} (ha : uintR (some p) = (a, s1)) (hb : uintR s1 = (b, s2)) (hd : bytesR 1048576 s2 = (d, s3)) (h : ¬ (a = 0 ∨ b = 0 ∨ nextOK L a = false)) :
    loadL (n + 1) (some p) L = loadL n s3 (L ++ [⟨a, b, d⟩]) := by
  rw [loadL, ha]
  simp only
  rw [hb]
  simp only
  rw [hd]
  exact if_neg h
theorem rise_snoc {L : List Ls} {x : Ls} (h : Rise L) (hx : nextOK L x.id = true) : Rise (L ++ [x]) := by
  refine List.pairwise_append.2 ⟨h, List.pairwise_singleton _ _, fun a ha b hb => ?_⟩
  rw [List.mem_singleton] at hb
  subst hb
  obtain ⟨i, hi, rfl⟩ := List.mem_iff_getElem.1 ha
  unfold nextOK at hx
  rw [List.getElem?_eq_getElem (by omega)] at hx
  have h1 : (L[L.length - 1]).id < b.id := by simpa using hx
  by_cases hl : i = L.length - 1
  · subst hl; exact h1
  · have := List.pairwise_iff_getElem.1 h i (L.length - 1) hi (by omega) (by omega)
    omega
theorem loadL_some : ∀ {k : Nat} {q r : List UInt8} {L L' : List Ls}, loadL k (some q) L = (some r, L') → ∃ M, L' = L ++ M ∧ M.length = k ∧ q = M.flatMap lsB ++ r ∧ (TOK L → L.length + k ≤ 64 → TOK L')
  | 0, q, r, L, L', h => by
    simp only [loadL, Prod.mk.injEq, Option.some.injEq] at h
    obtain ⟨rfl, rfl⟩ := h
    exact ⟨[], by simp, rfl, by simp, fun h _ => h⟩
  | k + 1, q, r, L, L', h => by
    obtain ⟨a, s1, ha⟩ : ∃ a s1, uintR (some q) = (a, s1) := ⟨_, _, rfl⟩
    obtain ⟨b, s2, hb⟩ : ∃ b s2, uintR s1 = (b, s2) := ⟨_, _, rfl⟩
    obtain ⟨d, s3, hd⟩ : ∃ d s3, bytesR 1048576 s2 = (d, s3) := ⟨_, _, rfl⟩
    by_cases hc : a = 0 ∨ b = 0 ∨ nextOK L a = false
    · rw [loadL_bad ha hb hc] at h
      cases h
    · rw [loadL_good ha hb hd hc] at h
      cases s3 with
      | none => rw [loadL_none] at h; cases h
      | some q3 =>
        obtain ⟨M, rfl, hM, rfl, hT⟩ := loadL_some h
        obtain ⟨e3, e4, e5⟩ := bytesR_some hd
        subst e3
        obtain ⟨e2, e6⟩ := uintR_some hb
        subst e2
        obtain ⟨e1, e7⟩ := uintR_some ha
        have hq := Option.some.inj e1
        subst hq
        refine ⟨⟨a, b, d⟩ :: M, by simp, by simp [hM], by simp [lsB, List.append_assoc], fun hL hl => hT ⟨?_, ?_, ?_⟩ (by simp; omega)⟩
        · exact rise_snoc hL.rise (by simpa using fun h => hc (.inr (.inr h)))
        · simp; omega
        · intro x hx
          rcases List.mem_append.1 hx with hx | hx
          · exact hL.ok x hx
          · rw [List.mem_singleton] at hx
            subst hx
            exact ⟨by simp only; omega, e7, by simp only; omega, e6, by simp only; omega⟩
theorem uptoR_some {most : Int} {s : Option (List UInt8)} {n : Nat} {q : List UInt8} (h : uptoR most s = (n, some q)) : s = some (encU n ++ q) ∧ (n : Int) ≤ most := by
  unfold uptoR at h
  split at h
  · split at h
    · rename_i h1 h2
      simp only [Prod.mk.injEq, Option.some.injEq] at h
      obtain ⟨rfl, rfl⟩ := h
      exact ⟨(uintR_some h1).1, h2.2⟩
    · cases h
  · cases h
theorem uptoR_le {most : Int} {s : Option (List UInt8)} (h : 0 ≤ most) : ((uptoR most s).1 : Int) ≤ most := by
  unfold uptoR
  split
  · split
    · rename_i h2; exact h2.2
    · exact h
  · exact h
theorem loadS_some {p : List UInt8} {L : List Ls} (h : loadS p = (some [], L)) : TOK L ∧ saveS L = p := by
  unfold loadS at h
  obtain ⟨n, s, hn⟩ : ∃ n s, uptoR 64 (some p) = (n, s) := ⟨_, _, rfl⟩
  rw [hn] at h
  cases s with
  | none => rw [loadL_none] at h; cases h
  | some q =>
    obtain ⟨h1, h2⟩ := uptoR_some hn
    obtain ⟨M, rfl, hM, rfl, hT⟩ := loadL_some h
    have h3 := Option.some.inj h1
    refine ⟨hT TOK.nil (by simp; omega), ?_⟩
    rw [h3]
    simp only [saveS, List.nil_append, hM, List.append_nil]

/-- a table in memory: of whatever types -/
def IsTG (TT TE : TypeId) (w : World) (R : Nat → Prop) (t : Nat) (L : List Ls) : Prop := ∃ (A : Option Addr) (c : Nat) (V : List LsV) (G H : Nat → Prop), Blk w t #[.slice A V.length c] TT ∧
  Own w G TE 3 (.slice A V.length c) V.length (V.flatMap LsV.cells) ∧ (∀ r ∈ V, Rd w H r.v r.x.data.length 1 (r.x.data.map U8)) ∧ lsOf V = L ∧ R t ∧ t < w.heap.size ∧
  (∀ k, G k → R k ∧ k ≠ t ∧ k < w.heap.size) ∧ ∀ k, H k → R k ∧ k ≠ t ∧ ¬ G k ∧ k < w.heap.size
theorem IsTG.upd {TT TE : TypeId} {w w' : World} {R S : Nat → Prop} {t : Nat} {L : List Ls} (h : IsTG TT TE w R t L) (hu : Upd S w w') (hn : ∀ k, R k → k < w.heap.size → ¬ S k) : IsTG TT TE w' R t L := by
  obtain ⟨A, c, V, G, H, h1, h2, h3, h4, h5, h6, h7, h8⟩ := h
  refine ⟨A, c, V, G, H, h1.upd hu (hn t h5 h6), h2.upd hu (fun k hk hl => hn k (h7 k hk).1 hl), fun r hr => (h3 r hr).upd hu (fun k hk hl => hn k (h8 k hk).1 hl), h4, h5, Nat.lt_of_lt_of_le h6 hu.size, fun k hk => ?_, fun k hk => ?_⟩
  · have := h7 k hk
    exact ⟨this.1, this.2.1, Nat.lt_of_lt_of_le this.2.2 hu.size⟩
  · have := h8 k hk
    exact ⟨this.1, this.2.1, this.2.2.1, Nat.lt_of_lt_of_le this.2.2.2 hu.size⟩
theorem IsTG.mono {TT TE : TypeId} {w : World} {R R' : Nat → Prop} {t : Nat} {L : List Ls} (h : IsTG TT TE w R t L) (hR : ∀ k, R k → k < w.heap.size → R' k) : IsTG TT TE w R' t L := by
  obtain ⟨A, c, V, G, H, h1, h2, h3, h4, h5, h6, h7, h8⟩ := h
  exact ⟨A, c, V, G, H, h1, h2, h3, h4, hR t h5 h6, h6, fun k hk => ⟨hR k (h7 k hk).1 (h7 k hk).2.2, (h7 k hk).2⟩, fun k hk => ⟨hR k (h8 k hk).1 (h8 k hk).2.2.2, (h8 k hk).2⟩⟩
theorem IsTG.push {TT TE : TypeId} {w w1 w2 : World} {R G H C : Nat → Prop} {t c2 : Nat} {A2 : Option Addr} {V : List LsV} {r : LsV}
    (hD : ∀ r ∈ V, Rd w H r.v r.x.data.length 1 (r.x.data.map U8)) (hRt : R t) (htl : t < w.heap.size)
    (hG : ∀ k, G k → R k ∧ k ≠ t ∧ k < w.heap.size) (hH : ∀ k, H k → R k ∧ k ≠ t ∧ ¬ G k ∧ k < w.heap.size)
    (hr : Rd w C r.v r.x.data.length 1 (r.x.data.map U8)) (hC : ∀ k, C k → k ≠ t ∧ ¬ G k ∧ k < w.heap.size)
    (hO2 : Own w1 (Grow G w w1) TE 3 (.slice A2 (V.length + 1) c2) (V.length + 1) (V.flatMap LsV.cells ++ r.cells)) (hOp : Upd G w w1)
    (hB2 : Blk w2 t #[.slice A2 (V.length + 1) c2] TT) (hS : Upd (At t) w1 w2) :
    IsTG TT TE w2 (fun k => Grow R w w2 k ∨ C k) t (lsOf V ++ [r.x]) := by
  have h1 := hOp.size
  have h2 := hS.size
  refine ⟨A2, c2, V ++ [r], Grow G w w1, fun k => H k ∨ C k, ?_, ?_, ?_, by rw [lsOf, List.map_append]; rfl, .inl (.inl hRt), by omega, fun k hk => ?_, fun k hk => ?_⟩
  · rw [List.length_append]; exact hB2
  · rw [List.length_append, List.flatMap_append, List.flatMap_singleton]
    exact hO2.upd hS (fun k hk hl hS => by simp only [At] at hS; subst hS; rcases hk with h | h; exact (hG k h).2.1 rfl; omega)
  · intro q hq
    rcases List.mem_append.1 hq with hq | hq
    · exact (((hD q hq).upd hOp (fun k hk _ hS => (hH k hk).2.2.1 hS)).upd hS (fun k hk _ hS => by simp only [At] at hS; subst hS; exact (hH k hk).2.1 rfl)).mono (fun k hk => .inl hk)
    · rw [List.mem_singleton] at hq
      subst hq
      exact ((hr.upd hOp (fun k hk _ hS => (hC k hk).2.1 hS)).upd hS (fun k hk _ hS => by simp only [At] at hS; subst hS; exact (hC k hk).1 rfl)).mono (fun k hk => .inr hk)
  · rcases hk with hk | hk
    · have := hG k hk; exact ⟨.inl (.inl this.1), this.2.1, by omega⟩
    · exact ⟨.inl (.inr ⟨hk.1, by omega⟩), by omega, by omega⟩
  · rcases hk with hk | hk
    · have := hH k hk
      exact ⟨.inl (.inl this.1), this.2.1, fun h => h.elim (fun h => this.2.2.1 h) (fun h => by omega), by omega⟩
    · have := hC k hk
      exact ⟨.inr hk, this.1, fun h => h.elim (fun h => this.2.1 h) (fun h => by omega), by omega⟩
end Go.Proofs.Ytipabhbnljadfaa
