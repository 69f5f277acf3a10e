/-
  Snapshots as bytes, and back; the store over a drum. No program in sight.
-/
import Derived.Test.YtejlmcdmoghmaaaWrtP
import Derived.Test.YtejlmcdmoghmaaaSeal
import Derived.Test.YtejlmcdmoghmaaaDv
namespace Go.Proofs.Ytejlmcdmoghmaaa
open Go
set_option linter.unusedSimpArgs false
set_option linter.unusedVariables false

theorem decU_canon {l r : List UInt8} {x : Nat} (h : decU l = some (x, r)) : l = encU x ++ r := by
  cases l with
  | nil => cases h
  | cons k q =>
    simp only [decU] at h
    split at h
    · rename_i hc
      simp only [Option.some.injEq, Prod.mk.injEq] at h
      obtain ⟨rfl, rfl⟩ := h
      have hl : (q.take k.toNat).length = k.toNat := by rw [List.length_take]; omega
      have h1 := (encU_beN (l := q.take k.toNat) (by omega)).2 (by
        rcases hc.2.2 with h0 | h0
        · exact .inl (by omega)
        · by_cases h00 : k.toNat = 0
          · exact .inl (by omega)
          · right
            rw [List.head?_take, if_neg h00]
            exact h0)
      rw [h1, hl]
      simp
    · cases h
theorem uintR_some {s : Option (List UInt8)} {x : Nat} {r : List UInt8} (h : uintR s = (x, some r)) : s = some (encU x ++ r) ∧ x < 18446744073709551616 := by
  have hlt := uintR_lt s
  rw [h] at hlt
  refine ⟨?_, hlt⟩
  cases s with
  | none => cases h
  | some l =>
    cases hd : decU l with
    | none => simp only [uintR, hd] at h; cases h
    | some p =>
      obtain ⟨y, q⟩ := p
      simp only [uintR, hd] at h
      simp only [Prod.mk.injEq, Option.some.injEq] at h
      obtain ⟨rfl, rfl⟩ := h
      rw [decU_canon hd]
theorem bytes_encN {most : Int} {b : List UInt8} (hb : (b.length : Int) ≤ most) (hl : b.length < 18446744073709551616) (r : List UInt8) : bytesR most (some (encU b.length ++ (b ++ r))) = (b, some r) := by
  have h1 : uptoR most (some (encU b.length ++ (b ++ r))) = (b.length, some (b ++ r)) := by
    unfold uptoR
    rw [uint_enc hl]
    exact if_pos (by omega)
  unfold bytesR
  rw [h1]
  simp
theorem bytesR_some {most : Int} {s : Option (List UInt8)} {b r : List UInt8} (h : bytesR most s = (b, some r)) : s = some (encU b.length ++ (b ++ r)) ∧ (b.length : Int) ≤ most ∧ b.length < 18446744073709551616 := by
  unfold bytesR at h
  have hu : ∀ n q, uptoR most s = (n, some q) → uintR s = (n, some q) ∧ (n : Int) ≤ most := fun n q hq => by
    unfold uptoR at hq
    split at hq
    · split at hq
      · rename_i h1 h2
        rw [h1]
        simp only [Prod.mk.injEq, Option.some.injEq] at hq
        obtain ⟨rfl, rfl⟩ := hq
        exact ⟨rfl, h2.2⟩
      · cases hq
    · cases hq
  split at h
  · rename_i n q hq
    obtain ⟨h1, h2⟩ := hu n q hq
    obtain ⟨h3, h4⟩ := uintR_some h1
    split at h
    · simp only [Prod.mk.injEq, Option.some.injEq] at h
      obtain ⟨rfl, rfl⟩ := h
      have hl : (q.take n).length = n := by rw [List.length_take]; omega
      rw [hl, List.take_append_drop]
      exact ⟨h3, h2, h4⟩
    · cases h
  · cases h

/-- a snapshot -/
structure Sn where
  idx : Nat
  term : Nat
  data : List UInt8
theorem Sn.eq_iff {a b : Sn} : a = b ↔ (a.idx = b.idx ∧ a.term = b.term) ∧ a.data = b.data := by
  obtain ⟨i, t, d⟩ := a
  obtain ⟨i', t', d'⟩ := b
  simp [and_assoc]
instance : DecidableEq Sn := fun a b => decidable_of_iff _ Sn.eq_iff.symm
def Sn.ok (s : Sn) : Prop := s.idx < 18446744073709551616 ∧ s.term < 18446744073709551616 ∧ s.data.length ≤ 1048576
def sn0 : Sn := ⟨0, 0, []⟩
def bodyB (s : Sn) : List UInt8 := encU s.idx ++ (encU s.term ++ (encU s.data.length ++ (s.data ++ [])))
def layB (s : Sn) : List UInt8 := sealB (bodyB s)
def parseB (b : List UInt8) : Option Sn :=
  if (bytesR 1048576 (uintR (uintR (some b)).2).2).2 = some [] then some ⟨(uintR (some b)).1, (uintR (uintR (some b)).2).1, (bytesR 1048576 (uintR (uintR (some b)).2).2).1⟩ else none
def unlayB (p : List UInt8) : Option Sn := if (openB p).2 = 0 then parseB (openB p).1 else none

theorem parse_body {s : Sn} (h : s.ok) : parseB (bodyB s) = some s := by
  unfold parseB bodyB
  rw [uint_enc h.1, uint_enc h.2.1, bytes_encN (by have := h.2.2; omega) (by have := h.2.2; omega)]
  simp
theorem parse_canon {b : List UInt8} {s : Sn} (h : parseB b = some s) : b = bodyB s ∧ s.ok := by
  unfold parseB at h
  split at h
  · rename_i hc
    simp only [Option.some.injEq] at h
    subst h
    generalize h3 : bytesR 1048576 (uintR (uintR (some b)).2).2 = r3 at hc
    obtain ⟨d, q⟩ := r3
    simp only at hc
    subst hc
    obtain ⟨e2, hd, _⟩ := bytesR_some h3
    generalize h2 : uintR (uintR (some b)).2 = r2 at h3 e2
    obtain ⟨t, q2⟩ := r2
    simp only at e2 h3
    subst e2
    obtain ⟨e1, ht⟩ := uintR_some h2
    generalize h1 : uintR (some b) = r1 at h2 e1
    obtain ⟨i, q1⟩ := r1
    simp only at e1 h2
    subst e1
    obtain ⟨e0, hi⟩ := uintR_some h1
    simp only [Option.some.injEq] at e0
    refine ⟨?_, hi, ht, by simp only; omega⟩
    rw [e0]
    rfl
  · cases h
theorem enc_cancel {x y : Nat} {r q : List UInt8} (hx : x < 18446744073709551616) (hy : y < 18446744073709551616) (h : encU x ++ r = encU y ++ q) : x = y ∧ r = q := by
  have h1 := decU_enc hx r
  rw [h, decU_enc hy q] at h1
  simp only [Option.some.injEq, Prod.mk.injEq] at h1
  exact ⟨h1.1.symm, h1.2.symm⟩
theorem body_prefix {s s' : Sn} {w : List UInt8} (h : s.ok) (h' : s'.ok) (e : bodyB s' ++ w = bodyB s) : w = [] := by
  unfold bodyB at e
  rw [List.append_assoc, List.append_assoc, List.append_assoc] at e
  obtain ⟨_, e⟩ := enc_cancel h'.1 h.1 e
  obtain ⟨_, e⟩ := enc_cancel h'.2.1 h.2.1 e
  obtain ⟨e1, e⟩ := enc_cancel (by have := h'.2.2; omega) (by have := h.2.2; omega) e
  have h1 := congrArg List.length e
  simp only [List.length_append, List.length_nil] at h1
  exact List.eq_nil_of_length_eq_zero (by omega)
theorem open_seal (l : List UInt8) : openB (sealB l) = (l, 0) := by
  have h1 := sealB_length l
  have h2 : (sealB l).take ((sealB l).length - 4) = l := by
    rw [h1, Nat.add_sub_cancel]
    simp [sealB]
  unfold openB
  rw [if_neg (by omega), h2, if_pos rfl]
theorem unlay_lay {s : Sn} (h : s.ok) : unlayB (layB s) = some s := by
  unfold unlayB layB
  rw [open_seal, if_pos rfl]
  exact parse_body h
theorem openB_zero {p : List UInt8} (h : (openB p).2 = 0) : 4 ≤ p.length ∧ (openB p).1 = p.take (p.length - 4) := by
  unfold openB at h ⊢
  split at h
  · cases h
  · split at h
    · rw [if_neg (by assumption), if_pos (by assumption)]
      exact ⟨by omega, rfl⟩
    · cases h
theorem unlay_prefix {s : Sn} {k : Nat} (h : s.ok) (hk : k < (layB s).length) : unlayB ((layB s).take k) = none := by
  unfold unlayB
  split
  · rename_i hc
    obtain ⟨h4, h1⟩ := openB_zero hc
    have hl : ((layB s).take k).length = k := by rw [List.length_take]; omega
    rw [hl] at h4 h1
    cases hp : parseB (openB ((layB s).take k)).1 with
    | none => rfl
    | some s' =>
      exfalso
      obtain ⟨e, hok⟩ := parse_canon hp
      have hlen := sealB_length (bodyB s)
      unfold layB at hk h1
      rw [hlen] at hk
      have e2 : (sealB (bodyB s)).take (k - 4) = (bodyB s).take (k - 4) := by
        unfold sealB
        rw [List.take_append_of_le_length (by omega)]
      rw [List.take_take, Nat.min_eq_left (by omega), e2] at h1
      unfold layB at e
      rw [h1] at e
      have h5 := body_prefix (w := (bodyB s).drop (k - 4)) h hok (by rw [← e, List.take_append_drop])
      have h6 := congrArg List.length h5
      rw [List.length_drop, List.length_nil] at h6
      omega
  · rfl
theorem unlay_nil : unlayB [] = none := rfl
theorem unlay_ok {p : List UInt8} {s : Sn} (h : unlayB p = some s) : s.ok := by
  unfold unlayB at h
  split at h
  · exact (parse_canon h).2
  · cases h
theorem encU_len_le {n : Nat} (h : n < 18446744073709551616) : 1 ≤ (encU n).length ∧ (encU n).length ≤ 9 := by
  rw [encU_length]
  have := blen_le (n := n) (k := 8) (by omega)
  omega
theorem layB_len {s : Sn} (h : s.ok) : s.data.length + 7 ≤ (layB s).length ∧ (layB s).length ≤ s.data.length + 31 := by
  unfold layB bodyB
  rw [sealB_length]
  simp only [List.length_append, List.length_nil]
  have h1 := encU_len_le h.1
  have h2 := encU_len_le h.2.1
  have h3 := encU_len_le (n := s.data.length) (by have := h.2.2; omega)
  omega

/-- bytes, piece by piece -/
def putAll : Nat → DS → Int → List UInt8 → Nat → DS × Nat
  | 0, D, _, _, e => (D, e)
  | f + 1, D, i, p, e => if p = [] ∨ e ≠ 0 then (D, e) else putAll f (D.append i (p.take 500)).1 i (p.drop 500) (D.append i (p.take 500)).2
theorem putAll_done {f : Nat} {D : DS} {i : Int} {p : List UInt8} {e : Nat} (h : p = [] ∨ e ≠ 0) : putAll f D i p e = (D, e) := by
  cases f with
  | zero => rfl
  | succ f => exact if_pos h
theorem putAll_step {f : Nat} {D : DS} {i : Int} {p : List UInt8} {e : Nat} (hp : p ≠ []) (he : e = 0) : putAll (f + 1) D i p e = putAll f (D.append i (p.take 500)).1 i (p.drop 500) (D.append i (p.take 500)).2 :=
  if_neg (by intro h; rcases h with h | h; exact hp h; exact h he)
def saveD (D : DS) (i : Int) (p : List UInt8) : DS × Nat :=
  if (putAll p.length (D.write i []).1 i p (D.write i []).2).2 = 0 then (putAll p.length (D.write i []).1 i p (D.write i []).2).1.sync i else putAll p.length (D.write i []).1 i p (D.write i []).2

/-- the store: on which side, and what -/
structure SS where
  side : Nat
  s : Sn
def ss0 : SS := ⟨0, sn0⟩
def SS.save (D : DS) (a : Int) (T : SS) (x : Sn) : DS × SS × Nat :=
  if x.idx ≤ T.s.idx then (D, T, 16)
  else if D.most < (layB x).length then (D, T, 13)
  else if (saveD D (a + 1 - T.side) (layB x)).2 = 0 then ((saveD D (a + 1 - T.side) (layB x)).1, ⟨1 - T.side, x⟩, 0)
  else ((saveD D (a + 1 - T.side) (layB x)).1, T, (saveD D (a + 1 - T.side) (layB x)).2)
def pick (T : SS) (i : Nat) (p : List UInt8) : SS := match unlayB p with
  | some s => if T.s.idx < s.idx then ⟨i, s⟩ else T
  | none => T
def pick2 (p0 p1 : List UInt8) : SS := pick (pick ss0 0 p0) 1 p1
end Go.Proofs.Ytejlmcdmoghmaaa
