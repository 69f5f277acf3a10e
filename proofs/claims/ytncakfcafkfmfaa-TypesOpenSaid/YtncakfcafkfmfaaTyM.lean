/-
  types: how trees and what variables stand for lie in memory.
-/
import Derived.Test.YtncakfcafkfmfaaFt
import Derived.Test.YtncakfcafkfmfaaTyU
import Derived.Test.YtncakfcafkfmfaaTab
import Derived.Test.YtncakfcafkfmfaaFo
namespace Go.Proofs.Ytncakfcafkfmfaa
open Go
set_option linter.unusedSimpArgs false
set_option linter.unusedVariables false

abbrev C3 := Value × Value × Value
def c3 (x : C3) : List Value := [x.1, x.2.1, x.2.2]
theorem c3_len (x : C3) : (c3 x).length = 3 := rfl
theorem c3_at (x : C3) : (c3 x)[0]? = some x.1 ∧ (c3 x)[1]? = some x.2.1 ∧ (c3 x)[2]? = some x.2.2 := ⟨rfl, rfl, rfl⟩
/-- a type's name, as it stands in memory; its kids -/
def Ty.nm : Ty → List UInt8
  | .v _ => []
  | .c n _ => n.1
def Ty.kids : Ty → List Ty
  | .v _ => []
  | .c _ ks => ks
theorem Ty.nm_nil {t : Ty} : t.nm = [] ↔ ∃ x, t = .v x := by
  cases t with
  | v x => exact ⟨fun _ => ⟨x, rfl⟩, fun _ => rfl⟩
  | c n ks => exact ⟨fun h => absurd h n.2, fun ⟨x, h⟩ => by cases h⟩
/-- three cells that are a type; its kids' rows are blocks of F -/
inductive TV (w : World) (F : Nat → Prop) : C3 → Ty → Prop
  | mk {t : Ty} {m : Int} {kv : Value} {xs : List C3} : (∀ x, t = .v x → m = x) → Rd w F kv t.kids.length 3 (xs.flatMap c3) → xs.length = t.kids.length → t.kids.length ≤ 1000000 →
      (∀ (i : Nat) c k, xs[i]? = some c → t.kids[i]? = some k → TV w F c k) → TV w F (.string ⟨t.nm.toArray⟩, .int .i64 m, kv) t
theorem TV.upd {w w' : World} {F S : Nat → Prop} {c : C3} {t : Ty} (h : TV w F c t) (hu : Upd S w w') (hn : ∀ k, F k → k < w.heap.size → ¬ S k) : TV w' F c t := by
  induction h with
  | mk hm hr hl hb hk ih => exact .mk hm (hr.upd hu hn) hl hb fun i c k hc hk' => ih i c k hc hk'
theorem TV.updA {w w' : World} {F S : Nat → Prop} {c : C3} {t : Ty} (h : TV w F c t) (hu : Upd S w w') (hn : ∀ k, F k → k < w.heap.size → ¬ S k := by first | exact (fun _ _ _ h => h) | with_reducible assumption | (intro k hk hl hS; simp only [At] at hS; subst hS; contradiction) | (intro k hk hl hS; (try simp only [At, From, No, Grow, New] at hk hS); omega)) : TV w' F c t := h.upd hu hn
theorem TV.mono {w : World} {F F' : Nat → Prop} {c : C3} {t : Ty} (h : TV w F c t) (hF : ∀ k, F k → F' k) : TV w F' c t := by
  induction h with
  | mk hm hr hl hb hk ih => exact .mk hm (hr.mono hF) hl hb fun i c k hc hk' => ih i c k hc hk'
theorem TV.bound {w : World} {F : Nat → Prop} {c : C3} {t : Ty} (h : TV w F c t) : TV w (fun k => F k ∧ k < w.heap.size) c t := by
  induction h with
  | mk hm hr hl hb hk ih => exact .mk hm hr.bound hl hb fun i c k hc hk' => ih i c k hc hk'
theorem TV.open {w : World} {F : Nat → Prop} {a b c : Value} {t : Ty} (h : TV w F (a, b, c) t) : ∃ (m : Int) (A : Option Addr) (k : Nat) (xs : List C3), a = .string ⟨t.nm.toArray⟩ ∧ b = .int .i64 m ∧ c = .slice A t.kids.length k ∧ (∀ x, t = .v x → m = x) ∧ Rd w F (.slice A t.kids.length k) t.kids.length 3 (xs.flatMap c3) ∧ xs.length = t.kids.length ∧ t.kids.length ≤ 1000000 ∧ ∀ (i : Nat) c k, xs[i]? = some c → t.kids[i]? = some k → TV w F c k := by
  cases h with
  | mk hm hr hl hb hk =>
    obtain ⟨A, k, rfl, _⟩ := hr.slice_form
    exact ⟨_, A, k, _, rfl, rfl, rfl, hm, hr, hl, hb, hk⟩
theorem TV.nil {w : World} {F : Nat → Prop} (x : Int) : TV w F (.string ⟨#[]⟩, .int .i64 x, .slice none 0 0) (.v x) :=
  .mk (t := .v x) (xs := []) (fun y h => by injection h) (Rd.nil w F 3) rfl (Nat.zero_le _) (fun i c k h => by simp at h)

/-- types in a row -/
def TVs (w : World) (F : Nat → Prop) (xs : List C3) (ts : List Ty) : Prop := xs.length = ts.length ∧ ∀ (i : Nat) c t, xs[i]? = some c → ts[i]? = some t → TV w F c t
theorem TVs.nil (w : World) (F : Nat → Prop) : TVs w F [] [] := ⟨rfl, fun i c t h => by simp at h⟩
theorem TVs.snoc {w : World} {F : Nat → Prop} {xs : List C3} {ts : List Ty} {c : C3} {t : Ty} (h : TVs w F xs ts) (hc : TV w F c t) : TVs w F (xs ++ [c]) (ts ++ [t]) := by
  refine ⟨by simp [h.1], fun i c' t' h1 h2 => ?_⟩
  rcases Nat.lt_trichotomy i xs.length with hi | hi | hi
  · rw [List.getElem?_append_left hi] at h1
    rw [List.getElem?_append_left (by have := h.1; omega)] at h2
    exact h.2 i c' t' h1 h2
  · subst hi
    rw [List.getElem?_append_right (Nat.le_refl _)] at h1
    rw [List.getElem?_append_right (by have := h.1; omega)] at h2
    simp [h.1] at h1 h2
    subst h1; subst h2; exact hc
  · rw [List.getElem?_eq_none (by simp; omega)] at h1
    cases h1
theorem TVs.upd {w w' : World} {F S : Nat → Prop} {xs : List C3} {ts : List Ty} (h : TVs w F xs ts) (hu : Upd S w w') (hn : ∀ k, F k → k < w.heap.size → ¬ S k) : TVs w' F xs ts := ⟨h.1, fun i c t h1 h2 => (h.2 i c t h1 h2).upd hu hn⟩
theorem TVs.updA {w w' : World} {F S : Nat → Prop} {xs : List C3} {ts : List Ty} (h : TVs w F xs ts) (hu : Upd S w w') (hn : ∀ k, F k → k < w.heap.size → ¬ S k := by first | exact (fun _ _ _ h => h) | with_reducible assumption | (intro k hk hl hS; simp only [At] at hS; subst hS; contradiction) | (intro k hk hl hS; (try simp only [At, From, No, Grow, New] at hk hS); omega)) : TVs w' F xs ts := h.upd hu hn
theorem TVs.mono {w : World} {F F' : Nat → Prop} {xs : List C3} {ts : List Ty} (h : TVs w F xs ts) (hF : ∀ k, F k → F' k) : TVs w F' xs ts := ⟨h.1, fun i c t h1 h2 => (h.2 i c t h1 h2).mono hF⟩
theorem TVs.bound {w : World} {F : Nat → Prop} {xs : List C3} {ts : List Ty} (h : TVs w F xs ts) : TVs w (fun k => F k ∧ k < w.heap.size) xs ts := ⟨h.1, fun i c t h1 h2 => (h.2 i c t h1 h2).bound⟩
theorem TVs.len {w : World} {F : Nat → Prop} {xs : List C3} {ts : List Ty} (h : TVs w F xs ts) : (xs.flatMap c3).length = ts.length * 3 := by rw [flatMap_len c3_len, h.1]
theorem TV.kids {w : World} {F : Nat → Prop} {t : Ty} {m : Int} {kv : Value} {xs : List C3} (hm : ∀ x, t = .v x → m = x) (hr : Rd w F kv t.kids.length 3 (xs.flatMap c3)) (hb : t.kids.length ≤ 1000000) (hk : TVs w F xs t.kids) : TV w F (.string ⟨t.nm.toArray⟩, .int .i64 m, kv) t :=
  .mk hm hr hk.1 hb hk.2
/-- a kid's three cells -/
theorem kid_cells {w : World} {F : Nat → Prop} {b off n c q i : Nat} {xs : List C3} {x : C3} (hr : Rd w F (.slice (some ⟨b, off, none⟩) n c) n 3 (xs.flatMap c3)) (hx : xs[i]? = some x) (hq : q = off + i * 3) : CellsAt w ⟨b, q, none⟩ [x.1, x.2.1, x.2.2] := by
  subst hq
  exact Rd.cellsL (i := i * 3) hr rfl fun j v hj => flatMap_get c3_len hx j v hj

/-! ### what variables stand for -/
abbrev typ : TypeId := 28
/-- the blocks that change -/
def Mut (p m1 m2 : Nat) : Nat → Prop := fun k => k = p ∨ k = m1 ∨ k = m2
def ofE (σ : Sg) (xs : List C3) : List (Int × Value) := (σ.map (·.1)).zip (xs.map fun c => .agg #[c.1, c.2.1, c.2.2])
def doneE (D : Dn) : List ((Int × Int) × Value) := D.map fun p => (p, .bool true)
structure IsS (w : World) (F : Nat → Prop) (p m1 m2 : Nat) (σ : Sg) (D : Dn) (nn : Int) (xs : List C3) : Prop where
  hd : Blk w p #[.map (some m1), .int .i64 nn, .map (some m2)] 59
  of_ : MapB w m1 ((ofE σ xs).map fun p => (.int .i64 p.1, p.2))
  dn : MapB w m2 ((doneE D).map fun p => (pairV p.1, p.2))
  ne : m1 ≠ m2
  tv : TVs w F xs (σ.map (·.2))
theorem IsS.ne1 {w : World} {F : Nat → Prop} {p m1 m2 : Nat} {σ : Sg} {D : Dn} {nn : Int} {xs : List C3} (h : IsS w F p m1 m2 σ D nn xs) : m1 ≠ p := h.of_.ne h.hd
theorem IsS.ne2 {w : World} {F : Nat → Prop} {p m1 m2 : Nat} {σ : Sg} {D : Dn} {nn : Int} {xs : List C3} (h : IsS w F p m1 m2 σ D nn xs) : m2 ≠ p := h.dn.ne h.hd
theorem IsS.lt {w : World} {F : Nat → Prop} {p m1 m2 : Nat} {σ : Sg} {D : Dn} {nn : Int} {xs : List C3} (h : IsS w F p m1 m2 σ D nn xs) : p < w.heap.size ∧ m1 < w.heap.size ∧ m2 < w.heap.size := ⟨h.hd.lt, h.of_.lt, h.dn.lt⟩
theorem IsS.upd {w w' : World} {F S : Nat → Prop} {p m1 m2 : Nat} {σ : Sg} {D : Dn} {nn : Int} {xs : List C3} (h : IsS w F p m1 m2 σ D nn xs) (hu : Upd S w w') (hn : ∀ k, Mut p m1 m2 k ∨ F k → k < w.heap.size → ¬ S k) : IsS w' F p m1 m2 σ D nn xs :=
  ⟨h.hd.upd hu (hn p (.inl (.inl rfl)) h.hd.lt), h.of_.upd hu (hn m1 (.inl (.inr (.inl rfl))) h.of_.lt), h.dn.upd hu (hn m2 (.inl (.inr (.inr rfl))) h.dn.lt), h.ne, h.tv.upd hu fun k hk hl => hn k (.inr hk) hl⟩
theorem IsS.updN {w w' : World} {F : Nat → Prop} {p m1 m2 : Nat} {σ : Sg} {D : Dn} {nn : Int} {xs : List C3} (h : IsS w F p m1 m2 σ D nn xs) (hu : Upd No w w') : IsS w' F p m1 m2 σ D nn xs := h.upd hu fun _ _ _ h => h
theorem IsS.bound {w : World} {F : Nat → Prop} {p m1 m2 : Nat} {σ : Sg} {D : Dn} {nn : Int} {xs : List C3} (h : IsS w F p m1 m2 σ D nn xs) : IsS w (fun k => F k ∧ k < w.heap.size) p m1 m2 σ D nn xs := { h with tv := h.tv.bound }
theorem IsS.mono {w : World} {F F' : Nat → Prop} {p m1 m2 : Nat} {σ : Sg} {D : Dn} {nn : Int} {xs : List C3} (h : IsS w F p m1 m2 σ D nn xs) (hF : ∀ k, F k → F' k) : IsS w F' p m1 m2 σ D nn xs := { h with tv := h.tv.mono hF }

theorem look_ofE : ∀ {σ : Sg} {xs : List C3}, xs.length = σ.length → ∀ (x : Int), (look σ x = none → lookA (ofE σ xs) x = none) ∧ ∀ u, look σ x = some u → ∃ (i : Nat) (c : C3), xs[i]? = some c ∧ (σ.map (·.2))[i]? = some u ∧ lookA (ofE σ xs) x = some (.agg #[c.1, c.2.1, c.2.2])
  | [], xs, h, x => by
    have : xs = [] := List.eq_nil_of_length_eq_zero (by simpa using h)
    subst this
    exact ⟨fun _ => rfl, fun u h => by cases h⟩
  | (k, t) :: σ, [], h, x => by simp at h
  | (k, t) :: σ, c :: xs, h, x => by
    have ih := look_ofE (σ := σ) (xs := xs) (by simpa using h) x
    simp only [look, ofE, List.map_cons, List.zip_cons_cons, lookA]
    by_cases hk : k = x
    · simp only [hk, if_true]
      refine ⟨fun h => absurd h (by simp), fun u hu => ?_⟩
      injection hu with hu
      subst hu
      exact ⟨0, c, rfl, rfl, rfl⟩
    · simp only [hk, if_false]
      refine ⟨ih.1, fun u hu => ?_⟩
      obtain ⟨i, c', h1, h2, h3⟩ := ih.2 u hu
      exact ⟨i + 1, c', by simpa using h1, by simpa using h2, h3⟩
theorem IsS.look {w : World} {F : Nat → Prop} {p m1 m2 : Nat} {σ : Sg} {D : Dn} {nn : Int} {xs : List C3} (h : IsS w F p m1 m2 σ D nn xs) (x : Int) :
    (look σ x = none → lookA (ofE σ xs) x = none) ∧ ∀ u, Go.Proofs.Ytncakfcafkfmfaa.look σ x = some u → ∃ c : C3, TV w F c u ∧ lookA (ofE σ xs) x = some (.agg #[c.1, c.2.1, c.2.2]) := by
  have hl : xs.length = σ.length := by simpa using h.tv.1
  have := look_ofE hl x
  refine ⟨this.1, fun u hu => ?_⟩
  obtain ⟨i, c, h1, h2, h3⟩ := this.2 u hu
  exact ⟨c, h.tv.2 i c u h1 h2, h3⟩
/-- what is looked up: the value, and whether there is one -/
structure LookR (w : World) (F : Nat → Prop) (σ : Sg) (xs : List C3) (x : Int) (s : ByteArray) (m : Int) (A : Option Addr) (n k : Nat) (ok : Bool) : Prop where
  val : (lookA (ofE σ xs) x).getD (.agg #[.string ⟨#[]⟩, .int .i64 0, .slice none 0 0]) = .agg #[.string s, .int .i64 m, .slice A n k]
  isS : (lookA (ofE σ xs) x).isSome = ok
  yes : ok = true → ∃ u, Go.Proofs.Ytncakfcafkfmfaa.look σ x = some u ∧ TV w F (.string s, .int .i64 m, .slice A n k) u
  no : ok = false → Go.Proofs.Ytncakfcafkfmfaa.look σ x = none
theorem LookR.upd {w w' : World} {F S : Nat → Prop} {σ : Sg} {xs : List C3} {x : Int} {s : ByteArray} {m : Int} {A : Option Addr} {n k : Nat} {ok : Bool} (h : LookR w F σ xs x s m A n k ok) (hu : Upd S w w') (hn : ∀ k, F k → k < w.heap.size → ¬ S k) : LookR w' F σ xs x s m A n k ok :=
  ⟨h.val, h.isS, fun ho => by obtain ⟨u, h1, h2⟩ := h.yes ho; exact ⟨u, h1, h2.upd hu hn⟩, h.no⟩
theorem IsS.lookR {w : World} {F : Nat → Prop} {p m1 m2 : Nat} {σ : Sg} {D : Dn} {nn : Int} {xs : List C3} (h : IsS w F p m1 m2 σ D nn xs) (x : Int) : ∃ s m A n k ok, LookR w F σ xs x s m A n k ok := by
  have h1 := h.look x
  cases hl : Go.Proofs.Ytncakfcafkfmfaa.look σ x with
  | none =>
    have h2 := h1.1 hl
    exact ⟨⟨#[]⟩, 0, none, 0, 0, false, by rw [h2]; rfl, by rw [h2]; rfl, fun h => Bool.noConfusion h, fun _ => hl⟩
  | some u =>
    obtain ⟨⟨a, b, c⟩, h2, h3⟩ := h1.2 u hl
    obtain ⟨m, A, k, xk, rfl, rfl, rfl, _⟩ := h2.open
    exact ⟨_, m, A, _, k, true, by rw [h3]; rfl, by rw [h3]; rfl, fun _ => ⟨u, hl, h2⟩, fun h => Bool.noConfusion h⟩
theorem hd_con {σ : Sg} {q : Nat} {t h : Ty} (hn : t.nm ≠ []) (e : hdF σ q t = some h) : h = t := by
  cases t with
  | v x => exact absurd rfl hn
  | c n ks => cases q <;> (simp only [hdF] at e; injection e with e; exact e.symm)
theorem hd_none {σ : Sg} {q : Nat} {x : Int} {h : Ty} (hn : look σ x = none) (e : hdF σ q (.v x) = some h) : h = .v x := by
  cases q <;> (simp only [hdF, hn] at e; injection e with e; exact e.symm)
theorem hd_some {σ : Sg} {q : Nat} {x : Int} {u h : Ty} (hn : look σ x = some u) (e : hdF σ q (.v x) = some h) : ∃ q', q = q' + 1 ∧ hdF σ q' u = some h := by
  cases q with
  | zero => simp [hdF, hn] at e
  | succ q' => exact ⟨q', rfl, by simpa only [hdF, hn] using e⟩
theorem look_doneE (D : Dn) (p : Int × Int) : lookA (doneE D) p = if p ∈ D then some (.bool true) else none := by
  induction D with
  | nil => rfl
  | cons a D ih =>
    simp only [doneE, List.map_cons, lookA]
    by_cases h : a = p
    · subst h; simp
    · have h' : ¬ p = a := fun e => h e.symm
      simp only [h, if_false, List.mem_cons, h', false_or]
      exact ih
theorem ofE_snoc {σ : Sg} {xs : List C3} (h : xs.length = σ.length) (x : Int) (t : Ty) (c : C3) : ofE (σ ++ [(x, t)]) (xs ++ [c]) = ofE σ xs ++ [(x, .agg #[c.1, c.2.1, c.2.2])] := by
  unfold ofE
  rw [List.map_append, List.map_append, List.zip_append (by simp [h])]
  rfl
theorem doneE_snoc (D : Dn) (p : Int × Int) : doneE (D ++ [p]) = doneE D ++ [(p, .bool true)] := by simp [doneE]
theorem keyI : KeyT (α := Int) Try.prog 3 (fun x => .int .i64 x) := key_int int_3
theorem arr2 : Arr2 Try.prog 60 3 := ⟨arr_60, int_3, flat_3, size_3, by kernel_rfl⟩
theorem keyP : KeyT (α := Int × Int) Try.prog 60 pairV := key_pair arr2
end Go.Proofs.Ytncakfcafkfmfaa
