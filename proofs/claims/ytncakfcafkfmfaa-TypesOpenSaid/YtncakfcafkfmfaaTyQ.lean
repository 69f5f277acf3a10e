/-
  types: the steps of the program and of the reference, with fuel; what they come to. No program in sight.
-/
import Derived.Test.YtncakfcafkfmfaaTyP
namespace Go.Proofs.Ytncakfcafkfmfaa
open Go
set_option linter.unusedSimpArgs false
set_option linter.unusedVariables false

abbrev Dn := List (Int × Int)
/-- the outermost variable replaced -/
def hdF (σ : Sg) : Nat → Ty → Option Ty
  | _, .c f ks => some (.c f ks)
  | 0, .v x => match look σ x with
    | none => some (.v x)
    | some _ => none
  | n + 1, .v x => match look σ x with
    | none => some (.v x)
    | some u => hdF σ n u
inductive IsHd (σ : Sg) : Ty → Ty → Prop
  | con {f : Nm} {ks : List Ty} : IsHd σ (.c f ks) (.c f ks)
  | var {x : Int} : look σ x = none → IsHd σ (.v x) (.v x)
  | step {x : Int} {u h : Ty} : look σ x = some u → IsHd σ u h → IsHd σ (.v x) h
theorem hdF_isHd {σ : Sg} : ∀ {n : Nat} {t h : Ty}, hdF σ n t = some h → IsHd σ t h
  | n, .c f ks, h, e => by
    have : h = .c f ks := by cases n <;> (simp only [hdF] at e; injection e with e; exact e.symm)
    subst this; exact .con
  | 0, .v x, h, e => by
    simp only [hdF] at e
    split at e
    · rename_i hl; injection e with e; subst e; exact .var hl
    · cases e
  | n + 1, .v x, h, e => by
    simp only [hdF] at e
    split at e
    · rename_i hl; injection e with e; subst e; exact .var hl
    · rename_i u hl; exact .step hl (hdF_isHd e)
theorem IsHd.fuel {σ : Sg} {t h : Ty} (i : IsHd σ t h) : ∃ N, ∀ n, N ≤ n → hdF σ n t = some h := by
  induction i with
  | @con f ks => exact ⟨0, fun n _ => by cases n <;> rfl⟩
  | @var x hl => exact ⟨0, fun n _ => by cases n <;> simp [hdF, hl]⟩
  | @step x u h hl _ ih =>
    obtain ⟨N, hN⟩ := ih
    refine ⟨N + 1, fun n hn => ?_⟩
    obtain ⟨m, rfl⟩ : ∃ m, n = m + 1 := ⟨n - 1, by omega⟩
    simp only [hdF, hl]
    exact hN m (by omega)
theorem IsHd.end_ {σ : Sg} {t h : Ty} (i : IsHd σ t h) : ∀ x, h = .v x → look σ x = none := by
  induction i with
  | con => intro x e; cases e
  | var hl => intro x e; injection e with e; subst e; exact hl
  | step _ _ ih => exact ih
theorem IsHd.sol {σ : Sg} {t h : Ty} (i : IsHd σ t h) {τ : Int → Ty} (hs : Sol τ σ) : ext τ h = ext τ t := by
  induction i with
  | con => rfl
  | var => rfl
  | step hl _ ih => rw [ih, ext_v, hs _ _ hl]
theorem IsHd.det {σ : Sg} {t h h' : Ty} (i : IsHd σ t h) (i' : IsHd σ t h') : h = h' := by
  obtain ⟨N, hN⟩ := i.fuel
  obtain ⟨N', hN'⟩ := i'.fuel
  have h1 := hN (N + N') (by omega)
  have h2 := hN' (N + N') (by omega)
  rw [h1] at h2
  injection h2
theorem WF.hd {σ : Sg} (hw : WF σ) (t : Ty) : ∃ h, IsHd σ t h := by
  obtain ⟨W, hW⟩ := hw.rank
  cases t with
  | c f ks => exact ⟨_, .con⟩
  | v x =>
    have key : ∀ m x, W x < m → ∃ h, IsHd σ (.v x) h := by
      intro m
      induction m with
      | zero => intro x hx; omega
      | succ m ih =>
        intro x hx
        cases hl : look σ x with
        | none => exact ⟨_, .var hl⟩
        | some u =>
          cases u with
          | c f ks => exact ⟨_, .step hl .con⟩
          | v y =>
            have := hW x _ hl y (by rw [vars_v]; simp)
            obtain ⟨h, hh⟩ := ih y (by omega)
            exact ⟨h, .step hl hh⟩
    exact key _ x (Nat.lt_succ_self _)

/-- bindings within a set of variables -/
structure Good (U : List Int) (σ : Sg) : Prop where
  wf : WF σ
  inU : ∀ x u, look σ x = some u → x ∈ U ∧ ∀ y ∈ vars u, y ∈ U
theorem IsHd.inU {U : List Int} {σ : Sg} {t h : Ty} (g : Good U σ) (i : IsHd σ t h) (ht : ∀ y ∈ vars t, y ∈ U) : ∀ y ∈ vars h, y ∈ U := by
  induction i with
  | con => exact ht
  | var => exact ht
  | step hl _ ih => exact ih (g.inU _ _ hl).2

theorem all_fuel {α : Type} {P : Nat → α → Prop} {l : List α} (h : ∀ k ∈ l, ∃ N, ∀ n, N ≤ n → P n k) : ∃ N, ∀ n, N ≤ n → ∀ k ∈ l, P n k := by
  induction l with
  | nil => exact ⟨0, fun n _ k hk => by cases hk⟩
  | cons a l ih =>
    obtain ⟨N, hN⟩ := ih fun k hk => h k (List.mem_cons_of_mem _ hk)
    obtain ⟨M, hM⟩ := h a (by simp)
    refine ⟨N + M, fun n hn k hk => ?_⟩
    rcases List.mem_cons.1 hk with rfl | hk
    · exact hM n (by omega)
    · exact hN n (by omega) k hk

/-! ### the variables that occur: a list, and which were looked at -/
abbrev FrS := List Int × List Int
def frL (f : Ty → FrS → Option FrS) : List Ty → FrS → Option FrS
  | [], s => some s
  | k :: ks, s => match f k s with
    | none => none
    | some s1 => frL f ks s1
def frF (σ : Sg) : Nat → Ty → FrS → Option FrS
  | 0, _, _ => none
  | n + 1, .v x, s => if x ∈ s.2 then some s else match look σ x with
    | none => some (s.1 ++ [x], s.2 ++ [x])
    | some u => frF σ n u (s.1, s.2 ++ [x])
  | n + 1, .c _ ks, s => frL (frF σ n) ks s

structure FrOK (U : List Int) (σ : Sg) (xs : List Int) (s s' : FrS) : Prop where
  lmem : ∀ y ∈ s.1, y ∈ s'.1
  smem : ∀ y ∈ s.2, y ∈ s'.2
  only : ∀ y ∈ s'.1, y ∈ s.1 ∨ ∃ z ∈ xs, y ∈ vars (th σ z)
  top : ∀ y ∈ xs, y ∈ s'.2
  clos : ∀ y ∈ s'.2, y ∈ s.2 ∨ ∀ z ∈ vars (th σ y), z ∈ s'.1
  nod : s.2.Nodup → s'.2.Nodup
  inU : (∀ y ∈ s.2, y ∈ U) → ∀ y ∈ s'.2, y ∈ U
  len : s.1.length ≤ s.2.length → s'.1.length ≤ s'.2.length

theorem frL_ok {U : List Int} {σ : Sg} {W : Int → Nat} {f : Ty → FrS → Option FrS} :
    ∀ {ks : List Ty} {s s' : FrS}, (∀ k ∈ ks, ∀ s s', f k s = some s' → (∀ y ∈ s.2, (∀ z ∈ vars (th σ y), z ∈ s.1) ∨ ∀ z ∈ vars k, W z < W y) → FrOK U σ (vars k) s s') →
      frL f ks s = some s' → (∀ y ∈ s.2, (∀ z ∈ vars (th σ y), z ∈ s.1) ∨ ∀ k ∈ ks, ∀ z ∈ vars k, W z < W y) → FrOK U σ ((ks.map vars).flatten) s s'
  | [], s, s', _, h, _ => by
    simp only [frL] at h
    injection h with h
    subst h
    exact ⟨fun y h => h, fun y h => h, fun y h => .inl h, fun y h => by simp at h, fun y h => .inl h, fun h => h, fun h => h, fun h => h⟩
  | k :: ks, s, s', hf, h, hs => by
    simp only [frL] at h
    cases h1 : f k s with
    | none => rw [h1] at h; cases h
    | some s1 =>
      rw [h1] at h
      have o1 := hf k (by simp) s s1 h1 fun y hy => (hs y hy).imp (fun h => h) fun h => h k (by simp)
      have o2 := frL_ok (ks := ks) (s := s1) (s' := s') (fun k' hk' => hf k' (List.mem_cons_of_mem _ hk')) h fun y hy => by
        rcases o1.clos y hy with hy' | hy'
        · rcases hs y hy' with h' | h'
          · exact .inl fun z hz => o1.lmem z (h' z hz)
          · exact .inr fun k' hk' => h' k' (List.mem_cons_of_mem _ hk')
        · exact .inl hy'
      refine ⟨fun y h => o2.lmem y (o1.lmem y h), fun y h => o2.smem y (o1.smem y h), fun y hy => ?_, fun y hy => ?_, fun y hy => ?_, fun h => o2.nod (o1.nod h), fun h => o2.inU (o1.inU h), fun h => o2.len (o1.len h)⟩
      · rcases o2.only y hy with hy | ⟨z, hz, hy⟩
        · rcases o1.only y hy with hy | ⟨z, hz, hy⟩
          · exact .inl hy
          · exact .inr ⟨z, by simp [hz], hy⟩
        · refine .inr ⟨z, ?_, hy⟩
          rw [List.map_cons, List.flatten_cons]
          exact List.mem_append_right _ hz
      · rw [List.map_cons, List.flatten_cons] at hy
        rcases List.mem_append.1 hy with hy | hy
        · exact o2.smem y (o1.top y hy)
        · exact o2.top y hy
      · rcases o2.clos y hy with hy | hy
        · rcases o1.clos y hy with hy | hy
          · exact .inl hy
          · exact .inr fun z hz => o2.lmem z (hy z hz)
        · exact .inr hy

theorem frF_ok {U : List Int} {σ : Sg} {W : Int → Nat} (g : Good U σ) (hW : Rk σ W) : ∀ {n : Nat} {t : Ty} {s s' : FrS}, (∀ y ∈ vars t, y ∈ U) → frF σ n t s = some s' →
    (∀ y ∈ s.2, (∀ z ∈ vars (th σ y), z ∈ s.1) ∨ ∀ z ∈ vars t, W z < W y) → FrOK U σ (vars t) s s'
  | 0, t, s, s', _, h, _ => by simp [frF] at h
  | n + 1, .v x, s, s', hU, h, hs => by
    have hxU : x ∈ U := hU x (by rw [vars_v]; simp)
    rw [vars_v]
    simp only [frF] at h
    split at h
    · rename_i hx
      injection h with h
      subst h
      exact ⟨fun y h => h, fun y h => h, fun y h => .inl h, fun y h => by simp at h; subst h; exact hx, fun y h => .inl h, fun h => h, fun h => h, fun h => h⟩
    · rename_i hx
      split at h
      · rename_i hl
        injection h with h
        subst h
        refine ⟨fun y h => by simp [h], fun y h => by simp [h], fun y hy => ?_, fun y h => by simp at h; simp [h], fun y hy => ?_, fun hn => ?_, fun hi y hy => ?_, fun h => by simpa using h⟩
        · simp only [List.mem_append, List.mem_singleton] at hy
          rcases hy with hy | rfl
          · exact .inl hy
          · exact .inr ⟨y, by simp, by rw [g.wf.unb hl, vars_v]; simp⟩
        · simp only [List.mem_append, List.mem_singleton] at hy
          rcases hy with hy | rfl
          · exact .inl hy
          · right
            intro z hz
            rw [g.wf.unb hl, vars_v] at hz
            simp at hz
            subst hz
            simp
        · simp only
          rw [List.nodup_append]
          exact ⟨hn, by simp, fun a ha b hb => by simp at hb; subst hb; exact fun e => hx (e ▸ ha)⟩
        · simp only [List.mem_append, List.mem_singleton] at hy
          rcases hy with hy | rfl
          · exact hi y hy
          · exact hxU
      · rename_i u hl
        have hWu := hW x u hl
        have o := frF_ok (s := (s.1, s.2 ++ [x])) g hW (g.inU x u hl).2 h fun y hy => by
          simp only [List.mem_append, List.mem_singleton] at hy
          rcases hy with hy | rfl
          · rcases hs y hy with h' | h'
            · exact .inl h'
            · right
              intro z hz
              have h1 := hWu z hz
              have h2 := h' x (by rw [vars_v]; simp)
              omega
          · exact .inr fun z hz => hWu z hz
        refine ⟨o.lmem, fun y hy => o.smem y (by simp [hy]), fun y hy => ?_, fun y hy => ?_, fun y hy => ?_, fun hn => ?_, fun hi => ?_, fun hl => ?_⟩
        · rcases o.only y hy with hy | ⟨z, hz, hy⟩
          · exact .inl hy
          · exact .inr ⟨x, by simp, by rw [g.wf.bnd hl]; exact mem_vars_ext.2 ⟨z, hz, hy⟩⟩
        · simp at hy; subst hy; exact o.smem y (by simp)
        · rcases o.clos y hy with hy' | hy'
          · simp only [List.mem_append, List.mem_singleton] at hy'
            rcases hy' with hy' | rfl
            · exact .inl hy'
            · right
              intro w hw
              rw [g.wf.bnd hl] at hw
              obtain ⟨z, hz, hw⟩ := mem_vars_ext.1 hw
              have hzW := hWu z hz
              rcases o.clos z (o.top z hz) with h1 | h1
              · simp only [List.mem_append, List.mem_singleton] at h1
                rcases h1 with h1 | rfl
                · rcases hs z h1 with h2 | h2
                  · exact o.lmem w (h2 w hw)
                  · have := h2 y (by rw [vars_v]; simp); omega
                · omega
              · exact h1 w hw
          · exact .inr hy'
        · refine o.nod ?_
          simp only
          rw [List.nodup_append]
          exact ⟨hn, by simp, fun a ha b hb => by simp at hb; subst hb; exact fun e => hx (e ▸ ha)⟩
        · refine o.inU fun y hy => ?_
          simp only [List.mem_append, List.mem_singleton] at hy
          rcases hy with hy | rfl
          · exact hi y hy
          · exact hxU
        · exact o.len (by simp; omega)
  | n + 1, .c f ks, s, s', hU, h, hs => by
    simp only [frF] at h
    rw [vars_c]
    exact frL_ok (W := W) (fun k hk s s' h' hs' => frF_ok g hW (fun y hy => hU y (mem_vars_c.2 ⟨k, hk, hy⟩)) h' hs') h fun y hy => (hs y hy).imp (fun h => h) fun h k hk z hz => h z (mem_vars_c.2 ⟨k, hk, hz⟩)

theorem frL_some {f : Ty → FrS → Option FrS} : ∀ {ks : List Ty} {s : FrS}, (∀ k ∈ ks, ∀ s, (f k s).isSome = true) → (frL f ks s).isSome = true
  | [], s, _ => rfl
  | k :: ks, s, h => by
    simp only [frL]
    have h1 := h k (by simp) s
    cases h2 : f k s with
    | none => rw [h2] at h1; cases h1
    | some s1 => exact frL_some fun k' hk' => h k' (List.mem_cons_of_mem _ hk')
theorem WF.fr {σ : Sg} (hw : WF σ) (t : Ty) : ∃ N, ∀ n, N ≤ n → ∀ s, (frF σ n t s).isSome = true := by
  obtain ⟨W, hW⟩ := hw.rank
  have key : ∀ m t, (∀ y ∈ vars t, W y < m) → ∃ N, ∀ n, N ≤ n → ∀ s, (frF σ n t s).isSome = true := by
    intro m
    induction m with
    | zero =>
      intro t
      induction t using Ty.ind with
      | hv x => intro h; have := h x (by rw [vars_v]; simp); omega
      | hc f ks ih =>
        intro h
        obtain ⟨N, hN⟩ := all_fuel (P := fun n k => ∀ s, (frF σ n k s).isSome = true) fun k hk => ih k hk fun y hy => h y (mem_vars_c.2 ⟨k, hk, hy⟩)
        refine ⟨N + 1, fun n hn s => ?_⟩
        obtain ⟨m, rfl⟩ : ∃ m, n = m + 1 := ⟨n - 1, by omega⟩
        simp only [frF]
        exact frL_some fun k hk s => hN m (by omega) k hk s
    | succ m ihm =>
      intro t
      induction t using Ty.ind with
      | hv x =>
        intro h
        have hx := h x (by rw [vars_v]; simp)
        cases hl : look σ x with
        | none =>
          refine ⟨1, fun n hn s => ?_⟩
          obtain ⟨k, rfl⟩ : ∃ m, n = m + 1 := ⟨n - 1, by omega⟩
          simp only [frF, hl]
          split <;> rfl
        | some u =>
          obtain ⟨N, hN⟩ := ihm u fun y hy => by have := hW x u hl y hy; omega
          refine ⟨N + 1, fun n hn s => ?_⟩
          obtain ⟨k, rfl⟩ : ∃ m, n = m + 1 := ⟨n - 1, by omega⟩
          simp only [frF, hl]
          split
          · rfl
          · exact hN k (by omega) _
      | hc f ks ih =>
        intro h
        obtain ⟨N, hN⟩ := all_fuel (P := fun n k => ∀ s, (frF σ n k s).isSome = true) fun k hk => ih k hk fun y hy => h y (mem_vars_c.2 ⟨k, hk, hy⟩)
        refine ⟨N + 1, fun n hn s => ?_⟩
        obtain ⟨m, rfl⟩ : ∃ m, n = m + 1 := ⟨n - 1, by omega⟩
        simp only [frF]
        exact frL_some fun k hk s => hN m (by omega) k hk s
  obtain ⟨M, hM⟩ := list_bound W (vars t)
  exact key (M + 1) t fun y hy => by have := hM y hy; omega
/-- from nothing: the variables that occur -/
theorem Good.fr {U : List Int} {σ : Sg} (g : Good U σ) {n : Nat} {t : Ty} {s' : FrS} (hU : ∀ y ∈ vars t, y ∈ U) (h : frF σ n t ([], []) = some s') :
    (∀ y, y ∈ s'.1 ↔ y ∈ vars (ext (th σ) t)) ∧ s'.1.length ≤ s'.2.length ∧ s'.2.Nodup ∧ ∀ y ∈ s'.2, y ∈ U := by
  obtain ⟨W, hW⟩ := g.wf.rank
  have o := frF_ok g hW hU h fun y hy => by cases hy
  refine ⟨fun y => ⟨fun hy => ?_, fun hy => ?_⟩, o.len (Nat.le_refl _), o.nod List.nodup_nil, o.inU fun y hy => by cases hy⟩
  · rcases o.only y hy with hy | ⟨z, hz, hy⟩
    · cases hy
    · exact mem_vars_ext.2 ⟨z, hz, hy⟩
  · obtain ⟨z, hz, hy⟩ := mem_vars_ext.1 hy
    rcases o.clos z (o.top z hz) with h1 | h1
    · cases h1
    · exact h1 y hy
end Go.Proofs.Ytncakfcafkfmfaa
