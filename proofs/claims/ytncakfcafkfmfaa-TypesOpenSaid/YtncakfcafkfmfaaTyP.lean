/-
  types: trees, substitutions in a triangular list, unification, in plain Lean: no program in sight.
-/
import Derived.Test.YtncakfcafkfmfaaFf
namespace Go.Proofs.Ytncakfcafkfmfaa
open Go
set_option linter.unusedSimpArgs false
set_option linter.unusedVariables false

abbrev Nm := {l : List UInt8 // l ≠ []}
/-- a type: a variable, or a name and of what -/
inductive Ty where
  | v (x : Int)
  | c (n : Nm) (ks : List Ty)

theorem Ty.ind {P : Ty → Prop} (hv : ∀ x, P (.v x)) (hc : ∀ n ks, (∀ k ∈ ks, P k) → P (.c n ks)) : ∀ t, P t
  | .v x => hv x
  | .c n ks => hc n ks (fun k hk => Ty.ind hv hc k)
termination_by t => SizeOf.sizeOf t
decreasing_by
  have := List.sizeOf_lt_of_mem hk
  simp only [Ty.c.sizeOf_spec]
  omega

/-- the variables replaced -/
def ext (f : Int → Ty) : Ty → Ty
  | .v x => f x
  | .c n ks => .c n (ks.attach.map fun k => ext f k.1)
termination_by t => SizeOf.sizeOf t
decreasing_by
  have := List.sizeOf_lt_of_mem k.2
  simp only [Ty.c.sizeOf_spec]
  omega
theorem ext_v (f : Int → Ty) (x : Int) : ext f (.v x) = f x := by rw [ext]
theorem ext_c (f : Int → Ty) (n : Nm) (ks : List Ty) : ext f (.c n ks) = .c n (ks.map (ext f)) := by rw [ext]; simp

/-- the variables of a tree, as often as they stand there -/
def vars : Ty → List Int
  | .v x => [x]
  | .c n ks => (ks.attach.map fun k => vars k.1).flatten
termination_by t => SizeOf.sizeOf t
decreasing_by
  have := List.sizeOf_lt_of_mem k.2
  simp only [Ty.c.sizeOf_spec]
  omega
theorem vars_v (x : Int) : vars (.v x) = [x] := by rw [vars]
theorem vars_c (n : Nm) (ks : List Ty) : vars (.c n ks) = (ks.map vars).flatten := by rw [vars]; simp
theorem mem_vars_c {n : Nm} {ks : List Ty} {x : Int} : x ∈ vars (.c n ks) ↔ ∃ k ∈ ks, x ∈ vars k := by
  rw [vars_c, List.mem_flatten]
  constructor
  · rintro ⟨l, hl, hx⟩
    obtain ⟨k, hk, rfl⟩ := List.mem_map.1 hl
    exact ⟨k, hk, hx⟩
  · rintro ⟨k, hk, hx⟩
    exact ⟨_, List.mem_map_of_mem hk, hx⟩

/-- how many parts -/
def sz : Ty → Nat
  | .v _ => 1
  | .c _ ks => 1 + (ks.attach.map fun k => sz k.1).sum
termination_by t => SizeOf.sizeOf t
decreasing_by
  have := List.sizeOf_lt_of_mem k.2
  simp only [Ty.c.sizeOf_spec]
  omega
theorem sz_v (x : Int) : sz (.v x) = 1 := by rw [sz]
theorem sz_c (n : Nm) (ks : List Ty) : sz (.c n ks) = 1 + (ks.map sz).sum := by rw [sz]; simp
theorem sz_pos : ∀ t, 1 ≤ sz t
  | .v x => by rw [sz_v]; omega
  | .c n ks => by rw [sz_c]; omega
theorem sum_mem_le {l : List Nat} {a : Nat} (h : a ∈ l) : a ≤ l.sum := by
  induction l with
  | nil => cases h
  | cons b l ih =>
    rw [List.sum_cons]
    rcases List.mem_cons.1 h with rfl | h
    · omega
    · have := ih h; omega
theorem sz_kid {n : Nm} {ks : List Ty} {k : Ty} (h : k ∈ ks) : sz k < sz (.c n ks) := by
  have := sum_mem_le (List.mem_map_of_mem (f := sz) h)
  rw [sz_c]; omega

theorem ext_id (t : Ty) : ext .v t = t := by
  induction t using Ty.ind with
  | hv x => rw [ext_v]
  | hc n ks ih =>
    rw [ext_c]
    congr 1
    exact (List.map_congr_left ih).trans (List.map_id ks)
theorem ext_congr {f g : Int → Ty} {t : Ty} (h : ∀ y ∈ vars t, f y = g y) : ext f t = ext g t := by
  induction t using Ty.ind with
  | hv x => rw [ext_v, ext_v]; exact h x (by rw [vars_v]; simp)
  | hc n ks ih =>
    rw [ext_c, ext_c]
    congr 1
    exact List.map_congr_left fun k hk => ih k hk fun y hy => h y (mem_vars_c.2 ⟨k, hk, hy⟩)
theorem ext_congr_iff {f g : Int → Ty} {t : Ty} : ext f t = ext g t ↔ ∀ y ∈ vars t, f y = g y := by
  refine ⟨fun h => ?_, ext_congr⟩
  induction t using Ty.ind with
  | hv x => intro y hy; rw [vars_v] at hy; simp at hy; subst hy; simpa [ext_v] using h
  | hc n ks ih =>
    intro y hy
    obtain ⟨k, hk, hy⟩ := mem_vars_c.1 hy
    rw [ext_c, ext_c] at h
    injection h with _ h
    exact ih k hk (List.map_inj_left.1 h k hk) y hy
theorem ext_comp (f g : Int → Ty) (t : Ty) : ext f (ext g t) = ext (fun y => ext f (g y)) t := by
  induction t using Ty.ind with
  | hv x => rw [ext_v, ext_v]
  | hc n ks ih =>
    rw [ext_c, ext_c, ext_c, List.map_map]
    congr 1
    exact List.map_congr_left ih
theorem mem_vars_ext {f : Int → Ty} {t : Ty} {y : Int} : y ∈ vars (ext f t) ↔ ∃ z ∈ vars t, y ∈ vars (f z) := by
  induction t using Ty.ind with
  | hv x => rw [ext_v, vars_v]; simp
  | hc n ks ih =>
    rw [ext_c, mem_vars_c]
    constructor
    · rintro ⟨k, hk, hy⟩
      obtain ⟨k', hk', rfl⟩ := List.mem_map.1 hk
      obtain ⟨z, hz, hy⟩ := (ih k' hk').1 hy
      exact ⟨z, mem_vars_c.2 ⟨k', hk', hz⟩, hy⟩
    · rintro ⟨z, hz, hy⟩
      obtain ⟨k, hk, hz⟩ := mem_vars_c.1 hz
      exact ⟨_, List.mem_map_of_mem hk, (ih k hk).2 ⟨z, hz, hy⟩⟩
theorem sz_ext_le {f : Int → Ty} {t : Ty} {y : Int} (h : y ∈ vars t) : sz (f y) ≤ sz (ext f t) := by
  induction t using Ty.ind with
  | hv x => rw [vars_v] at h; simp at h; subst h; rw [ext_v]; exact Nat.le_refl _
  | hc n ks ih =>
    obtain ⟨k, hk, hy⟩ := mem_vars_c.1 h
    have h1 := ih k hk hy
    have h2 := sz_kid (n := n) (List.mem_map_of_mem (f := ext f) hk)
    rw [ext_c]; omega
theorem sz_ext_lt {f : Int → Ty} {n : Nm} {ks : List Ty} {y : Int} (h : y ∈ vars (.c n ks)) : sz (f y) < sz (ext f (.c n ks)) := by
  obtain ⟨k, hk, hy⟩ := mem_vars_c.1 h
  have h1 := sz_ext_le (f := f) hy
  have h2 := sz_kid (n := n) (List.mem_map_of_mem (f := ext f) hk)
  rw [ext_c]; omega

/-! ### what variables stand for -/
abbrev Sg := List (Int × Ty)
def look : Sg → Int → Option Ty
  | [], _ => none
  | (k, t) :: r, x => if k = x then some t else look r x
theorem look_append (σ τ : Sg) (x : Int) : look (σ ++ τ) x = (look σ x).orElse fun _ => look τ x := by
  induction σ with
  | nil => rfl
  | cons b σ ih =>
    obtain ⟨k, t⟩ := b
    simp only [List.cons_append, look]
    split
    · rfl
    · exact ih
theorem look_snoc {σ : Sg} {x : Int} {u : Ty} (y : Int) (h : look σ x = none) : look (σ ++ [(x, u)]) y = if x = y then some u else look σ y := by
  rw [look_append]
  by_cases hxy : x = y
  · subst hxy; simp [h, look]
  · simp only [look, hxy, if_false]
    cases look σ y <;> rfl
theorem look_mem {σ : Sg} {x : Int} {u : Ty} (h : look σ x = some u) : (x, u) ∈ σ := by
  induction σ with
  | nil => cases h
  | cons b σ ih =>
    obtain ⟨k, t⟩ := b
    simp only [look] at h
    split at h
    · rename_i hk; subst hk; injection h with h; subst h; simp
    · exact List.mem_cons_of_mem _ (ih h)

def sub1 (x : Int) (s : Ty) : Int → Ty := fun y => if y = x then s else .v y
theorem sub1_self (x : Int) (s : Ty) : sub1 x s x = s := if_pos rfl
theorem sub1_ne {x y : Int} (s : Ty) (h : y ≠ x) : sub1 x s y = .v y := if_neg h
theorem sub1_out {x : Int} {s t : Ty} (h : x ∉ vars t) : ext (sub1 x s) t = t := by
  refine (ext_congr fun y hy => ?_).trans (ext_id t)
  exact sub1_ne s (fun e => h (e ▸ hy))

/-- what each variable stands for, all replaced -/
def th (σ : Sg) : Int → Ty := σ.foldl (fun f b y => ext (sub1 b.1 (ext f b.2)) (f y)) .v
theorem th_nil : th [] = .v := rfl
theorem th_snoc (σ : Sg) (x : Int) (u : Ty) : th (σ ++ [(x, u)]) = fun y => ext (sub1 x (ext (th σ) u)) (th σ y) := by
  unfold th
  rw [List.foldl_append]
  rfl
theorem th_snoc1 (σ : Sg) (x : Int) (u : Ty) (y : Int) : th (σ ++ [(x, u)]) y = ext (sub1 x (ext (th σ) u)) (th σ y) := by rw [th_snoc]
theorem ext_th_snoc (σ : Sg) (x : Int) (u t : Ty) : ext (th (σ ++ [(x, u)])) t = ext (sub1 x (ext (th σ) u)) (ext (th σ) t) := by
  rw [ext_comp, th_snoc]

/-- each binding was new, and its variable doesn't occur in what it stands for -/
inductive WF : Sg → Prop
  | nil : WF []
  | snoc {σ : Sg} {x : Int} {u : Ty} : WF σ → look σ x = none → x ∉ vars (ext (th σ) u) → WF (σ ++ [(x, u)])

theorem WF.unb {σ : Sg} (h : WF σ) {y : Int} (hy : look σ y = none) : th σ y = .v y := by
  induction h with
  | nil => rfl
  | @snoc σ x u hw hn ho ih =>
    rw [look_snoc y hn] at hy
    split at hy
    · cases hy
    · rename_i hxy
      rw [th_snoc1, ih hy, ext_v, sub1_ne _ (fun e => hxy e.symm)]
theorem WF.bnd {σ : Sg} (h : WF σ) {y : Int} {t : Ty} (hy : look σ y = some t) : th σ y = ext (th σ) t := by
  induction h with
  | nil => cases hy
  | @snoc σ x u hw hn ho ih =>
    rw [look_snoc y hn] at hy
    rw [ext_th_snoc]
    split at hy
    · rename_i hxy
      subst hxy
      injection hy with hy
      subst hy
      rw [th_snoc1, hw.unb hn, ext_v, sub1_self, sub1_out ho]
    · rw [th_snoc1, ih hy]
theorem WF.gone {σ : Sg} (h : WF σ) {y : Int} {t : Ty} (hy : look σ y = some t) : ∀ z, y ∉ vars (th σ z) := by
  induction h with
  | nil => cases hy
  | @snoc σ x u hw hn ho ih =>
    intro z hz
    rw [look_snoc y hn] at hy
    rw [th_snoc1, mem_vars_ext] at hz
    obtain ⟨a, ha, hya⟩ := hz
    unfold sub1 at hya
    split at hy
    · rename_i hxy
      subst hxy
      split at hya
      · exact ho hya
      · rename_i hne
        rw [vars_v] at hya
        simp at hya
        exact hne hya.symm
    · split at hya
      · obtain ⟨b, hb, hyb⟩ := mem_vars_ext.1 hya
        exact ih hy b hyb
      · rw [vars_v] at hya
        simp at hya
        subst hya
        exact ih hy z ha
theorem WF.goneT {σ : Sg} (h : WF σ) {y : Int} {t u : Ty} (hy : look σ y = some t) : y ∉ vars (ext (th σ) u) := fun hz => by
  obtain ⟨a, _, ha⟩ := mem_vars_ext.1 hz
  exact h.gone hy a ha
theorem WF.idem {σ : Sg} (h : WF σ) (t : Ty) : ext (th σ) (ext (th σ) t) = ext (th σ) t := by
  refine (ext_congr fun y hy => ?_).trans (ext_id _)
  cases hl : look σ y with
  | none => exact h.unb hl
  | some u => exact absurd hy (h.goneT hl)
theorem WF.idem1 {σ : Sg} (h : WF σ) (z : Int) : ext (th σ) (th σ z) = th σ z := by
  have := h.idem (.v z)
  simpa only [ext_v] using this

/-- ranks fall along bindings -/
def Rk (σ : Sg) (W : Int → Nat) : Prop := ∀ x u, look σ x = some u → ∀ y ∈ vars u, W y < W x
theorem list_bound (W : Int → Nat) (l : List Int) : ∃ M, ∀ y ∈ l, W y ≤ M := by
  induction l with
  | nil => exact ⟨0, fun y h => by cases h⟩
  | cons a l ih =>
    obtain ⟨M, h⟩ := ih
    refine ⟨M + W a, fun y hy => ?_⟩
    rcases List.mem_cons.1 hy with rfl | hy
    · omega
    · have := h y hy; omega
theorem WF.rank {σ : Sg} (h : WF σ) : ∃ W, Rk σ W := by
  induction h with
  | nil => exact ⟨fun _ => 0, fun x u h => by cases h⟩
  | @snoc σ x u hw hn ho ih =>
    obtain ⟨W, hW⟩ := ih
    obtain ⟨M, hM⟩ := list_bound W (vars u)
    refine ⟨fun z => W z + if x ∈ vars (th σ z) then 1 + M else 0, fun a t ha y hy => ?_⟩
    simp only
    rw [look_snoc a hn] at ha
    split at ha
    · rename_i hxa
      subst hxa
      injection ha with ha
      subst ha
      have h1 : x ∉ vars (th σ y) := fun hx => ho (mem_vars_ext.2 ⟨y, hy, hx⟩)
      have h2 : x ∈ vars (th σ x) := by rw [hw.unb hn, vars_v]; simp
      rw [if_neg h1, if_pos h2]
      have := hM y hy
      omega
    · have h1 := hW a t ha y hy
      by_cases h2 : x ∈ vars (th σ y)
      · have h3 : x ∈ vars (th σ a) := by rw [hw.bnd ha]; exact mem_vars_ext.2 ⟨y, hy, h2⟩
        rw [if_pos h2, if_pos h3]; omega
      · rw [if_neg h2]; omega

/-- a substitution that meets the bindings -/
def Sol (τ : Int → Ty) (σ : Sg) : Prop := ∀ x u, look σ x = some u → τ x = ext τ u
theorem WF.sol {σ : Sg} (h : WF σ) : Sol (th σ) σ := fun _ _ hx => h.bnd hx
theorem Sol.th {σ : Sg} {τ : Int → Ty} (hw : WF σ) (h : Sol τ σ) (z : Int) : ext τ (th σ z) = τ z := by
  obtain ⟨W, hW⟩ := hw.rank
  have key : ∀ m z, W z < m → ext τ (Go.Proofs.Ytncakfcafkfmfaa.th σ z) = τ z := by
    intro m
    induction m with
    | zero => intro z hz; omega
    | succ m ih =>
      intro z hz
      cases hl : look σ z with
      | none => rw [hw.unb hl, ext_v]
      | some u =>
        rw [hw.bnd hl, ext_comp, h z u hl]
        exact ext_congr fun y hy => ih y (by have := hW z u hl y hy; omega)
  exact key _ z (Nat.lt_succ_self _)
theorem Sol.ext {σ : Sg} {τ : Int → Ty} (hw : WF σ) (h : Sol τ σ) (t : Ty) : ext τ (ext (Go.Proofs.Ytncakfcafkfmfaa.th σ) t) = ext τ t := by
  rw [ext_comp]
  exact ext_congr fun y _ => h.th hw y
def Sub (σ σ' : Sg) : Prop := ∀ x u, look σ x = some u → look σ' x = some u
theorem Sub.refl (σ : Sg) : Sub σ σ := fun _ _ h => h
theorem Sub.trans {σ σ1 σ2 : Sg} (h : Sub σ σ1) (h' : Sub σ1 σ2) : Sub σ σ2 := fun x u hx => h' x u (h x u hx)
theorem Sub.snoc (σ : Sg) (x : Int) (u : Ty) : Sub σ (σ ++ [(x, u)]) := fun y t h => by rw [look_append, h]; rfl
theorem Sol.sub {σ σ' : Sg} {τ : Int → Ty} (h : Sol τ σ') (hs : Sub σ σ') : Sol τ σ := fun x u hx => h x u (hs x u hx)
end Go.Proofs.Ytncakfcafkfmfaa
