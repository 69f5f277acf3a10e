/-
  law 06, the plain part: the document's example; a ring; what is most general; once more. No program in sight.
-/
import Derived.Test.YtncakfcafkfmfaaTyU
namespace Go.Proofs.Ytncakfcafkfmfaa
open Go
set_option linter.unusedSimpArgs false
set_option linter.unusedVariables false

def nArrow : Nm := ⟨[45, 62], by decide⟩
def nInt : Nm := ⟨[105, 110, 116], by decide⟩
def nBool : Nm := ⟨[98, 111, 111, 108], by decide⟩
def nList : Nm := ⟨[108, 105, 115, 116], by decide⟩
def nRef : Nm := ⟨[114, 101, 102], by decide⟩
theorem Good.nil (U : List Int) : Good U [] := ⟨.nil, fun x u h => by cases h⟩
theorem Sol.nil (τ : Int → Ty) : Sol τ [] := fun x u h => by cases h

theorem awake_un : ∃ σ' D' N, unF N [] [] (.c nArrow [.v 1, .c nInt []]) (.c nArrow [.c nBool [], .v 2]) = some (true, σ', D') ∧ WF σ' ∧ th σ' 1 = .c nBool [] ∧ th σ' 2 = .c nInt [] := by
  obtain ⟨r, σ', D', N, hN, R⟩ := Good.un (U := [1, 2]) (by decide) (Good.nil _) (D := []) (fun p hp => by cases hp) (a := .c nArrow [.v 1, .c nInt []]) (b := .c nArrow [.c nBool [], .v 2])
    (fun y hy => by simp [vars_c, vars_v] at hy; simp [hy]) (fun y hy => by simp [vars_c, vars_v] at hy; simp [hy])
  obtain ⟨h1, _⟩ := R.gen (fun x => if x = 1 then .c nBool [] else .c nInt []) (Sol.nil _) (by simp [ext_c, ext_v])
  have h2 := R.eq h1
  simp only [List.map_cons, List.map_nil, ext_c, ext_v, List.cons.injEq, Ty.c.injEq, and_true, true_and] at h2
  exact ⟨σ', D', N, h1 ▸ hN N (Nat.le_refl _), R.good.wf, h2.1, h2.2.symm⟩

/-! ### rings -/
/-- list of list of .. of a variable -/
def lists : Nat → Ty → Ty
  | 0, t => t
  | n + 1, t => .c nList [lists n t]
theorem sz_lists (n : Nat) (t : Ty) : sz (lists n t) = n + sz t := by
  induction n with
  | zero => simp [lists]
  | succ n ih => simp only [lists, sz_c, List.map_cons, List.map_nil, List.sum_cons, List.sum_nil, ih]; omega
/-- variables up to k, each a list of the next one -/
def upto (k : Nat) : List Int := (List.range (k + 1)).map fun (i : Nat) => (i : Int)
theorem mem_upto {k : Nat} {x : Int} : x ∈ upto k ↔ 0 ≤ x ∧ x ≤ k := by
  simp only [upto, List.mem_map, List.mem_range]
  constructor
  · rintro ⟨i, hi, rfl⟩; omega
  · intro h; exact ⟨x.toNat, by omega, by omega⟩
/-- what the variables stand for at the end -/
def ringS (k : Nat) : Int → Ty := fun x => if 1 ≤ x ∧ x ≤ k then lists (k - x.toNat) (.v k) else .v x
structure Ring (k : Nat) (i : Nat) (σ : Sg) (D : Dn) : Prop where
  good : Good (upto 20) σ
  done : ∀ p ∈ D, th σ p.1 = th σ p.2
  sol : Sol (ringS k) σ
  eqs : ∀ j : Nat, 1 ≤ j → j < i → th σ (j : Int) = .c nList [th σ ((j : Int) + 1)]
theorem Ring.start (k : Nat) : Ring k 1 [] [] := ⟨Good.nil _, fun p h => (by cases h), Sol.nil _, fun j h1 h2 => by omega⟩
theorem Ring.next {k i : Nat} {σ : Sg} {D : Dn} (h : Ring k i σ D) (h1 : 1 ≤ i) (h2 : i < k) (hk : k ≤ 20) :
    ∃ σ' D' N, unF N σ D (.v (i : Int)) (.c nList [.v ((i : Int) + 1)]) = some (true, σ', D') ∧ Ring k (i + 1) σ' D' := by
  obtain ⟨r, σ', D', N, hN, R⟩ := Good.un (U := upto 20) (by decide) h.good h.done (a := .v (i : Int)) (b := .c nList [.v ((i : Int) + 1)])
    (fun y hy => by simp [vars_v] at hy; rw [mem_upto]; omega) (fun y hy => by simp [vars_c, vars_v] at hy; rw [mem_upto]; omega)
  obtain ⟨e1, e2⟩ := R.gen (ringS k) h.sol (by
    have ha : (1 : Int) ≤ i ∧ (i : Int) ≤ k := by omega
    have hb : (1 : Int) ≤ (i : Int) + 1 ∧ (i : Int) + 1 ≤ k := by omega
    simp only [List.map_cons, List.map_nil, ext_v, ext_c, ringS, ha, hb, and_self, if_true, List.cons.injEq, and_true]
    have e : k - (i : Int).toNat = (k - ((i : Int) + 1).toNat) + 1 := by omega
    rw [e]
    rfl)
  have e3 := R.eq e1
  simp only [List.map_cons, List.map_nil, ext_c, ext_v, List.cons.injEq, and_true] at e3
  have hs : Sol (th σ') σ := R.good.wf.sol.sub R.sub
  have up : ∀ {a b : Ty}, ext (th σ) a = ext (th σ) b → ext (th σ') a = ext (th σ') b := fun h' => eq_th_of_sol h.good.wf hs h'
  refine ⟨σ', D', N, e1 ▸ hN N (Nat.le_refl _), R.good, fun p hp => ?_, e2, fun j h3 h4 => ?_⟩
  · rcases R.done e1 p hp with h' | h'
    · have := up (a := .v p.1) (b := .v p.2) (by rw [ext_v, ext_v]; exact h.done p h')
      simpa only [ext_v] using this
    · exact h'
  · by_cases hj : j = i
    · subst hj; exact e3
    · have h5 := h.eqs j h3 (by omega)
      have := up (a := .v (j : Int)) (b := .c nList [.v ((j : Int) + 1)]) (by simp only [ext_v, ext_c, List.map_cons, List.map_nil]; exact h5)
      simpa only [ext_v, ext_c, List.map_cons, List.map_nil] using this
theorem Ring.last {k : Nat} {σ : Sg} {D : Dn} (h : Ring k k σ D) (h1 : 1 ≤ k) (hk : k ≤ 20) :
    ∃ σ' D' N, unF N σ D (.v (k : Int)) (.v (k : Int)) = some (true, σ', D') ∧ ∃ σ2 D2 N2, unF N2 σ' D' (.v (k : Int)) (.c nRef [.v 1]) = some (false, σ2, D2) := by
  obtain ⟨r, σ', D', N, hN, R⟩ := Good.un (U := upto 20) (by decide) h.good h.done (a := .v (k : Int)) (b := .v (k : Int))
    (fun y hy => by simp [vars_v] at hy; rw [mem_upto]; omega) (fun y hy => by simp [vars_v] at hy; rw [mem_upto]; omega)
  obtain ⟨e1, e2⟩ := R.same rfl
  subst e1 e2
  have hd : ∀ p ∈ D', th σ' p.1 = th σ' p.2 := fun p hp => by
    rcases R.done rfl p hp with h' | h'
    · exact h.done p h'
    · exact h'
  obtain ⟨r2, σ2, D2, N2, hN2, R2⟩ := Good.un (U := upto 20) (by decide) h.good hd (a := .v (k : Int)) (b := .c nRef [.v 1])
    (fun y hy => by simp [vars_v] at hy; rw [mem_upto]; omega) (fun y hy => by simp [vars_c, vars_v] at hy; rw [mem_upto]; omega)
  refine ⟨σ', D', N, hN N (Nat.le_refl _), σ2, D2, N2, ?_⟩
  cases r2 with
  | false => exact hN2 N2 (Nat.le_refl _)
  | true =>
    exfalso
    have e3 := R2.eq rfl
    simp only [List.map_cons, List.map_nil, ext_c, ext_v, List.cons.injEq, and_true] at e3
    have hs : Sol (th σ2) σ' := R2.good.wf.sol.sub R2.sub
    have hj : ∀ d : Nat, d < k → th σ2 ((k - d : Nat) : Int) = lists d (th σ2 (k : Int)) := by
      intro d
      induction d with
      | zero => intro _; rfl
      | succ d ih =>
        intro hd'
        have h5 := h.eqs (k - (d + 1)) (by omega) (by omega)
        have := eq_th_of_sol (a := .v ((k - (d + 1) : Nat) : Int)) (b := .c nList [.v (((k - (d + 1) : Nat) : Int) + 1)]) h.good.wf hs (by simp only [ext_v, ext_c, List.map_cons, List.map_nil]; exact h5)
        simp only [ext_v, ext_c, List.map_cons, List.map_nil] at this
        rw [this]
        have e : ((k - (d + 1) : Nat) : Int) + 1 = ((k - d : Nat) : Int) := by omega
        rw [e, ih (by omega)]
        rfl
    have h6 := hj (k - 1) (by omega)
    have e : ((k - (k - 1) : Nat) : Int) = 1 := by omega
    rw [e] at h6
    rw [h6] at e3
    have h7 := congrArg sz e3
    simp only [sz_c, List.map_cons, List.map_nil, List.sum_cons, List.sum_nil, sz_lists] at h7
    omega

/-! ### once, and again -/
theorem Good.vars {U : List Int} {σ : Sg} (g : Good U σ) {t : Ty} (ht : ∀ y ∈ vars t, y ∈ U) : ∀ y ∈ vars (ext (th σ) t), y ∈ U := by
  obtain ⟨W, hW⟩ := g.wf.rank
  have key : ∀ m z, W z < m → z ∈ U → ∀ y ∈ Go.Proofs.Ytncakfcafkfmfaa.vars (th σ z), y ∈ U := by
    intro m
    induction m with
    | zero => intro z hz; omega
    | succ m ih =>
      intro z hz hU y hy
      cases hl : look σ z with
      | none => rw [g.wf.unb hl, vars_v] at hy; simp at hy; subst hy; exact hU
      | some u =>
        rw [g.wf.bnd hl] at hy
        obtain ⟨x, hx, hy⟩ := mem_vars_ext.1 hy
        exact ih x (by have := hW z u hl x hx; omega) ((g.inU z u hl).2 x hx) y hy
  intro y hy
  obtain ⟨z, hz, hy⟩ := mem_vars_ext.1 hy
  exact key _ z (Nat.lt_succ_self _) (ht z hz) y hy
/-- a state in which all pairs are one -/
structure Fine (U : List Int) (σ : Sg) (D : Dn) : Prop where
  good : Good U σ
  done : ∀ p ∈ D, th σ p.1 = th σ p.2
theorem Fine.nil (U : List Int) : Fine U [] [] := ⟨Good.nil _, fun p h => (by cases h)⟩
theorem Fine.un {U : List Int} (hU9 : U.length ≤ 1000000000) {σ : Sg} {D : Dn} (h : Fine U σ D) {a b : Ty} (ha : ∀ y ∈ vars a, y ∈ U) (hb : ∀ y ∈ vars b, y ∈ U) :
    ∃ r σ' D' N, unF N σ D a b = some (r, σ', D') ∧ Good U σ' ∧ Sub σ σ' ∧ (r = true → Fine U σ' D' ∧ ext (th σ') a = ext (th σ') b) ∧ (∀ τ, Sol τ σ → ext τ a = ext τ b → r = true ∧ Sol τ σ') := by
  obtain ⟨r, σ', D', N, hN, R⟩ := Good.un hU9 h.good h.done ha hb
  refine ⟨r, σ', D', N, hN N (Nat.le_refl _), R.good, R.sub, fun hr => ⟨⟨R.good, fun p hp => ?_⟩, ?_⟩, fun τ hτ he => R.gen τ hτ (by simpa using he)⟩
  · rcases R.done hr p hp with h' | h'
    · have := eq_th_of_sol (a := .v p.1) (b := .v p.2) h.good.wf (R.good.wf.sol.sub R.sub) (by rw [ext_v, ext_v]; exact h.done p h')
      simpa only [ext_v] using this
    · exact h'
  · simpa using R.eq hr
theorem Fine.again {U : List Int} (hU9 : U.length ≤ 1000000000) {σ : Sg} {D : Dn} (h : Fine U σ D) {a b : Ty} (ha : ∀ y ∈ vars a, y ∈ U) (hb : ∀ y ∈ vars b, y ∈ U) (he : ext (th σ) a = ext (th σ) b) :
    ∃ D' N, unF N σ D a b = some (true, σ, D') ∧ Fine U σ D' := by
  obtain ⟨r, σ', D', N, hN, R⟩ := Good.un hU9 h.good h.done ha hb
  obtain ⟨rfl, rfl⟩ := R.same (by simpa using he)
  refine ⟨D', N, hN N (Nat.le_refl _), h.good, fun p hp => ?_⟩
  rcases R.done rfl p hp with h' | h'
  · exact h.done p h'
  · exact h'
theorem ap8 {t : Ty} (ht : ∀ x ∈ vars t, 1 ≤ x ∧ x ≤ 1000) {b : Int} : ∀ y ∈ vars (ext (fun x => Ty.v (x % 8 + b)) t), b ≤ y ∧ y ≤ b + 7 := fun y hy => by
  obtain ⟨z, hz, hy⟩ := mem_vars_ext.1 hy
  rw [vars_v] at hy
  simp at hy
  subst hy
  have := ht z hz
  omega

/-! ### the most general -/
def putT : List Int → List Ty → Int → Ty
  | v :: vs, l :: ls, x => if v = x then l else putT vs ls x
  | _, _, x => .v x
theorem putT_cases : ∀ (vs : List Int) (ls : List Ty) (x : Int), putT vs ls x ∈ ls ∨ (putT vs ls x = .v x ∧ (vs.length = ls.length → x ∉ vs))
  | [], ls, x => .inr ⟨by simp [putT], fun _ h => by cases h⟩
  | v :: vs, [], x => .inr ⟨by simp [putT], fun h => by simp at h⟩
  | v :: vs, l :: ls, x => by
    simp only [putT]
    split
    · exact .inl (by simp)
    · rename_i hv
      rcases putT_cases vs ls x with h | ⟨h1, h2⟩
      · exact .inl (List.mem_cons_of_mem _ h)
      · refine .inr ⟨h1, fun hl hx => ?_⟩
        rcases List.mem_cons.1 hx with h | h
        · exact hv h.symm
        · exact h2 (by simpa using hl) h
theorem upto_len (k : Nat) : (upto k).length = k + 1 := by simp [upto]
theorem general {X Y : Ty} {vs : List Int} {ls : List Ty} (hX : ∀ y ∈ vars X, 1 ≤ y ∧ y ≤ 8) (hY : ∀ y ∈ vars Y, 1 ≤ y ∧ y ≤ 8) (hvs : ∀ y ∈ vs, y ≤ 8) (hl : vs.length = ls.length) (hls : ∀ t ∈ ls, ∀ y ∈ vars t, 100 ≤ y ∧ y ≤ 107) (he : ext (putT vs ls) X = ext (putT vs ls) Y) :
    ∃ σ D N, unF N [] [] X Y = some (true, σ, D) ∧ WF σ ∧ ∃ σ2 D2 N2, unF N2 σ D (ext (th σ) X) (ext (putT vs ls) X) = some (true, σ2, D2) := by
  have hU9 : (upto 120).length ≤ 1000000000 := by rw [upto_len]; decide
  have hXU : ∀ y ∈ vars X, y ∈ upto 120 := fun y hy => by have := hX y hy; rw [mem_upto]; omega
  have hYU : ∀ y ∈ vars Y, y ∈ upto 120 := fun y hy => by have := hY y hy; rw [mem_upto]; omega
  obtain ⟨r, σ, D, N, hun, hg, hsub, hok, hgen⟩ := (Fine.nil (upto 120)).un hU9 hXU hYU
  obtain ⟨h1, h2⟩ := hgen _ (Sol.nil _) he
  subst h1
  obtain ⟨hF, hxy⟩ := hok rfl
  have hP : ∀ y ∈ vars (ext (putT vs ls) X), y ∈ upto 120 := fun y hy => by
    obtain ⟨z, hz, hy⟩ := mem_vars_ext.1 hy
    have hz' := hX z hz
    rw [mem_upto]
    rcases putT_cases vs ls z with h | ⟨h, _⟩
    · have := hls _ h y hy; omega
    · rw [h, vars_v] at hy; simp at hy; omega
  have id1 : ∀ z, 1 ≤ z ∧ z ≤ 8 → ext (putT vs ls) (putT vs ls z) = putT vs ls z := fun z hz => by
    rcases putT_cases vs ls z with h | ⟨h, _⟩
    · refine (ext_congr fun y hy => ?_).trans (ext_id _)
      have hy' := hls _ h y hy
      rcases putT_cases vs ls y with h3 | ⟨h3, _⟩
      · have key : ∀ (vs : List Int) (ls : List Ty), (∀ y ∈ vs, y ≤ 8) → 100 ≤ y → putT vs ls y = .v y := by
          intro vs
          induction vs with
          | nil => intro ls _ _; simp [putT]
          | cons v vs ih =>
            intro ls hv h100
            cases ls with
            | nil => simp [putT]
            | cons l ls =>
              have := hv v (by simp)
              have hne : ¬ v = y := by omega
              simp only [putT, hne, if_false]
              exact ih ls (fun y hy => hv y (List.mem_cons_of_mem _ hy)) h100
        exact key vs ls hvs hy'.1
      · exact h3
    · rw [h, ext_v, h]
  have hPP : ext (putT vs ls) (ext (putT vs ls) X) = ext (putT vs ls) X := by
    rw [ext_comp]
    exact ext_congr fun z hz => id1 z (hX z hz)
  obtain ⟨r2, σ2, D2, N2, hun2, _, _, _, hgen2⟩ := hF.un hU9 (hg.vars hXU) hP
  obtain ⟨h3, _⟩ := hgen2 _ h2 (by rw [h2.ext hg.wf, hPP])
  subst h3
  exact ⟨σ, D, N, hun, hg.wf, σ2, D2, N2, hun2⟩
end Go.Proofs.Ytncakfcafkfmfaa
