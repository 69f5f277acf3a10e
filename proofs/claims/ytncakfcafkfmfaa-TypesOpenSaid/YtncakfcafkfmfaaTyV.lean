/-
  types closed: variables numbered in their order; two that are made of one another are closed alike. No program in sight.
-/
import Derived.Test.YtncakfcafkfmfaaTyW
namespace Go.Proofs.Ytncakfcafkfmfaa
open Go
set_option linter.unusedSimpArgs false
set_option linter.unusedVariables false

/-- numbers behind a list, each once -/
def nubA (l xs : List Int) : List Int := xs.foldl (fun l x => if x ∈ l then l else l ++ [x]) l
theorem nubA_nil (l : List Int) : nubA l [] = l := rfl
theorem nubA_cons (l : List Int) (x : Int) (xs : List Int) : nubA l (x :: xs) = nubA (if x ∈ l then l else l ++ [x]) xs := rfl
theorem nubA_append (l xs ys : List Int) : nubA l (xs ++ ys) = nubA (nubA l xs) ys := by simp [nubA, List.foldl_append]
theorem nubA_len : ∀ (xs l : List Int), l.length ≤ (nubA l xs).length ∧ (nubA l xs).length ≤ l.length + xs.length
  | [], l => ⟨Nat.le_refl _, by simp [nubA]⟩
  | x :: xs, l => by
    rw [nubA_cons]
    split
    · have := nubA_len xs l; simp only [List.length_cons]; omega
    · have := nubA_len xs (l ++ [x]); simp only [List.length_append, List.length_cons, List.length_nil] at this ⊢; omega
theorem mem_nubA : ∀ (xs l : List Int) (y : Int), y ∈ nubA l xs ↔ y ∈ l ∨ y ∈ xs
  | [], l, y => by simp [nubA]
  | x :: xs, l, y => by
    rw [nubA_cons, mem_nubA xs]
    split
    · rename_i h
      constructor
      · rintro (h1 | h1)
        · exact .inl h1
        · exact .inr (List.mem_cons_of_mem _ h1)
      · rintro (h1 | h1)
        · exact .inl h1
        · rcases List.mem_cons.1 h1 with rfl | h1
          · exact .inl h
          · exact .inr h1
    · simp only [List.mem_append, List.mem_cons, List.not_mem_nil, or_false]
      constructor
      · rintro ((h1 | h1) | h1)
        · exact .inl h1
        · exact .inr (.inl h1)
        · exact .inr (.inr h1)
      · rintro (h1 | h1 | h1)
        · exact .inl (.inl h1)
        · exact .inl (.inr h1)
        · exact .inr h1
theorem nubA_nodup : ∀ (xs l : List Int), l.Nodup → (nubA l xs).Nodup
  | [], l, h => h
  | x :: xs, l, h => by
    rw [nubA_cons]
    split
    · exact nubA_nodup xs l h
    · rename_i hx
      refine nubA_nodup xs _ ?_
      rw [List.nodup_append]
      exact ⟨h, by simp, fun a ha b hb => by simp at hb; subst hb; exact fun e => hx (e ▸ ha)⟩
/-- numbers that are renamed without two becoming one -/
theorem nubA_map {f : Int → Int} : ∀ (xs l : List Int), (∀ a b, a ∈ l ∨ a ∈ xs → b ∈ l ∨ b ∈ xs → f a = f b → a = b) → nubA (l.map f) (xs.map f) = (nubA l xs).map f
  | [], l, _ => rfl
  | x :: xs, l, h => by
    rw [List.map_cons, nubA_cons, nubA_cons]
    have hiff : f x ∈ l.map f ↔ x ∈ l := by
      constructor
      · intro hm
        obtain ⟨a, ha, e⟩ := List.mem_map.1 hm
        have := h a x (.inl ha) (.inr (by simp)) e
        exact this ▸ ha
      · exact fun hm => List.mem_map_of_mem hm
    by_cases hx : x ∈ l
    · rw [if_pos (hiff.2 hx), if_pos hx]
      exact nubA_map xs l fun a b ha hb => h a b (ha.imp (fun h => h) (List.mem_cons_of_mem _)) (hb.imp (fun h => h) (List.mem_cons_of_mem _))
    · rw [if_neg (fun h => hx (hiff.1 h)), if_neg hx]
      have e : l.map f ++ [f x] = (l ++ [x]).map f := by simp
      rw [e]
      refine nubA_map xs (l ++ [x]) fun a b ha hb => h a b ?_ ?_
      · rcases ha with ha | ha
        · rcases List.mem_append.1 ha with ha | ha
          · exact .inl ha
          · simp at ha; subst ha; exact .inr (by simp)
        · exact .inr (List.mem_cons_of_mem _ ha)
      · rcases hb with hb | hb
        · rcases List.mem_append.1 hb with hb | hb
          · exact .inl hb
          · simp at hb; subst hb; exact .inr (by simp)
        · exact .inr (List.mem_cons_of_mem _ hb)

/-- the numbers from 1 on; as variables -/
def onesL (n : Nat) : List Int := (List.range n).map fun (j : Nat) => (j : Int) + 1
theorem onesL_len (n : Nat) : (onesL n).length = n := by simp [onesL]
theorem onesL_succ (n : Nat) : onesL (n + 1) = onesL n ++ [(n : Int) + 1] := by simp [onesL, List.range_succ]
theorem mem_onesL {n : Nat} {y : Int} (h : y ∈ onesL n) : 1 ≤ y ∧ y ≤ n := by
  simp only [onesL, List.mem_map, List.mem_range] at h
  obtain ⟨j, hj, rfl⟩ := h
  omega
def varsOf (t : Ty) : List Int := nubA [] (vars t)
/-- a type, its variables numbered in their order -/
def canon (t : Ty) : Ty := ext (putT (varsOf t) ((onesL (varsOf t).length).map Ty.v)) t

theorem putT_map {f : Int → Int} : ∀ {vs : List Int} {ls : List Ty} {x : Int}, (∀ a, a ∈ vs → f a = f x → a = x) → vs.length = ls.length → x ∈ vs → putT (vs.map f) ls (f x) = putT vs ls x
  | [], ls, x, _, _, hx => by cases hx
  | v :: vs, [], x, _, hl, _ => by simp at hl
  | v :: vs, l :: ls, x, h, hl, hx => by
    simp only [List.map_cons, putT]
    by_cases hv : v = x
    · subst hv; simp
    · have hfv : ¬ f v = f x := fun e => hv (h v (by simp) e)
      simp only [hv, hfv, if_false]
      refine putT_map (fun a ha => h a (List.mem_cons_of_mem _ ha)) (by simpa using hl) ?_
      rcases List.mem_cons.1 hx with e | hx
      · exact absurd e.symm hv
      · exact hx
theorem vars_ext_v {f : Int → Int} (t : Ty) : vars (ext (fun x => .v (f x)) t) = (vars t).map f := by
  induction t using Ty.ind with
  | hv x => rw [ext_v, vars_v, vars_v]; rfl
  | hc n ks ih =>
    rw [ext_c, vars_c, vars_c, List.map_map, List.map_flatten, List.map_map]
    congr 1
    exact List.map_congr_left ih
/-- variables renamed without two becoming one: it is closed as before -/
theorem canon_rename {f : Int → Int} {t : Ty} (h : ∀ a b, a ∈ vars t → b ∈ vars t → f a = f b → a = b) : canon (ext (fun x => .v (f x)) t) = canon t := by
  have h1 : varsOf (ext (fun x => .v (f x)) t) = (varsOf t).map f := by
    unfold varsOf
    rw [vars_ext_v]
    exact nubA_map (f := f) (vars t) [] fun a b ha hb => h a b (by simpa using ha) (by simpa using hb)
  unfold canon
  rw [h1, List.length_map, ext_comp]
  refine ext_congr fun y hy => ?_
  rw [ext_v]
  have hm : y ∈ varsOf t := (mem_nubA _ _ _).2 (.inr hy)
  refine putT_map (fun a ha => ?_) (by simp [onesL_len]) hm
  have ha' : a ∈ vars t := by
    rcases (mem_nubA _ _ _).1 ha with h | h
    · cases h
    · exact h
  exact h a y ha' hy
/-- two types, each made of the other one -/
theorem canon_variant {t u : Ty} {f g : Int → Ty} (h1 : ext f t = u) (h2 : ext g u = t) : canon t = canon u := by
  have hfg : ∀ y ∈ vars t, ext g (f y) = .v y := by
    have : ext (fun y => ext g (f y)) t = ext .v t := by rw [← ext_comp, h1, h2, ext_id]
    exact ext_congr_iff.1 this
  have hv : ∀ y ∈ vars t, ∃ z, f y = .v z := fun y hy => by
    have := hfg y hy
    cases hf : f y with
    | v z => exact ⟨z, rfl⟩
    | c n ks => rw [hf, ext_c] at this; cases this
  let r : Int → Int := fun y => match f y with
    | .v z => z
    | .c _ _ => 0
  have hr : ∀ y ∈ vars t, f y = .v (r y) := fun y hy => by
    obtain ⟨z, hz⟩ := hv y hy
    simp only [r, hz]
  have hu : u = ext (fun x => .v (r x)) t := by
    rw [← h1]
    exact ext_congr hr
  rw [hu]
  refine (canon_rename fun a b ha hb e => ?_).symm
  have e1 := hfg a ha
  have e2 := hfg b hb
  rw [hr a ha, ext_v] at e1
  rw [hr b hb, ext_v, ← e, e1] at e2
  injection e2

/-! ### which is named first, and in which order -/
def nStar : Nm := ⟨[42], by decide⟩
/-- pairs made one, one behind the other, so far as they can be -/
inductive Run (U : List Int) : List (Ty × Ty) → Bool → Sg → Dn → Prop
  | nil : Run U [] true [] []
  | ok {l : List (Ty × Ty)} {σ σ' : Sg} {D D' : Dn} {a b : Ty} {r : Bool} {N : Nat} : Run U l true σ D → unF N σ D a b = some (r, σ', D') → Good U σ' → Sub σ σ' → (r = true → Fine U σ' D' ∧ ext (th σ') a = ext (th σ') b) → (∀ τ, Sol τ σ → ext τ a = ext τ b → r = true ∧ Sol τ σ') → Run U (l ++ [(a, b)]) r σ' D'
  | no {l : List (Ty × Ty)} {σ : Sg} {D : Dn} {p : Ty × Ty} : Run U l false σ D → Run U (l ++ [p]) false σ D
theorem Run.facts {U : List Int} {l : List (Ty × Ty)} {r : Bool} {σ : Sg} {D : Dn} (h : Run U l r σ D) : Good U σ ∧ (r = true → Fine U σ D ∧ ∀ p ∈ l, ext (th σ) p.1 = ext (th σ) p.2) ∧ (∀ τ : Int → Ty, (∀ p ∈ l, ext τ p.1 = ext τ p.2) → r = true ∧ Sol τ σ) := by
  induction h with
  | nil => exact ⟨Good.nil _, fun _ => ⟨Fine.nil _, fun p h => by cases h⟩, fun τ _ => ⟨rfl, Sol.nil _⟩⟩
  | @ok l σ σ' D D' a b r N h0 hun hg hsub hok hgen ih =>
    obtain ⟨g0, ih1, ih2⟩ := ih
    refine ⟨hg, fun hr => ⟨(hok hr).1, fun p hp => ?_⟩, fun τ hτ => ?_⟩
    · rcases List.mem_append.1 hp with hp | hp
      · exact eq_th_of_sol g0.wf (hg.wf.sol.sub hsub) ((ih1 rfl).2 p hp)
      · simp at hp; subst hp; exact (hok hr).2
    · exact hgen τ (ih2 τ fun p hp => hτ p (List.mem_append_left _ hp)).2 (hτ (a, b) (by simp))
  | @no l σ D p h0 ih =>
    obtain ⟨g0, ih1, ih2⟩ := ih
    refine ⟨g0, fun h => Bool.noConfusion h, fun τ hτ => ?_⟩
    have := (ih2 τ fun p hp => hτ p (List.mem_append_left _ hp)).1
    cases this
theorem Run.snoc {U : List Int} (hU9 : U.length ≤ 1000000000) {l : List (Ty × Ty)} {σ : Sg} {D : Dn} (h : Run U l true σ D) {a b : Ty} (ha : ∀ y ∈ vars a, y ∈ U) (hb : ∀ y ∈ vars b, y ∈ U) :
    ∃ r σ' D' N, unF N σ D a b = some (r, σ', D') ∧ Run U (l ++ [(a, b)]) r σ' D' := by
  obtain ⟨r, σ', D', N, h1, h2, h3, h4, h5⟩ := (h.facts.2.1 rfl).1.un hU9 ha hb
  exact ⟨r, σ', D', N, h1, h.ok h1 h2 h3 h4 h5⟩
/-- the same pairs, turned about, in another order -/
theorem Run.either {U : List Int} {l m : List (Ty × Ty)} {r s : Bool} {σ ρ : Sg} {D E : Dn} (h : Run U l r σ D) (k : Run U m s ρ E) (hlm : ∀ p ∈ l, (p.2, p.1) ∈ m) (hml : ∀ p ∈ m, (p.2, p.1) ∈ l) :
    r = s ∧ (r = true → ∀ xs : List Ty, canon (.c nStar (xs.map (ext (th σ)))) = canon (.c nStar (xs.map (ext (th ρ))))) := by
  obtain ⟨g1, f1, q1⟩ := h.facts
  obtain ⟨g2, f2, q2⟩ := k.facts
  have tr1 : r = true → s = true ∧ Sol (th σ) ρ := fun hr => q2 (th σ) fun p hp => ((f1 hr).2 _ (hml p hp)).symm
  have tr2 : s = true → r = true ∧ Sol (th ρ) σ := fun hs => q1 (th ρ) fun p hp => ((f2 hs).2 _ (hlm p hp)).symm
  constructor
  · cases r <;> cases s <;> first | rfl | exact absurd (tr1 rfl).1 (by simp) | exact absurd (tr2 rfl).1 (by simp)
  · intro hr xs
    obtain ⟨hs, s1⟩ := tr1 hr
    have s2 := (tr2 hs).2
    refine canon_variant (f := th ρ) (g := th σ) ?_ ?_
    · rw [ext_c, List.map_map]
      congr 1
      exact List.map_congr_left fun t _ => s2.ext g1.wf t
    · rw [ext_c, List.map_map]
      congr 1
      exact List.map_congr_left fun t _ => s1.ext g2.wf t
end Go.Proofs.Ytncakfcafkfmfaa
