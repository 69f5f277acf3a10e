/-
  types: unification step by step, with fuel; that it ends, and what it comes to. No program in sight.
-/
import Derived.Test.YtncakfcafkfmfaaTyQ
namespace Go.Proofs.Ytncakfcafkfmfaa
open Go
set_option linter.unusedSimpArgs false
set_option linter.unusedVariables false

abbrev UnS := Bool × Sg × Dn
/-- a variable stands for a type, unless it occurs in it -/
def bdF (n : Nat) (σ : Sg) (D : Dn) (x : Int) (t : Ty) : Option UnS := match frF σ n t ([], []) with
  | none => none
  | some s => if 1000000000 < s.1.length then none else if x ∈ s.1 then some (false, σ, D) else some (true, σ ++ [(x, t)], D)
def unL (f : Sg → Dn → Ty → Ty → Option UnS) : List Ty → List Ty → Sg → Dn → Option UnS
  | a :: as_, b :: bs, σ, D => match f σ D a b with
    | none => none
    | some (false, σ', D') => some (false, σ', D')
    | some (true, σ', D') => unL f as_ bs σ' D'
  | _, _, σ, D => some (true, σ, D)
/-- the heads are known -/
def unH (n : Nat) (f : Sg → Dn → Ty → Ty → Option UnS) (σ : Sg) (D : Dn) : Ty → Ty → Option UnS
  | .v x, .v y => if x = y then some (true, σ, D) else bdF n σ D x (.v y)
  | .v x, .c g ls => bdF n σ D x (.c g ls)
  | .c g ls, .v y => f σ D (.v y) (.c g ls)
  | .c f' ks, .c g ls => if f' ≠ g ∨ ks.length ≠ ls.length then some (false, σ, D) else unL f ks ls σ D
/-- two variables; were they made one? -/
def pairOf : Ty → Ty → Option (Int × Int)
  | .v x, .v y => some (x, y)
  | _, _ => none
def unF : Nat → Sg → Dn → Ty → Ty → Option UnS
  | 0, _, _, _, _ => none
  | n + 1, σ, D, a, b => match pairOf a b with
    | some p => if p ∈ D then some (true, σ, D) else match hdF σ n a, hdF σ n b with
      | some a', some b' => unH n (unF n) σ (D ++ [p]) a' b'
      | _, _ => none
    | none => match hdF σ n a, hdF σ n b with
      | some a', some b' => unH n (unF n) σ D a' b'
      | _, _ => none

theorem hdF_unb {σ : Sg} {x : Int} (h : look σ x = none) (n : Nat) : hdF σ n (.v x) = some (.v x) := by cases n <;> simp [hdF, h]
theorem hdF_c {σ : Sg} {f : Nm} {ks : List Ty} (n : Nat) : hdF σ n (.c f ks) = some (.c f ks) := by cases n <;> rfl
theorem unF_bd {σ : Sg} {D : Dn} {y : Int} {f : Nm} {ks : List Ty} (h : look σ y = none) (n : Nat) : unF (n + 1) σ D (.v y) (.c f ks) = bdF n σ D y (.c f ks) := by
  simp only [unF, pairOf, hdF_unb h, hdF_c, unH]
/-- how many of the variables stand for nothing -/
def ub (U : List Int) (σ : Sg) : Nat := (U.map fun x => if (look σ x).isNone = true then 1 else 0).sum
theorem ub_snoc_lt {U : List Int} {σ : Sg} {x : Int} {u : Ty} (hx : x ∈ U) (hn : look σ x = none) : ub U (σ ++ [(x, u)]) < ub U σ := by
  unfold ub
  have hone : ∀ a : Int, (if (look (σ ++ [(x, u)]) a).isNone = true then 1 else 0) ≤ (if (look σ a).isNone = true then 1 else 0) := fun a => by
    rw [look_snoc a hn]
    by_cases h : x = a
    · simp [h]
    · simp [h]
  have hle : ∀ l : List Int, (l.map fun y => if (look (σ ++ [(x, u)]) y).isNone = true then 1 else 0).sum ≤ (l.map fun y => if (look σ y).isNone = true then 1 else 0).sum := by
    intro l
    induction l with
    | nil => exact Nat.le_refl _
    | cons a l ih =>
      have := hone a
      simp only [List.map_cons, List.sum_cons]
      omega
  induction U with
  | nil => cases hx
  | cons a l ih =>
    simp only [List.map_cons, List.sum_cons]
    by_cases hax : a = x
    · subst hax
      have h1 : (look (σ ++ [(a, u)]) a).isNone = false := by rw [look_snoc a hn, if_pos rfl]; rfl
      have h2 : (look σ a).isNone = true := by rw [hn]; rfl
      rw [h1, h2]
      have := hle l
      simp only [Bool.false_eq_true, if_false, if_true]
      omega
    · have hx' : x ∈ l := by
        rcases List.mem_cons.1 hx with h | h
        · exact absurd h.symm hax
        · exact h
      have h0 := ih hx'
      have := hone a
      omega

theorem Good.snoc {U : List Int} {σ : Sg} (g : Good U σ) {x : Int} {u : Ty} (hx : x ∈ U) (hu : ∀ y ∈ vars u, y ∈ U) (hn : look σ x = none) (ho : x ∉ vars (ext (th σ) u)) : Good U (σ ++ [(x, u)]) := by
  refine ⟨g.wf.snoc hn ho, fun a t ha => ?_⟩
  rw [look_snoc a hn] at ha
  split at ha
  · rename_i hxa
    injection ha with ha
    subst ha; subst hxa
    exact ⟨hx, hu⟩
  · exact g.inU a t ha

/-- pairs that were made one, or are being made one, about something smaller -/
def InP (σ : Sg) (D : Dn) (l : List Ty) : Prop := ∀ p ∈ D, th σ p.1 = th σ p.2 ∨ ∀ τ, Sol τ σ → ∀ a ∈ l, sz (ext τ a) < sz (τ p.1)
theorem InP.sub {σ σ' : Sg} {D : Dn} {l : List Ty} (hw : WF σ) (hw' : WF σ') (hs : Sub σ σ') (h : InP σ D l) : InP σ' D l := fun p hp => by
  rcases h p hp with h | h
  · left
    rw [← (hw'.sol.sub hs).th hw p.1, ← (hw'.sol.sub hs).th hw p.2, h]
  · exact .inr fun τ hτ => h τ (hτ.sub hs)
theorem InP.mono {σ : Sg} {D : Dn} {l l' : List Ty} (h : InP σ D l) (hl : ∀ a ∈ l', a ∈ l) : InP σ D l' := fun p hp => (h p hp).imp (fun h => h) fun h τ hτ a ha => h τ hτ a (hl a ha)

/-- what comes of making pairs of types one -/
structure UnR (U : List Int) (σ : Sg) (D : Dn) (as_ bs : List Ty) (r : Bool) (σ' : Sg) (D' : Dn) : Prop where
  good : Good U σ'
  sub : Sub σ σ'
  eq : r = true → as_.map (ext (th σ')) = bs.map (ext (th σ'))
  gen : ∀ τ, Sol τ σ → as_.map (ext τ) = bs.map (ext τ) → r = true ∧ Sol τ σ'
  done : r = true → ∀ p ∈ D', p ∈ D ∨ th σ' p.1 = th σ' p.2
  same : as_.map (ext (th σ)) = bs.map (ext (th σ)) → r = true ∧ σ' = σ
  univ : ∀ p ∈ D', p ∈ D ∨ (p.1 ∈ U ∧ p.2 ∈ U)
  nod : D.Nodup → D'.Nodup
  subD : ∀ p ∈ D, p ∈ D'
  meas : σ' = σ ∨ ub U σ' < ub U σ

theorem eq_th_of_sol {σ σ' : Sg} (hw : WF σ) (hs : Sol (th σ') σ) {a b : Ty} (h : ext (th σ) a = ext (th σ) b) : ext (th σ') a = ext (th σ') b := by
  rw [← hs.ext hw a, ← hs.ext hw b, h]

theorem nodup_len : ∀ {l U : List Int}, l.Nodup → (∀ y ∈ l, y ∈ U) → l.length ≤ U.length
  | [], U, _, _ => Nat.zero_le _
  | a :: l, U, hn, hs => by
    have ha : a ∈ U := hs a (by simp)
    have hn' := List.nodup_cons.1 hn
    have h1 := nodup_len (l := l) (U := U.erase a) hn'.2 fun y hy => (List.mem_erase_of_ne (fun (e : y = a) => hn'.1 (e ▸ hy))).2 (hs y (List.mem_cons_of_mem _ hy))
    have h2 := List.length_erase_of_mem ha
    have h3 : 0 < U.length := List.length_pos_of_mem ha
    simp only [List.length_cons]
    omega
/-- a variable that stands for nothing, and a type that isn't it -/
theorem bd_ex {U : List Int} (hU9 : U.length ≤ 1000000000) {σ : Sg} {D : Dn} {x : Int} {t : Ty} (g : Good U σ) (hx : x ∈ U) (hn : look σ x = none) (ht : ∀ y ∈ vars t, y ∈ U) (hne : ext (th σ) t ≠ .v x) (hsz : x ∈ vars (ext (th σ) t) → 1 < sz (ext (th σ) t)) :
    ∃ r σ' N, (∀ n, N ≤ n → bdF n σ D x t = some (r, σ', D)) ∧ UnR U σ D [.v x] [t] r σ' D := by
  obtain ⟨N, hN⟩ := g.wf.fr t
  have hfr : ∀ n, N ≤ n → ∃ s, frF σ n t ([], []) = some s ∧ ¬ 1000000000 < s.1.length ∧ ∀ y, y ∈ s.1 ↔ y ∈ vars (ext (th σ) t) := fun n hn => by
    obtain ⟨s, hs⟩ := Option.isSome_iff_exists.1 (hN n hn ([], []))
    obtain ⟨h1, h2, h3, h4⟩ := g.fr ht hs
    have h5 := nodup_len h3 h4
    exact ⟨s, hs, by omega, h1⟩
  by_cases hocc : x ∈ vars (ext (th σ) t)
  · refine ⟨false, σ, N, fun n hn => ?_, ⟨g, Sub.refl σ, fun h => Bool.noConfusion h, fun τ hτ he => ?_, fun h => Bool.noConfusion h, fun he => ?_, fun p h => .inl h, fun h => h, fun p h => h, .inl rfl⟩⟩
    · obtain ⟨s, hs, hlen, hm⟩ := hfr n hn
      simp only [bdF, hs]
      rw [if_neg hlen, if_pos ((hm x).2 hocc)]
    · exfalso
      simp only [List.map_cons, List.map_nil, List.cons.injEq, and_true] at he
      rw [ext_v, ← hτ.ext g.wf t] at he
      cases hc : ext (th σ) t with
      | v y =>
        rw [hc, vars_v] at hocc
        simp at hocc
        subst hocc
        exact hne hc
      | c f ks =>
        rw [hc] at he hocc
        have := sz_ext_lt (f := τ) hocc
        rw [← he] at this
        omega
    · exfalso
      simp only [List.map_cons, List.map_nil, List.cons.injEq, and_true] at he
      rw [ext_v, g.wf.unb hn] at he
      exact hne he.symm
  · refine ⟨true, σ ++ [(x, t)], N, fun n h => ?_, ⟨g.snoc hx ht hn hocc, Sub.snoc σ x t, fun _ => ?_, fun τ hτ he => ⟨rfl, ?_⟩, fun _ p h => .inl h, fun he => ?_, fun p h => .inl h, fun h => h, fun p h => h, .inr (ub_snoc_lt hx hn)⟩⟩
    · obtain ⟨s, hs, hlen, hm⟩ := hfr n h
      simp only [bdF, hs]
      rw [if_neg hlen, if_neg (fun h => hocc ((hm x).1 h))]
    · have hw' := (g.snoc hx ht hn hocc).wf
      have hl : look (σ ++ [(x, t)]) x = some t := by rw [look_snoc x hn, if_pos rfl]
      simp only [List.map_cons, List.map_nil, ext_v, hw'.bnd hl]
    · intro a u ha
      rw [look_snoc a hn] at ha
      split at ha
      · rename_i hxa
        injection ha with ha
        subst ha; subst hxa
        simpa [ext_v] using he
      · exact hτ a u ha
    · exfalso
      simp only [List.map_cons, List.map_nil, List.cons.injEq, and_true] at he
      rw [ext_v, g.wf.unb hn] at he
      exact hne he.symm

theorem UnR.swap {U : List Int} {σ : Sg} {D : Dn} {a b : Ty} {r : Bool} {σ' : Sg} {D' : Dn} (h : UnR U σ D [a] [b] r σ' D') : UnR U σ D [b] [a] r σ' D' :=
  { h with eq := fun hr => (h.eq hr).symm, gen := fun τ hτ he => h.gen τ hτ he.symm, same := fun he => h.same he.symm }
/-- types of the same heads -/
theorem UnR.heads {U : List Int} {σ : Sg} {D : Dn} {a b a' b' : Ty} {r : Bool} {σ' : Sg} {D' : Dn} (g : Good U σ) (ia : IsHd σ a a') (ib : IsHd σ b b') (h : UnR U σ D [a'] [b'] r σ' D') : UnR U σ D [a] [b] r σ' D' := by
  have hs' : Sol (th σ') σ := h.good.wf.sol.sub h.sub
  refine { h with eq := fun hr => ?_, gen := fun τ hτ he => ?_, same := fun he => ?_ }
  · have := h.eq hr
    simpa only [List.map_cons, List.map_nil, ia.sol hs', ib.sol hs'] using this
  · refine h.gen τ hτ ?_
    simpa only [List.map_cons, List.map_nil, ia.sol hτ, ib.sol hτ] using he
  · refine h.same ?_
    simpa only [List.map_cons, List.map_nil, ia.sol g.wf.sol, ib.sol g.wf.sol] using he

/-- the lists, pair by pair -/
theorem unL_ex {U : List Int} {m s : Nat} (IH : ∀ σ D a b, (ub U σ < m ∨ (ub U σ = m ∧ sz (ext (th σ) a) + sz (ext (th σ) b) < s)) → Good U σ → (∀ y ∈ vars a, y ∈ U) → (∀ y ∈ vars b, y ∈ U) → InP σ D [a] →
      ∃ r σ' D' N, (∀ n, N ≤ n → unF n σ D a b = some (r, σ', D')) ∧ UnR U σ D [a] [b] r σ' D') :
    ∀ (as_ bs : List Ty) (σ : Sg) (D : Dn), as_.length = bs.length → Good U σ → (∀ a ∈ as_, ∀ y ∈ vars a, y ∈ U) → (∀ b ∈ bs, ∀ y ∈ vars b, y ∈ U) → InP σ D as_ →
      (ub U σ < m ∨ (ub U σ = m ∧ ∀ a ∈ as_, ∀ b ∈ bs, sz (ext (th σ) a) + sz (ext (th σ) b) < s)) →
      ∃ r σ' D' N, (∀ n, N ≤ n → unL (unF n) as_ bs σ D = some (r, σ', D')) ∧ UnR U σ D as_ bs r σ' D'
  | [], [], σ, D, _, g, _, _, _, _ => ⟨true, σ, D, 0, fun n _ => rfl, ⟨g, Sub.refl σ, fun _ => rfl, fun τ hτ _ => ⟨rfl, hτ⟩, fun _ p h => .inl h, fun _ => ⟨rfl, rfl⟩, fun p h => .inl h, fun h => h, fun p h => h, .inl rfl⟩⟩
  | [], _ :: _, _, _, h, _, _, _, _, _ => by cases h
  | _ :: _, [], _, _, h, _, _, _, _, _ => by cases h
  | a :: as_, b :: bs, σ, D, hl, g, ha, hb, hp, hm => by
    obtain ⟨r1, σ1, D1, N1, h1, R1⟩ := IH σ D a b (hm.imp (fun h => h) fun h => ⟨h.1, h.2 a (by simp) b (by simp)⟩) g (ha a (by simp)) (hb b (by simp)) (hp.mono fun x hx => by simp at hx; subst hx; simp)
    have eq2 : ∀ {f : Int → Ty}, (a :: as_).map (ext f) = (b :: bs).map (ext f) ↔ [a].map (ext f) = [b].map (ext f) ∧ as_.map (ext f) = bs.map (ext f) := fun {f} => by simp
    cases r1 with
    | false =>
      refine ⟨false, σ1, D1, N1, fun n hn => by simp only [unL, h1 n hn], ⟨R1.good, R1.sub, fun h => Bool.noConfusion h, fun τ hτ he => ?_, fun h => Bool.noConfusion h, fun he => ?_, R1.univ, R1.nod, R1.subD, R1.meas⟩⟩
      · have := (R1.gen τ hτ (eq2.1 he).1).1
        cases this
      · have := (R1.same (eq2.1 he).1).1
        cases this
    | true =>
      have hp2 : InP σ1 D1 as_ := fun p hpD => by
        rcases R1.done rfl p hpD with h | h
        · exact (hp.sub g.wf R1.good.wf R1.sub).mono (fun x hx => List.mem_cons_of_mem _ hx) p h
        · exact .inl h
      obtain ⟨r2, σ2, D2, N2, h2, R2⟩ := unL_ex IH as_ bs σ1 D1 (by simpa using hl) R1.good (fun x hx => ha x (List.mem_cons_of_mem _ hx)) (fun x hx => hb x (List.mem_cons_of_mem _ hx)) hp2 (by
        rcases R1.meas with e | h
        · subst e
          exact hm.imp (fun h => h) fun h => ⟨h.1, fun x hx y hy => h.2 x (List.mem_cons_of_mem _ hx) y (List.mem_cons_of_mem _ hy)⟩
        · left
          rcases hm with h' | h' <;> omega)
      have hs1 : Sol (th σ2) σ1 := R2.good.wf.sol.sub R2.sub
      refine ⟨r2, σ2, D2, N1 + N2, fun n hn => by simp only [unL, h1 n (by omega), h2 n (by omega)], ⟨R2.good, R1.sub.trans R2.sub, fun h => ?_, fun τ hτ he => ?_, fun h p hp => ?_, fun he => ?_, fun p hp => ?_, fun h => R2.nod (R1.nod h), fun p h => R2.subD p (R1.subD p h), ?_⟩⟩
      · refine eq2.2 ⟨?_, R2.eq h⟩
        have e1 := R1.eq rfl
        simp only [List.map_cons, List.map_nil, List.cons.injEq, and_true] at e1 ⊢
        exact eq_th_of_sol R1.good.wf hs1 e1
      · obtain ⟨_, s1⟩ := R1.gen τ hτ (eq2.1 he).1
        exact R2.gen τ s1 (eq2.1 he).2
      · rcases R2.done h p hp with h' | h'
        · rcases R1.done rfl p h' with h'' | h''
          · exact .inl h''
          · right
            have := eq_th_of_sol (a := .v p.1) (b := .v p.2) R1.good.wf hs1 (by rw [ext_v, ext_v]; exact h'')
            simpa only [ext_v] using this
        · exact .inr h'
      · obtain ⟨_, e⟩ := R1.same (eq2.1 he).1
        subst e
        exact R2.same (eq2.1 he).2
      · rcases R2.univ p hp with h | h
        · exact R1.univ p h
        · exact .inr h
      · rcases R1.meas with e | h
        · subst e; exact R2.meas
        · right
          rcases R2.meas with e | h'
          · subst e; exact h
          · omega

/-- the heads made one -/
theorem unH_ex {U : List Int} (hU9 : U.length ≤ 1000000000) {m s : Nat} (IH : ∀ σ D a b, (ub U σ < m ∨ (ub U σ = m ∧ sz (ext (th σ) a) + sz (ext (th σ) b) < s)) → Good U σ → (∀ y ∈ vars a, y ∈ U) → (∀ y ∈ vars b, y ∈ U) → InP σ D [a] →
      ∃ r σ' D' N, (∀ n, N ≤ n → unF n σ D a b = some (r, σ', D')) ∧ UnR U σ D [a] [b] r σ' D')
    {σ : Sg} {D : Dn} {a b : Ty} (g : Good U σ) (ha : ∀ y ∈ vars a, y ∈ U) (hb : ∀ y ∈ vars b, y ∈ U) (ha0 : ∀ x, a = .v x → look σ x = none) (hb0 : ∀ x, b = .v x → look σ x = none)
    (hp : ∀ f ks, a = .c f ks → InP σ D ks) (hm : ub U σ < m ∨ (ub U σ = m ∧ sz (ext (th σ) a) + sz (ext (th σ) b) ≤ s)) :
    ∃ r σ' D' N, (∀ n, N ≤ n → unH n (unF n) σ D a b = some (r, σ', D')) ∧ UnR U σ D [a] [b] r σ' D' := by
  cases a with
  | v x =>
    have hn := ha0 x rfl
    cases b with
    | v y =>
      by_cases hxy : x = y
      · subst hxy
        exact ⟨true, σ, D, 0, fun n _ => by simp only [unH, if_true], ⟨g, Sub.refl σ, fun _ => rfl, fun τ hτ _ => ⟨rfl, hτ⟩, fun _ p h => .inl h, fun _ => ⟨rfl, rfl⟩, fun p h => .inl h, fun h => h, fun p h => h, .inl rfl⟩⟩
      · have hny := hb0 y rfl
        obtain ⟨r, σ', N, h, R⟩ := bd_ex hU9 (D := D) g (ha x (by rw [vars_v]; simp)) hn hb (by rw [ext_v, g.wf.unb hny]; intro e; injection e with e; exact hxy e.symm) (by rw [ext_v, g.wf.unb hny, vars_v]; intro h; simp at h; exact absurd h hxy)
        exact ⟨r, σ', D, N, fun n hn => by simp only [unH, hxy, if_false]; exact h n hn, R⟩
    | c f ls =>
      obtain ⟨r, σ', N, h, R⟩ := bd_ex hU9 (D := D) (t := .c f ls) g (ha x (by rw [vars_v]; simp)) hn hb (by rw [ext_c]; intro e; cases e) (fun hv => by
        rw [ext_c] at hv ⊢
        obtain ⟨k, hk, _⟩ := mem_vars_c.1 hv
        have := sz_kid (n := f) hk
        have := sz_pos k
        omega)
      exact ⟨r, σ', D, N, fun n hn => by simp only [unH]; exact h n hn, R⟩
  | c f ks =>
    cases b with
    | v y =>
      have hny := hb0 y rfl
      obtain ⟨r, σ', N, h, R⟩ := bd_ex hU9 (D := D) (t := .c f ks) g (hb y (by rw [vars_v]; simp)) hny ha (by rw [ext_c]; intro e; cases e) (fun hv => by
        rw [ext_c] at hv ⊢
        obtain ⟨k, hk, _⟩ := mem_vars_c.1 hv
        have := sz_kid (n := f) hk
        have := sz_pos k
        omega)
      refine ⟨r, σ', D, N + 1, fun n hn => ?_, R.swap⟩
      obtain ⟨k, rfl⟩ : ∃ k, n = k + 1 := ⟨n - 1, by omega⟩
      simp only [unH]
      rw [unF_bd hny]
      exact h k (by omega)
    | c f' ls =>
      by_cases hc : f ≠ f' ∨ ks.length ≠ ls.length
      · have no : ∀ τ : Int → Ty, ext τ (.c f ks) ≠ ext τ (.c f' ls) := fun τ e => by
          rw [ext_c, ext_c] at e
          injection e with e1 e2
          rcases hc with h | h
          · exact h e1
          · exact h (by simpa using congrArg List.length e2)
        refine ⟨false, σ, D, 0, fun n _ => by simp only [unH]; rw [if_pos hc], ⟨g, Sub.refl σ, fun h => Bool.noConfusion h, fun τ hτ he => ?_, fun h => Bool.noConfusion h, fun he => ?_, fun p h => .inl h, fun h => h, fun p h => h, .inl rfl⟩⟩
        · exact absurd (by simpa using he) (no τ)
        · exact absurd (by simpa using he) (no _)
      · obtain ⟨hf, hl⟩ : f = f' ∧ ks.length = ls.length := by
          constructor
          · exact Classical.byContradiction fun h => hc (.inl h)
          · exact Classical.byContradiction fun h => hc (.inr h)
        subst hf
        obtain ⟨r, σ', D', N, h, R⟩ := unL_ex IH ks ls σ D hl g (fun k hk y hy => ha y (mem_vars_c.2 ⟨k, hk, hy⟩)) (fun k hk y hy => hb y (mem_vars_c.2 ⟨k, hk, hy⟩)) (hp f ks rfl) (hm.imp (fun h => h) fun h => ⟨h.1, fun k hk l hl => by
          have h1 := sz_kid (n := f) (List.mem_map_of_mem (f := ext (th σ)) hk)
          have h2 := sz_kid (n := f) (List.mem_map_of_mem (f := ext (th σ)) hl)
          have h3 := h.2
          rw [ext_c, ext_c] at h3
          omega⟩)
        have eq1 : ∀ {τ : Int → Ty}, [Ty.c f ks].map (ext τ) = [Ty.c f ls].map (ext τ) ↔ ks.map (ext τ) = ls.map (ext τ) := fun {τ} => by simp [ext_c]
        exact ⟨r, σ', D', N, fun n hn => by simp only [unH]; rw [if_neg hc]; exact h n hn, { R with eq := fun h => eq1.2 (R.eq h), gen := fun τ hτ he => R.gen τ hτ (eq1.1 he), same := fun he => R.same (eq1.1 he) }⟩

theorem un_ex {U : List Int} (hU9 : U.length ≤ 1000000000) : ∀ (m s : Nat) (σ : Sg) (D : Dn) (a b : Ty), (ub U σ < m ∨ (ub U σ = m ∧ sz (ext (th σ) a) + sz (ext (th σ) b) ≤ s)) → Good U σ → (∀ y ∈ vars a, y ∈ U) → (∀ y ∈ vars b, y ∈ U) → InP σ D [a] →
      ∃ r σ' D' N, (∀ n, N ≤ n → unF n σ D a b = some (r, σ', D')) ∧ UnR U σ D [a] [b] r σ' D' := by
  intro m
  induction m with
  | zero =>
    intro s
    induction s with
    | zero =>
      intro σ D a b hm
      have := sz_pos (ext (th σ) a)
      omega
    | succ s ihs => exact fun σ D a b hm g ha hb hp => un_step hU9 (fun σ D a b hm => ihs σ D a b (hm.imp (fun h => h) fun h => ⟨h.1, by omega⟩)) σ D a b hm g ha hb hp
  | succ m ihm =>
    intro s
    induction s with
    | zero =>
      intro σ D a b hm g ha hb hp
      rcases hm with h | h
      · exact ihm (sz (ext (th σ) a) + sz (ext (th σ) b)) σ D a b (by omega) g ha hb hp
      · have := sz_pos (ext (th σ) a)
        omega
    | succ s ihs => exact fun σ D a b hm g ha hb hp => un_step hU9 (fun σ D a b hm => ihs σ D a b (hm.imp (fun h => h) fun h => ⟨h.1, by omega⟩)) σ D a b hm g ha hb hp
where
  un_step {U : List Int} (hU9 : U.length ≤ 1000000000) {m s : Nat} (IH : ∀ σ D a b, (ub U σ < m ∨ (ub U σ = m ∧ sz (ext (th σ) a) + sz (ext (th σ) b) < s + 1)) → Good U σ → (∀ y ∈ vars a, y ∈ U) → (∀ y ∈ vars b, y ∈ U) → InP σ D [a] →
      ∃ r σ' D' N, (∀ n, N ≤ n → unF n σ D a b = some (r, σ', D')) ∧ UnR U σ D [a] [b] r σ' D')
      (σ : Sg) (D : Dn) (a b : Ty) (hm : ub U σ < m ∨ (ub U σ = m ∧ sz (ext (th σ) a) + sz (ext (th σ) b) ≤ s + 1)) (g : Good U σ) (ha : ∀ y ∈ vars a, y ∈ U) (hb : ∀ y ∈ vars b, y ∈ U) (hp : InP σ D [a]) :
      ∃ r σ' D' N, (∀ n, N ≤ n → unF n σ D a b = some (r, σ', D')) ∧ UnR U σ D [a] [b] r σ' D' := by
    obtain ⟨a', ia⟩ := g.wf.hd a
    obtain ⟨b', ib⟩ := g.wf.hd b
    obtain ⟨Na, hNa⟩ := ia.fuel
    obtain ⟨Nb, hNb⟩ := ib.fuel
    have heads : ∀ D1, (∀ p ∈ D1, p ∈ D ∨ (a = .v p.1 ∧ b = .v p.2)) → ∃ r σ' D' N, (∀ n, N ≤ n → unH n (unF n) σ D1 a' b' = some (r, σ', D')) ∧ UnR U σ D1 [a'] [b'] r σ' D' := fun D1 hD1 => by
      refine unH_ex hU9 IH g (ia.inU g ha) (ib.inU g hb) ia.end_ ib.end_ (fun f ks e p hpD => ?_) ?_
      · rcases hD1 p hpD with h | h
        · rcases hp p h with h | h
          · exact .inl h
          · right
            intro τ hτ k hk
            have h1 := h τ hτ a (by simp)
            have h2 := ia.sol hτ
            subst e
            have h3 := sz_kid (n := f) (List.mem_map_of_mem (f := ext τ) hk)
            rw [← ext_c, h2] at h3
            omega
        · right
          intro τ hτ k hk
          have h2 := ia.sol hτ
          subst e
          have h3 := sz_kid (n := f) (List.mem_map_of_mem (f := ext τ) hk)
          rw [← ext_c, h2, h.1, ext_v] at h3
          exact h3
      · rw [ia.sol g.wf.sol, ib.sol g.wf.sol]
        exact hm
    cases hpr : pairOf a b with
    | none =>
      obtain ⟨r, σ', D', N, h, R⟩ := heads D fun p hp => .inl hp
      refine ⟨r, σ', D', Na + Nb + N + 1, fun n hn => ?_, R.heads g ia ib⟩
      obtain ⟨k, rfl⟩ : ∃ k, n = k + 1 := ⟨n - 1, by omega⟩
      simp only [unF, hpr, hNa k (by omega), hNb k (by omega), h k (by omega)]
    | some p =>
      obtain ⟨rfl, rfl⟩ : a = .v p.1 ∧ b = .v p.2 := by
        cases a <;> cases b <;> simp only [pairOf] at hpr <;> first | (cases hpr; done) | (injection hpr with hpr; subst hpr; exact ⟨rfl, rfl⟩)
      by_cases hpD : p ∈ D
      · have he : th σ p.1 = th σ p.2 := by
          rcases hp p hpD with h | h
          · exact h
          · have := h (th σ) g.wf.sol (.v p.1) (by simp)
            rw [ext_v] at this
            omega
        refine ⟨true, σ, D, 1, fun n hn => ?_, ⟨g, Sub.refl σ, fun _ => by simp [ext_v, he], fun τ hτ _ => ⟨rfl, hτ⟩, fun _ p h => .inl h, fun _ => ⟨rfl, rfl⟩, fun p h => .inl h, fun h => h, fun p h => h, .inl rfl⟩⟩
        obtain ⟨k, rfl⟩ : ∃ k, n = k + 1 := ⟨n - 1, by omega⟩
        simp only [unF, hpr]
        rw [if_pos hpD]
      · obtain ⟨r, σ', D', N, h, R⟩ := heads (D ++ [p]) fun q hq => by
          rcases List.mem_append.1 hq with hq | hq
          · exact .inl hq
          · simp at hq; subst hq; exact .inr ⟨rfl, rfl⟩
        have R2 := R.heads g ia ib
        refine ⟨r, σ', D', Na + Nb + N + 1, fun n hn => ?_, { R2 with done := fun hr q hq => ?_, univ := fun q hq => ?_, nod := fun hn => ?_, subD := fun q hq => R2.subD q (List.mem_append_left _ hq) }⟩
        · obtain ⟨k, rfl⟩ : ∃ k, n = k + 1 := ⟨n - 1, by omega⟩
          simp only [unF, hpr]
          rw [if_neg hpD]
          simp only [hNa k (by omega), hNb k (by omega), h k (by omega)]
        · rcases R2.done hr q hq with h | h
          · rcases List.mem_append.1 h with h | h
            · exact .inl h
            · simp at h; subst h
              right
              have := R2.eq hr
              simpa [ext_v] using this
          · exact .inr h
        · rcases R2.univ q hq with h | h
          · rcases List.mem_append.1 h with h | h
            · exact .inl h
            · simp at h; subst h
              exact .inr ⟨ha _ (by rw [vars_v]; simp), hb _ (by rw [vars_v]; simp)⟩
          · exact .inr h
        · refine R2.nod ?_
          rw [List.nodup_append]
          exact ⟨hn, by simp, fun x hx y hy => by simp at hy; subst hy; exact fun e => hpD (e ▸ hx)⟩
/-- two types made one, all pairs so far being one -/
theorem Good.un {U : List Int} (hU9 : U.length ≤ 1000000000) {σ : Sg} (g : Good U σ) {D : Dn} (hD : ∀ p ∈ D, th σ p.1 = th σ p.2) {a b : Ty} (ha : ∀ y ∈ vars a, y ∈ U) (hb : ∀ y ∈ vars b, y ∈ U) :
    ∃ r σ' D' N, (∀ n, N ≤ n → unF n σ D a b = some (r, σ', D')) ∧ UnR U σ D [a] [b] r σ' D' :=
  un_ex hU9 (ub U σ) (sz (ext (th σ) a) + sz (ext (th σ) b)) σ D a b (.inr ⟨rfl, Nat.le_refl _⟩) g ha hb fun p hp => .inl (hD p hp)
/-- the lists grow -/
theorem bdF_len {n : Nat} {σ : Sg} {D : Dn} {x : Int} {t : Ty} {r : Bool} {σ' : Sg} {D' : Dn} (h : bdF n σ D x t = some (r, σ', D')) : σ.length ≤ σ'.length ∧ D.length ≤ D'.length := by
  simp only [bdF] at h
  split at h
  · cases h
  · split at h
    · cases h
    · split at h <;> (injection h with h; injection h with _ h; injection h with h1 h2; subst h1; subst h2; simp)
theorem unL_len {f : Sg → Dn → Ty → Ty → Option UnS} (hf : ∀ σ D a b r σ' D', f σ D a b = some (r, σ', D') → σ.length ≤ σ'.length ∧ D.length ≤ D'.length) :
    ∀ {as_ bs : List Ty} {σ : Sg} {D : Dn} {r : Bool} {σ' : Sg} {D' : Dn}, unL f as_ bs σ D = some (r, σ', D') → σ.length ≤ σ'.length ∧ D.length ≤ D'.length
  | [], _, σ, D, r, σ', D', h => by simp only [unL] at h; injection h with h; injection h with _ h; injection h with h1 h2; subst h1; subst h2; exact ⟨Nat.le_refl _, Nat.le_refl _⟩
  | _ :: _, [], σ, D, r, σ', D', h => by simp only [unL] at h; injection h with h; injection h with _ h; injection h with h1 h2; subst h1; subst h2; exact ⟨Nat.le_refl _, Nat.le_refl _⟩
  | a :: as_, b :: bs, σ, D, r, σ', D', h => by
    simp only [unL] at h
    split at h
    · cases h
    · rename_i s1 d1 he
      have := hf _ _ _ _ _ _ _ he
      injection h with h; injection h with _ h; injection h with h1 h2; subst h1; subst h2
      exact this
    · rename_i s1 d1 he
      have h1 := hf _ _ _ _ _ _ _ he
      have h2 := unL_len hf h
      omega
theorem unF_len : ∀ {n : Nat} {σ : Sg} {D : Dn} {a b : Ty} {r : Bool} {σ' : Sg} {D' : Dn}, unF n σ D a b = some (r, σ', D') → σ.length ≤ σ'.length ∧ D.length ≤ D'.length
  | 0, σ, D, a, b, r, σ', D', h => by simp [unF] at h
  | n + 1, σ, D, a, b, r, σ', D', h => by
    have hH : ∀ {D1 : Dn} {a' b' : Ty}, unH n (unF n) σ D1 a' b' = some (r, σ', D') → σ.length ≤ σ'.length ∧ D1.length ≤ D'.length := fun {D1 a' b'} h => by
      cases a' <;> cases b' <;> simp only [unH] at h
      · split at h
        · injection h with h; injection h with _ h; injection h with h1 h2; subst h1; subst h2; exact ⟨Nat.le_refl _, Nat.le_refl _⟩
        · exact bdF_len h
      · exact bdF_len h
      · exact unF_len h
      · split at h
        · injection h with h; injection h with _ h; injection h with h1 h2; subst h1; subst h2; exact ⟨Nat.le_refl _, Nat.le_refl _⟩
        · exact unL_len (fun σ D a b r σ' D' h => unF_len h) h
    simp only [unF] at h
    split at h
    · split at h
      · injection h with h; injection h with _ h; injection h with h1 h2; subst h1; subst h2; exact ⟨Nat.le_refl _, Nat.le_refl _⟩
      · split at h
        · have := hH h
          simp only [List.length_append, List.length_singleton] at this
          omega
        · cases h
    · split at h
      · exact hH h
      · cases h
end Go.Proofs.Ytncakfcafkfmfaa
