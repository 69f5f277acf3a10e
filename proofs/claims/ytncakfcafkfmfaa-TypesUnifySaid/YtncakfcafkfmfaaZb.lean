/-
  Several texts put together: TyU, Tab, TyM, Frep, Tya, Tyb, Tyc, Tyd, Tye, Tyf.
-/
import Derived.Test.YtncakfcafkfmfaaChecked
import Derived.KernelRfl
import Derived.Test.YtncakfcafkfmfaaZa
/-
  types: unification step by step, with fuel; that it ends, and what it comes to. No program in sight.
-/
namespace Go.Proofs.Ytncakfcafkfmfaa
open Go
set_option linter.unusedSimpArgs false
set_option linter.unusedVariables false

abbrev UnS := Bool × Sg × Dn
/-- a variable stands for a type, unless it occurs in it -/
def bdF (n : Nat) (σ : Sg) (D : Dn) (x : Int) (t : Ty) : Option UnS := match frF σ n t ([], []) with
  | none => none
  | some s => if 1000000000 < s.1.length then none else if x ∈ s.1 then some (false, σ, D) else some (true, σ ++ [(x, t)], D)
def unL (f : Sg → Dn → Ty → Ty → Option UnS) : List Ty → List Ty → Sg → Dn → Option UnS
  | a :: as_, b :: bs, σ, D => match f σ D a b with
    | none => none
    | some (false, σ', D') => some (false, σ', D')
    | some (true, σ', D') => unL f as_ bs σ' D'
  | _, _, σ, D => some (true, σ, D)
/-- the heads are known -/
def unH (n : Nat) (f : Sg → Dn → Ty → Ty → Option UnS) (σ : Sg) (D : Dn) : Ty → Ty → Option UnS
  | .v x, .v y => if x = y then some (true, σ, D) else bdF n σ D x (.v y)
  | .v x, .c g ls => bdF n σ D x (.c g ls)
  | .c g ls, .v y => f σ D (.v y) (.c g ls)
  | .c f' ks, .c g ls => if f' ≠ g ∨ ks.length ≠ ls.length then some (false, σ, D) else unL f ks ls σ D
/-- two variables; were they made one? -/
def pairOf : Ty → Ty → Option (Int × Int)
  | .v x, .v y => some (x, y)
  | _, _ => none
def unF : Nat → Sg → Dn → Ty → Ty → Option UnS
  | 0, _, _, _, _ => none
  | n + 1, σ, D, a, b => match pairOf a b with
    | some p => if p ∈ D then some (true, σ, D) else match hdF σ n a, hdF σ n b with
      | some a', some b' => unH n (unF n) σ (D ++ [p]) a' b'
      | _, _ => none
    | none => match hdF σ n a, hdF σ n b with
      | some a', some b' => unH n (unF n) σ D a' b'
      | _, _ => none

theorem hdF_unb {σ : Sg} {x : Int} (h : look σ x = none) (n : Nat) : hdF σ n (.v x) = some (.v x) := by cases n <;> simp [hdF, h]
theorem hdF_c {σ : Sg} {f : Nm} {ks : List Ty} (n : Nat) : hdF σ n (.c f ks) = some (.c f ks) := by cases n <;> rfl
theorem unF_bd {σ : Sg} {D : Dn} {y : Int} {f : Nm} {ks : List Ty} (h : look σ y = none) (n : Nat) : unF (n + 1) σ D (.v y) (.c f ks) = bdF n σ D y (.c f ks) := by
  simp only [unF, pairOf, hdF_unb h, hdF_c, unH]
/-- how many of the variables stand for nothing -/
def ub (U : List Int) (σ : Sg) : Nat := (U.map fun x => if (look σ x).isNone = true then 1 else 0).sum
theorem ub_snoc_lt {U : List Int} {σ : Sg} {x : Int} {u : Ty} (hx : x ∈ U) (hn : look σ x = none) : ub U (σ ++ [(x, u)]) < ub U σ := by
  unfold ub
  have hone : ∀ a : Int, (if (look (σ ++ [(x, u)]) a).isNone = true then 1 else 0) ≤ (if (look σ a).isNone = true then 1 else 0) := fun a => by
    rw [look_snoc a hn]
    by_cases h : x = a
    · simp [h]
    · simp [h]
  have hle : ∀ l : List Int, (l.map fun y => if (look (σ ++ [(x, u)]) y).isNone = true then 1 else 0).sum ≤ (l.map fun y => if (look σ y).isNone = true then 1 else 0).sum := by
    intro l
    induction l with
    | nil => exact Nat.le_refl _
    | cons a l ih =>
      have := hone a
      simp only [List.map_cons, List.sum_cons]
      omega
  induction U with
  | nil => cases hx
  | cons a l ih =>
    simp only [List.map_cons, List.sum_cons]
    by_cases hax : a = x
    · subst hax
      have h1 : (look (σ ++ [(a, u)]) a).isNone = false := by rw [look_snoc a hn, if_pos rfl]; rfl
      have h2 : (look σ a).isNone = true := by rw [hn]; rfl
      rw [h1, h2]
      have := hle l
      simp only [Bool.false_eq_true, if_false, if_true]
      omega
    · have hx' : x ∈ l := by
        rcases List.mem_cons.1 hx with h | h
        · exact absurd h.symm hax
        · exact h
      have h0 := ih hx'
      have := hone a
      omega

theorem Good.snoc {U : List Int} {σ : Sg} (g : Good U σ) {x : Int} {u : Ty} (hx : x ∈ U) (hu : ∀ y ∈ vars u, y ∈ U) (hn : look σ x = none) (ho : x ∉ vars (ext (th σ) u)) : Good U (σ ++ [(x, u)]) := by
  refine ⟨g.wf.snoc hn ho, fun a t ha => ?_⟩
  rw [look_snoc a hn] at ha
  split at ha
  · rename_i hxa
    injection ha with ha
    subst ha; subst hxa
    exact ⟨hx, hu⟩
  · exact g.inU a t ha

/-- pairs that were made one, or are being made one, about something smaller -/
def InP (σ : Sg) (D : Dn) (l : List Ty) : Prop := ∀ p ∈ D, th σ p.1 = th σ p.2 ∨ ∀ τ, Sol τ σ → ∀ a ∈ l, sz (ext τ a) < sz (τ p.1)
theorem InP.sub {σ σ' : Sg} {D : Dn} {l : List Ty} (hw : WF σ) (hw' : WF σ') (hs : Sub σ σ') (h : InP σ D l) : InP σ' D l := fun p hp => by
  rcases h p hp with h | h
  · left
    rw [← (hw'.sol.sub hs).th hw p.1, ← (hw'.sol.sub hs).th hw p.2, h]
  · exact .inr fun τ hτ => h τ (hτ.sub hs)
theorem InP.mono {σ : Sg} {D : Dn} {l l' : List Ty} (h : InP σ D l) (hl : ∀ a ∈ l', a ∈ l) : InP σ D l' := fun p hp => (h p hp).imp (fun h => h) fun h τ hτ a ha => h τ hτ a (hl a ha)

/-- what comes of making pairs of types one -/
structure UnR (U : List Int) (σ : Sg) (D : Dn) (as_ bs : List Ty) (r : Bool) (σ' : Sg) (D' : Dn) : Prop where
  good : Good U σ'
  sub : Sub σ σ'
  eq : r = true → as_.map (ext (th σ')) = bs.map (ext (th σ'))
  gen : ∀ τ, Sol τ σ → as_.map (ext τ) = bs.map (ext τ) → r = true ∧ Sol τ σ'
  done : r = true → ∀ p ∈ D', p ∈ D ∨ th σ' p.1 = th σ' p.2
  same : as_.map (ext (th σ)) = bs.map (ext (th σ)) → r = true ∧ σ' = σ
  univ : ∀ p ∈ D', p ∈ D ∨ (p.1 ∈ U ∧ p.2 ∈ U)
  nod : D.Nodup → D'.Nodup
  subD : ∀ p ∈ D, p ∈ D'
  meas : σ' = σ ∨ ub U σ' < ub U σ

theorem eq_th_of_sol {σ σ' : Sg} (hw : WF σ) (hs : Sol (th σ') σ) {a b : Ty} (h : ext (th σ) a = ext (th σ) b) : ext (th σ') a = ext (th σ') b := by
  rw [← hs.ext hw a, ← hs.ext hw b, h]

theorem nodup_len : ∀ {l U : List Int}, l.Nodup → (∀ y ∈ l, y ∈ U) → l.length ≤ U.length
  | [], U, _, _ => Nat.zero_le _
  | a :: l, U, hn, hs => by
    have ha : a ∈ U := hs a (by simp)
    have hn' := List.nodup_cons.1 hn
    have h1 := nodup_len (l := l) (U := U.erase a) hn'.2 fun y hy => (List.mem_erase_of_ne (fun (e : y = a) => hn'.1 (e ▸ hy))).2 (hs y (List.mem_cons_of_mem _ hy))
    have h2 := List.length_erase_of_mem ha
    have h3 : 0 < U.length := List.length_pos_of_mem ha
    simp only [List.length_cons]
    omega
/-- a variable that stands for nothing, and a type that isn't it -/
theorem bd_ex {U : List Int} (hU9 : U.length ≤ 1000000000) {σ : Sg} {D : Dn} {x : Int} {t : Ty} (g : Good U σ) (hx : x ∈ U) (hn : look σ x = none) (ht : ∀ y ∈ vars t, y ∈ U) (hne : ext (th σ) t ≠ .v x) (hsz : x ∈ vars (ext (th σ) t) → 1 < sz (ext (th σ) t)) :
    ∃ r σ' N, (∀ n, N ≤ n → bdF n σ D x t = some (r, σ', D)) ∧ UnR U σ D [.v x] [t] r σ' D := by
  obtain ⟨N, hN⟩ := g.wf.fr t
  have hfr : ∀ n, N ≤ n → ∃ s, frF σ n t ([], []) = some s ∧ ¬ 1000000000 < s.1.length ∧ ∀ y, y ∈ s.1 ↔ y ∈ vars (ext (th σ) t) := fun n hn => by
    obtain ⟨s, hs⟩ := Option.isSome_iff_exists.1 (hN n hn ([], []))
    obtain ⟨h1, h2, h3, h4⟩ := g.fr ht hs
    have h5 := nodup_len h3 h4
    exact ⟨s, hs, by omega, h1⟩
  by_cases hocc : x ∈ vars (ext (th σ) t)
  · refine ⟨false, σ, N, fun n hn => ?_, ⟨g, Sub.refl σ, fun h => Bool.noConfusion h, fun τ hτ he => ?_, fun h => Bool.noConfusion h, fun he => ?_, fun p h => .inl h, fun h => h, fun p h => h, .inl rfl⟩⟩
    · obtain ⟨s, hs, hlen, hm⟩ := hfr n hn
      simp only [bdF, hs]
      rw [if_neg hlen, if_pos ((hm x).2 hocc)]
    · exfalso
      simp only [List.map_cons, List.map_nil, List.cons.injEq, and_true] at he
      rw [ext_v, ← hτ.ext g.wf t] at he
      cases hc : ext (th σ) t with
      | v y =>
        rw [hc, vars_v] at hocc
        simp at hocc
        subst hocc
        exact hne hc
      | c f ks =>
        rw [hc] at he hocc
        have := sz_ext_lt (f := τ) hocc
        rw [← he] at this
        omega
    · exfalso
      simp only [List.map_cons, List.map_nil, List.cons.injEq, and_true] at he
      rw [ext_v, g.wf.unb hn] at he
      exact hne he.symm
  · refine ⟨true, σ ++ [(x, t)], N, fun n h => ?_, ⟨g.snoc hx ht hn hocc, Sub.snoc σ x t, fun _ => ?_, fun τ hτ he => ⟨rfl, ?_⟩, fun _ p h => .inl h, fun he => ?_, fun p h => .inl h, fun h => h, fun p h => h, .inr (ub_snoc_lt hx hn)⟩⟩
    · obtain ⟨s, hs, hlen, hm⟩ := hfr n h
      simp only [bdF, hs]
      rw [if_neg hlen, if_neg (fun h => hocc ((hm x).1 h))]
    · have hw' := (g.snoc hx ht hn hocc).wf
      have hl : look (σ ++ [(x, t)]) x = some t := by rw [look_snoc x hn, if_pos rfl]
      simp only [List.map_cons, List.map_nil, ext_v, hw'.bnd hl]
    · intro a u ha
      rw [look_snoc a hn] at ha
      split at ha
      · rename_i hxa
        injection ha with ha
        subst ha; subst hxa
        simpa [ext_v] using he
      · exact hτ a u ha
    · exfalso
      simp only [List.map_cons, List.map_nil, List.cons.injEq, and_true] at he
      rw [ext_v, g.wf.unb hn] at he
      exact hne he.symm

theorem UnR.swap {U : List Int} {σ : Sg} {D : Dn} {a b : Ty} {r : Bool} {σ' : Sg} {D' : Dn} (h : UnR U σ D [a] [b] r σ' D') : UnR U σ D [b] [a] r σ' D' :=
  { h with eq := fun hr => (h.eq hr).symm, gen := fun τ hτ he => h.gen τ hτ he.symm, same := fun he => h.same he.symm }
/-- types of the same heads -/
theorem UnR.heads {U : List Int} {σ : Sg} {D : Dn} {a b a' b' : Ty} {r : Bool} {σ' : Sg} {D' : Dn} (g : Good U σ) (ia : IsHd σ a a') (ib : IsHd σ b b') (h : UnR U σ D [a'] [b'] r σ' D') : UnR U σ D [a] [b] r σ' D' := by
  have hs' : Sol (th σ') σ := h.good.wf.sol.sub h.sub
  refine { h with eq := fun hr => ?_, gen := fun τ hτ he => ?_, same := fun he => ?_ }
  · have := h.eq hr
    simpa only [List.map_cons, List.map_nil, ia.sol hs', ib.sol hs'] using this
  · refine h.gen τ hτ ?_
    simpa only [List.map_cons, List.map_nil, ia.sol hτ, ib.sol hτ] using he
  · refine h.same ?_
    simpa only [List.map_cons, List.map_nil, ia.sol g.wf.sol, ib.sol g.wf.sol] using he

/-- the lists, pair by pair -/
theorem unL_ex {U : List Int} {m s : Nat} (IH : ∀ σ D a b, (ub U σ < m ∨ (ub U σ = m ∧ sz (ext (th σ) a) + sz (ext (th σ) b) < s)) → Good U σ → (∀ y ∈ vars a, y ∈ U) → (∀ y ∈ vars b, y ∈ U) → InP σ D [a] →
      ∃ r σ' D' N, (∀ n, N ≤ n → unF n σ D a b = some (r, σ', D')) ∧ UnR U σ D [a] [b] r σ' D') :
    ∀ (as_ bs : List Ty) (σ : Sg) (D : Dn), as_.length = bs.length → Good U σ → (∀ a ∈ as_, ∀ y ∈ vars a, y ∈ U) → (∀ b ∈ bs, ∀ y ∈ vars b, y ∈ U) → InP σ D as_ →
      (ub U σ < m ∨ (ub U σ = m ∧ ∀ a ∈ as_, ∀ b ∈ bs, sz (ext (th σ) a) + sz (ext (th σ) b) < s)) →
      ∃ r σ' D' N, (∀ n, N ≤ n → unL (unF n) as_ bs σ D = some (r, σ', D')) ∧ UnR U σ D as_ bs r σ' D'
  | [], [], σ, D, _, g, _, _, _, _ => ⟨true, σ, D, 0, fun n _ => rfl, ⟨g, Sub.refl σ, fun _ => rfl, fun τ hτ _ => ⟨rfl, hτ⟩, fun _ p h => .inl h, fun _ => ⟨rfl, rfl⟩, fun p h => .inl h, fun h => h, fun p h => h, .inl rfl⟩⟩
  | [], _ :: _, _, _, h, _, _, _, _, _ => by cases h
  | _ :: _, [], _, _, h, _, _, _, _, _ => by cases h
  | a :: as_, b :: bs, σ, D, hl, g, ha, hb, hp, hm => by
    obtain ⟨r1, σ1, D1, N1, h1, R1⟩ := IH σ D a b (hm.imp (fun h => h) fun h => ⟨h.1, h.2 a (by simp) b (by simp)⟩) g (ha a (by simp)) (hb b (by simp)) (hp.mono fun x hx => by simp at hx; subst hx; simp)
    have eq2 : ∀ {f : Int → Ty}, (a :: as_).map (ext f) = (b :: bs).map (ext f) ↔ [a].map (ext f) = [b].map (ext f) ∧ as_.map (ext f) = bs.map (ext f) := fun {f} => by simp
    cases r1 with
    | false =>
      refine ⟨false, σ1, D1, N1, fun n hn => by simp only [unL, h1 n hn], ⟨R1.good, R1.sub, fun h => Bool.noConfusion h, fun τ hτ he => ?_, fun h => Bool.noConfusion h, fun he => ?_, R1.univ, R1.nod, R1.subD, R1.meas⟩⟩
      · have := (R1.gen τ hτ (eq2.1 he).1).1
        cases this
      · have := (R1.same (eq2.1 he).1).1
        cases this
    | true =>
      have hp2 : InP σ1 D1 as_ := fun p hpD => by
        rcases R1.done rfl p hpD with h | h
        · exact (hp.sub g.wf R1.good.wf R1.sub).mono (fun x hx => List.mem_cons_of_mem _ hx) p h
        · exact .inl h
      obtain ⟨r2, σ2, D2, N2, h2, R2⟩ := unL_ex IH as_ bs σ1 D1 (by simpa using hl) R1.good (fun x hx => ha x (List.mem_cons_of_mem _ hx)) (fun x hx => hb x (List.mem_cons_of_mem _ hx)) hp2 (by
        rcases R1.meas with e | h
        · subst e
          exact hm.imp (fun h => h) fun h => ⟨h.1, fun x hx y hy => h.2 x (List.mem_cons_of_mem _ hx) y (List.mem_cons_of_mem _ hy)⟩
        · left
          rcases hm with h' | h' <;> omega)
      have hs1 : Sol (th σ2) σ1 := R2.good.wf.sol.sub R2.sub
      refine ⟨r2, σ2, D2, N1 + N2, fun n hn => by simp only [unL, h1 n (by omega), h2 n (by omega)], ⟨R2.good, R1.sub.trans R2.sub, fun h => ?_, fun τ hτ he => ?_, fun h p hp => ?_, fun he => ?_, fun p hp => ?_, fun h => R2.nod (R1.nod h), fun p h => R2.subD p (R1.subD p h), ?_⟩⟩
      · refine eq2.2 ⟨?_, R2.eq h⟩
        have e1 := R1.eq rfl
        simp only [List.map_cons, List.map_nil, List.cons.injEq, and_true] at e1 ⊢
        exact eq_th_of_sol R1.good.wf hs1 e1
      · obtain ⟨_, s1⟩ := R1.gen τ hτ (eq2.1 he).1
        exact R2.gen τ s1 (eq2.1 he).2
      · rcases R2.done h p hp with h' | h'
        · rcases R1.done rfl p h' with h'' | h''
          · exact .inl h''
          · right
            have := eq_th_of_sol (a := .v p.1) (b := .v p.2) R1.good.wf hs1 (by rw [ext_v, ext_v]; exact h'')
            simpa only [ext_v] using this
        · exact .inr h'
      · obtain ⟨_, e⟩ := R1.same (eq2.1 he).1
        subst e
        exact R2.same (eq2.1 he).2
      · rcases R2.univ p hp with h | h
        · exact R1.univ p h
        · exact .inr h
      · rcases R1.meas with e | h
        · subst e; exact R2.meas
        · right
          rcases R2.meas with e | h'
          · subst e; exact h
          · omega

/-- the heads made one -/
theorem unH_ex {U : List Int} (hU9 : U.length ≤ 1000000000) {m s : Nat} (IH : ∀ σ D a b, (ub U σ < m ∨ (ub U σ = m ∧ sz (ext (th σ) a) + sz (ext (th σ) b) < s)) → Good U σ → (∀ y ∈ vars a, y ∈ U) → (∀ y ∈ vars b, y ∈ U) → InP σ D [a] →
      ∃ r σ' D' N, (∀ n, N ≤ n → unF n σ D a b = some (r, σ', D')) ∧ UnR U σ D [a] [b] r σ' D')
    {σ : Sg} {D : Dn} {a b : Ty} (g : Good U σ) (ha : ∀ y ∈ vars a, y ∈ U) (hb : ∀ y ∈ vars b, y ∈ U) (ha0 : ∀ x, a = .v x → look σ x = none) (hb0 : ∀ x, b = .v x → look σ x = none)
    (hp : ∀ f ks, a = .c f ks → InP σ D ks) (hm : ub U σ < m ∨ (ub U σ = m ∧ sz (ext (th σ) a) + sz (ext (th σ) b) ≤ s)) :
    ∃ r σ' D' N, (∀ n, N ≤ n → unH n (unF n) σ D a b = some (r, σ', D')) ∧ UnR U σ D [a] [b] r σ' D' := by
  cases a with
  | v x =>
    have hn := ha0 x rfl
    cases b with
    | v y =>
      by_cases hxy : x = y
      · subst hxy
        exact ⟨true, σ, D, 0, fun n _ => by simp only [unH, if_true], ⟨g, Sub.refl σ, fun _ => rfl, fun τ hτ _ => ⟨rfl, hτ⟩, fun _ p h => .inl h, fun _ => ⟨rfl, rfl⟩, fun p h => .inl h, fun h => h, fun p h => h, .inl rfl⟩⟩
      · have hny := hb0 y rfl
        obtain ⟨r, σ', N, h, R⟩ := bd_ex hU9 (D := D) g (ha x (by rw [vars_v]; simp)) hn hb (by rw [ext_v, g.wf.unb hny]; intro e; injection e with e; exact hxy e.symm) (by rw [ext_v, g.wf.unb hny, vars_v]; intro h; simp at h; exact absurd h hxy)
        exact ⟨r, σ', D, N, fun n hn => by simp only [unH, hxy, if_false]; exact h n hn, R⟩
    | c f ls =>
      obtain ⟨r, σ', N, h, R⟩ := bd_ex hU9 (D := D) (t := .c f ls) g (ha x (by rw [vars_v]; simp)) hn hb (by rw [ext_c]; intro e; cases e) (fun hv => by
        rw [ext_c] at hv ⊢
        obtain ⟨k, hk, _⟩ := mem_vars_c.1 hv
        have := sz_kid (n := f) hk
        have := sz_pos k
        omega)
      exact ⟨r, σ', D, N, fun n hn => by simp only [unH]; exact h n hn, R⟩
  | c f ks =>
    cases b with
    | v y =>
      have hny := hb0 y rfl
      obtain ⟨r, σ', N, h, R⟩ := bd_ex hU9 (D := D) (t := .c f ks) g (hb y (by rw [vars_v]; simp)) hny ha (by rw [ext_c]; intro e; cases e) (fun hv => by
        rw [ext_c] at hv ⊢
        obtain ⟨k, hk, _⟩ := mem_vars_c.1 hv
        have := sz_kid (n := f) hk
        have := sz_pos k
        omega)
      refine ⟨r, σ', D, N + 1, fun n hn => ?_, R.swap⟩
      obtain ⟨k, rfl⟩ : ∃ k, n = k + 1 := ⟨n - 1, by omega⟩
      simp only [unH]
      rw [unF_bd hny]
      exact h k (by omega)
    | c f' ls =>
      by_cases hc : f ≠ f' ∨ ks.length ≠ ls.length
      · have no : ∀ τ : Int → Ty, ext τ (.c f ks) ≠ ext τ (.c f' ls) := fun τ e => by
          rw [ext_c, ext_c] at e
          injection e with e1 e2
          rcases hc with h | h
          · exact h e1
          · exact h (by simpa using congrArg List.length e2)
        refine ⟨false, σ, D, 0, fun n _ => by simp only [unH]; rw [if_pos hc], ⟨g, Sub.refl σ, fun h => Bool.noConfusion h, fun τ hτ he => ?_, fun h => Bool.noConfusion h, fun he => ?_, fun p h => .inl h, fun h => h, fun p h => h, .inl rfl⟩⟩
        · exact absurd (by simpa using he) (no τ)
        · exact absurd (by simpa using he) (no _)
      · obtain ⟨hf, hl⟩ : f = f' ∧ ks.length = ls.length := by
          constructor
          · exact Classical.byContradiction fun h => hc (.inl h)
          · exact Classical.byContradiction fun h => hc (.inr h)
        subst hf
        obtain ⟨r, σ', D', N, h, R⟩ := unL_ex IH ks ls σ D hl g (fun k hk y hy => ha y (mem_vars_c.2 ⟨k, hk, hy⟩)) (fun k hk y hy => hb y (mem_vars_c.2 ⟨k, hk, hy⟩)) (hp f ks rfl) (hm.imp (fun h => h) fun h => ⟨h.1, fun k hk l hl => by
          have h1 := sz_kid (n := f) (List.mem_map_of_mem (f := ext (th σ)) hk)
          have h2 := sz_kid (n := f) (List.mem_map_of_mem (f := ext (th σ)) hl)
          have h3 := h.2
          rw [ext_c, ext_c] at h3
          omega⟩)
        have eq1 : ∀ {τ : Int → Ty}, [Ty.c f ks].map (ext τ) = [Ty.c f ls].map (ext τ) ↔ ks.map (ext τ) = ls.map (ext τ) := fun {τ} => by simp [ext_c]
        exact ⟨r, σ', D', N, fun n hn => by simp only [unH]; rw [if_neg hc]; exact h n hn, { R with eq := fun h => eq1.2 (R.eq h), gen := fun τ hτ he => R.gen τ hτ (eq1.1 he), same := fun he => R.same (eq1.1 he) }⟩

theorem un_ex {U : List Int} (hU9 : U.length ≤ 1000000000) : ∀ (m s : Nat) (σ : Sg) (D : Dn) (a b : Ty), (ub U σ < m ∨ (ub U σ = m ∧ sz (ext (th σ) a) + sz (ext (th σ) b) ≤ s)) → Good U σ → (∀ y ∈ vars a, y ∈ U) → (∀ y ∈ vars b, y ∈ U) → InP σ D [a] →
      ∃ r σ' D' N, (∀ n, N ≤ n → unF n σ D a b = some (r, σ', D')) ∧ UnR U σ D [a] [b] r σ' D' := by
  intro m
  induction m with
  | zero =>
    intro s
    induction s with
    | zero =>
      intro σ D a b hm
      have := sz_pos (ext (th σ) a)
      omega
    | succ s ihs => exact fun σ D a b hm g ha hb hp => un_step hU9 (fun σ D a b hm => ihs σ D a b (hm.imp (fun h => h) fun h => ⟨h.1, by omega⟩)) σ D a b hm g ha hb hp
  | succ m ihm =>
    intro s
    induction s with
    | zero =>
      intro σ D a b hm g ha hb hp
      rcases hm with h | h
      · exact ihm (sz (ext (th σ) a) + sz (ext (th σ) b)) σ D a b (by omega) g ha hb hp
      · have := sz_pos (ext (th σ) a)
        omega
    | succ s ihs => exact fun σ D a b hm g ha hb hp => un_step hU9 (fun σ D a b hm => ihs σ D a b (hm.imp (fun h => h) fun h => ⟨h.1, by omega⟩)) σ D a b hm g ha hb hp
where
  un_step {U : List Int} (hU9 : U.length ≤ 1000000000) {m s : Nat} (IH : ∀ σ D a b, (ub U σ < m ∨ (ub U σ = m ∧ sz (ext (th σ) a) + sz (ext (th σ) b) < s + 1)) → Good U σ → (∀ y ∈ vars a, y ∈ U) → (∀ y ∈ vars b, y ∈ U) → InP σ D [a] →
      ∃ r σ' D' N, (∀ n, N ≤ n → unF n σ D a b = some (r, σ', D')) ∧ UnR U σ D [a] [b] r σ' D')
      (σ : Sg) (D : Dn) (a b : Ty) (hm : ub U σ < m ∨ (ub U σ = m ∧ sz (ext (th σ) a) + sz (ext (th σ) b) ≤ s + 1)) (g : Good U σ) (ha : ∀ y ∈ vars a, y ∈ U) (hb : ∀ y ∈ vars b, y ∈ U) (hp : InP σ D [a]) :
      ∃ r σ' D' N, (∀ n, N ≤ n → unF n σ D a b = some (r, σ', D')) ∧ UnR U σ D [a] [b] r σ' D' := by
    obtain ⟨a', ia⟩ := g.wf.hd a
    obtain ⟨b', ib⟩ := g.wf.hd b
    obtain ⟨Na, hNa⟩ := ia.fuel
    obtain ⟨Nb, hNb⟩ := ib.fuel
    have heads : ∀ D1, (∀ p ∈ D1, p ∈ D ∨ (a = .v p.1 ∧ b = .v p.2)) → ∃ r σ' D' N, (∀ n, N ≤ n → unH n (unF n) σ D1 a' b' = some (r, σ', D')) ∧ UnR U σ D1 [a'] [b'] r σ' D' := fun D1 hD1 => by
      refine unH_ex hU9 IH g (ia.inU g ha) (ib.inU g hb) ia.end_ ib.end_ (fun f ks e p hpD => ?_) ?_
      · rcases hD1 p hpD with h | h
        · rcases hp p h with h | h
          · exact .inl h
          · right
            intro τ hτ k hk
            have h1 := h τ hτ a (by simp)
            have h2 := ia.sol hτ
            subst e
            have h3 := sz_kid (n := f) (List.mem_map_of_mem (f := ext τ) hk)
            rw [← ext_c, h2] at h3
            omega
        · right
          intro τ hτ k hk
          have h2 := ia.sol hτ
          subst e
          have h3 := sz_kid (n := f) (List.mem_map_of_mem (f := ext τ) hk)
          rw [← ext_c, h2, h.1, ext_v] at h3
          exact h3
      · rw [ia.sol g.wf.sol, ib.sol g.wf.sol]
        exact hm
    cases hpr : pairOf a b with
    | none =>
      obtain ⟨r, σ', D', N, h, R⟩ := heads D fun p hp => .inl hp
      refine ⟨r, σ', D', Na + Nb + N + 1, fun n hn => ?_, R.heads g ia ib⟩
      obtain ⟨k, rfl⟩ : ∃ k, n = k + 1 := ⟨n - 1, by omega⟩
      simp only [unF, hpr, hNa k (by omega), hNb k (by omega), h k (by omega)]
    | some p =>
      obtain ⟨rfl, rfl⟩ : a = .v p.1 ∧ b = .v p.2 := by
        cases a <;> cases b <;> simp only [pairOf] at hpr <;> first | (cases hpr; done) | (injection hpr with hpr; subst hpr; exact ⟨rfl, rfl⟩)
      by_cases hpD : p ∈ D
      · have he : th σ p.1 = th σ p.2 := by
          rcases hp p hpD with h | h
          · exact h
          · have := h (th σ) g.wf.sol (.v p.1) (by simp)
            rw [ext_v] at this
            omega
        refine ⟨true, σ, D, 1, fun n hn => ?_, ⟨g, Sub.refl σ, fun _ => by simp [ext_v, he], fun τ hτ _ => ⟨rfl, hτ⟩, fun _ p h => .inl h, fun _ => ⟨rfl, rfl⟩, fun p h => .inl h, fun h => h, fun p h => h, .inl rfl⟩⟩
        obtain ⟨k, rfl⟩ : ∃ k, n = k + 1 := ⟨n - 1, by omega⟩
        simp only [unF, hpr]
        rw [if_pos hpD]
      · obtain ⟨r, σ', D', N, h, R⟩ := heads (D ++ [p]) fun q hq => by
          rcases List.mem_append.1 hq with hq | hq
          · exact .inl hq
          · simp at hq; subst hq; exact .inr ⟨rfl, rfl⟩
        have R2 := R.heads g ia ib
        refine ⟨r, σ', D', Na + Nb + N + 1, fun n hn => ?_, { R2 with done := fun hr q hq => ?_, univ := fun q hq => ?_, nod := fun hn => ?_, subD := fun q hq => R2.subD q (List.mem_append_left _ hq) }⟩
        · obtain ⟨k, rfl⟩ : ∃ k, n = k + 1 := ⟨n - 1, by omega⟩
          simp only [unF, hpr]
          rw [if_neg hpD]
          simp only [hNa k (by omega), hNb k (by omega), h k (by omega)]
        · rcases R2.done hr q hq with h | h
          · rcases List.mem_append.1 h with h | h
            · exact .inl h
            · simp at h; subst h
              right
              have := R2.eq hr
              simpa [ext_v] using this
          · exact .inr h
        · rcases R2.univ q hq with h | h
          · rcases List.mem_append.1 h with h | h
            · exact .inl h
            · simp at h; subst h
              exact .inr ⟨ha _ (by rw [vars_v]; simp), hb _ (by rw [vars_v]; simp)⟩
          · exact .inr h
        · refine R2.nod ?_
          rw [List.nodup_append]
          exact ⟨hn, by simp, fun x hx y hy => by simp at hy; subst hy; exact fun e => hpD (e ▸ hx)⟩
/-- two types made one, all pairs so far being one -/
theorem Good.un {U : List Int} (hU9 : U.length ≤ 1000000000) {σ : Sg} (g : Good U σ) {D : Dn} (hD : ∀ p ∈ D, th σ p.1 = th σ p.2) {a b : Ty} (ha : ∀ y ∈ vars a, y ∈ U) (hb : ∀ y ∈ vars b, y ∈ U) :
    ∃ r σ' D' N, (∀ n, N ≤ n → unF n σ D a b = some (r, σ', D')) ∧ UnR U σ D [a] [b] r σ' D' :=
  un_ex hU9 (ub U σ) (sz (ext (th σ) a) + sz (ext (th σ) b)) σ D a b (.inr ⟨rfl, Nat.le_refl _⟩) g ha hb fun p hp => .inl (hD p hp)
/-- the lists grow -/
theorem bdF_len {n : Nat} {σ : Sg} {D : Dn} {x : Int} {t : Ty} {r : Bool} {σ' : Sg} {D' : Dn} (h : bdF n σ D x t = some (r, σ', D')) : σ.length ≤ σ'.length ∧ D.length ≤ D'.length := by
  simp only [bdF] at h
  split at h
  · cases h
  · split at h
    · cases h
    · split at h <;> (injection h with h; injection h with _ h; injection h with h1 h2; subst h1; subst h2; simp)
theorem unL_len {f : Sg → Dn → Ty → Ty → Option UnS} (hf : ∀ σ D a b r σ' D', f σ D a b = some (r, σ', D') → σ.length ≤ σ'.length ∧ D.length ≤ D'.length) :
    ∀ {as_ bs : List Ty} {σ : Sg} {D : Dn} {r : Bool} {σ' : Sg} {D' : Dn}, unL f as_ bs σ D = some (r, σ', D') → σ.length ≤ σ'.length ∧ D.length ≤ D'.length
  | [], _, σ, D, r, σ', D', h => by simp only [unL] at h; injection h with h; injection h with _ h; injection h with h1 h2; subst h1; subst h2; exact ⟨Nat.le_refl _, Nat.le_refl _⟩
  | _ :: _, [], σ, D, r, σ', D', h => by simp only [unL] at h; injection h with h; injection h with _ h; injection h with h1 h2; subst h1; subst h2; exact ⟨Nat.le_refl _, Nat.le_refl _⟩
  | a :: as_, b :: bs, σ, D, r, σ', D', h => by
    simp only [unL] at h
    split at h
    · cases h
    · rename_i s1 d1 he
      have := hf _ _ _ _ _ _ _ he
      injection h with h; injection h with _ h; injection h with h1 h2; subst h1; subst h2
      exact this
    · rename_i s1 d1 he
      have h1 := hf _ _ _ _ _ _ _ he
      have h2 := unL_len hf h
      omega
theorem unF_len : ∀ {n : Nat} {σ : Sg} {D : Dn} {a b : Ty} {r : Bool} {σ' : Sg} {D' : Dn}, unF n σ D a b = some (r, σ', D') → σ.length ≤ σ'.length ∧ D.length ≤ D'.length
  | 0, σ, D, a, b, r, σ', D', h => by simp [unF] at h
  | n + 1, σ, D, a, b, r, σ', D', h => by
    have hH : ∀ {D1 : Dn} {a' b' : Ty}, unH n (unF n) σ D1 a' b' = some (r, σ', D') → σ.length ≤ σ'.length ∧ D1.length ≤ D'.length := fun {D1 a' b'} h => by
      cases a' <;> cases b' <;> simp only [unH] at h
      · split at h
        · injection h with h; injection h with _ h; injection h with h1 h2; subst h1; subst h2; exact ⟨Nat.le_refl _, Nat.le_refl _⟩
        · exact bdF_len h
      · exact bdF_len h
      · exact unF_len h
      · split at h
        · injection h with h; injection h with _ h; injection h with h1 h2; subst h1; subst h2; exact ⟨Nat.le_refl _, Nat.le_refl _⟩
        · exact unL_len (fun σ D a b r σ' D' h => unF_len h) h
    simp only [unF] at h
    split at h
    · split at h
      · injection h with h; injection h with _ h; injection h with h1 h2; subst h1; subst h2; exact ⟨Nat.le_refl _, Nat.le_refl _⟩
      · split at h
        · have := hH h
          simp only [List.length_append, List.length_singleton] at this
          omega
        · cases h
    · split at h
      · exact hH h
      · cases h
end Go.Proofs.Ytncakfcafkfmfaa

/-
  Closed facts on the types and functions of this seat, by a program of this work (tab.py).
-/
namespace Go.Proofs.Ytncakfcafkfmfaa

theorem zero_0 : zeroOf Try.prog 0 = some (.tuple #[]) := by kernel_rfl
theorem some_0 : (Try.prog.underlying 0).isSome = true := by kernel_rfl
theorem flat_1 : flatB Try.prog 1 = true := by kernel_rfl
theorem size_1 : sizeIs Try.prog 1 1 = true := by kernel_rfl
theorem zero_1 : zeroOf Try.prog 1 = some (.nilFunc) := by kernel_rfl
theorem some_1 : (Try.prog.underlying 1).isSome = true := by kernel_rfl
theorem flat_2 : flatB Try.prog 2 = true := by kernel_rfl
theorem size_2 : sizeIs Try.prog 2 1 = true := by kernel_rfl
theorem zero_2 : zeroOf Try.prog 2 = some (.int .i64 0) := by kernel_rfl
theorem int_2 : Try.prog.underlying 2 = some (.int .i64) := by kernel_rfl
theorem some_2 : (Try.prog.underlying 2).isSome = true := by kernel_rfl
theorem flat_3 : flatB Try.prog 3 = true := by kernel_rfl
theorem size_3 : sizeIs Try.prog 3 1 = true := by kernel_rfl
theorem zero_3 : zeroOf Try.prog 3 = some (.int .i64 0) := by kernel_rfl
theorem int_3 : Try.prog.underlying 3 = some (.int .i64) := by kernel_rfl
theorem some_3 : (Try.prog.underlying 3).isSome = true := by kernel_rfl
theorem flat_4 : flatB Try.prog 4 = true := by kernel_rfl
theorem size_4 : sizeIs Try.prog 4 1 = true := by kernel_rfl
theorem zero_4 : zeroOf Try.prog 4 = some (.bool false) := by kernel_rfl
theorem bool_4 : Try.prog.underlying 4 = some .bool := by kernel_rfl
theorem some_4 : (Try.prog.underlying 4).isSome = true := by kernel_rfl
theorem flat_5 : flatB Try.prog 5 = true := by kernel_rfl
theorem size_5 : sizeIs Try.prog 5 1 = true := by kernel_rfl
theorem zero_5 : zeroOf Try.prog 5 = some (.int .u8 0) := by kernel_rfl
theorem int_5 : Try.prog.underlying 5 = some (.int .u8) := by kernel_rfl
theorem some_5 : (Try.prog.underlying 5).isSome = true := by kernel_rfl
theorem flat_9 : flatB Try.prog 9 = true := by kernel_rfl
theorem size_9 : sizeIs Try.prog 9 1 = true := by kernel_rfl
theorem zero_9 : zeroOf Try.prog 9 = some (.string ⟨#[]⟩) := by kernel_rfl
theorem str_9 : Try.prog.underlying 9 = some .string := by kernel_rfl
theorem some_9 : (Try.prog.underlying 9).isSome = true := by kernel_rfl
theorem flat_12 : flatB Try.prog 12 = true := by kernel_rfl
theorem size_12 : sizeIs Try.prog 12 1 = true := by kernel_rfl
theorem zero_12 : zeroOf Try.prog 12 = some (.int .u64 0) := by kernel_rfl
theorem int_12 : Try.prog.underlying 12 = some (.int .u64) := by kernel_rfl
theorem some_12 : (Try.prog.underlying 12).isSome = true := by kernel_rfl
theorem agg_13 : aggB Try.prog 13 = true := by kernel_rfl
theorem size_13 : sizeIs Try.prog 13 2 = true := by kernel_rfl
theorem zero_13 : zeroOf Try.prog 13 = some (.agg #[.string ⟨#[]⟩, .int .u64 0]) := by kernel_rfl
theorem plc_13 : placesOf Try.prog 13 = some [(0, 1), (1, 1)] := by kernel_rfl
theorem fld_13_0 : fieldOff Try.prog 13 0 = some 0 := by kernel_rfl
theorem fld_13_1 : fieldOff Try.prog 13 1 = some 1 := by kernel_rfl
theorem some_13 : (Try.prog.underlying 13).isSome = true := by kernel_rfl
theorem flat_20 : flatB Try.prog 20 = true := by kernel_rfl
theorem size_20 : sizeIs Try.prog 20 1 = true := by kernel_rfl
theorem zero_20 : zeroOf Try.prog 20 = some (.nilIface) := by kernel_rfl
theorem some_20 : (Try.prog.underlying 20).isSome = true := by kernel_rfl
theorem flat_21 : flatB Try.prog 21 = true := by kernel_rfl
theorem size_21 : sizeIs Try.prog 21 1 = true := by kernel_rfl
theorem zero_21 : zeroOf Try.prog 21 = some (.int .i32 0) := by kernel_rfl
theorem int_21 : Try.prog.underlying 21 = some (.int .i32) := by kernel_rfl
theorem some_21 : (Try.prog.underlying 21).isSome = true := by kernel_rfl
theorem flat_22 : flatB Try.prog 22 = true := by kernel_rfl
theorem size_22 : sizeIs Try.prog 22 1 = true := by kernel_rfl
theorem zero_22 : zeroOf Try.prog 22 = some (.nilFunc) := by kernel_rfl
theorem some_22 : (Try.prog.underlying 22).isSome = true := by kernel_rfl
theorem flat_23 : flatB Try.prog 23 = true := by kernel_rfl
theorem size_23 : sizeIs Try.prog 23 1 = true := by kernel_rfl
theorem zero_23 : zeroOf Try.prog 23 = some (.pointer none) := by kernel_rfl
theorem ptr_23 : Try.prog.underlying 23 = some (.pointer (Try.prog.pointee 23)) := by kernel_rfl
theorem some_23 : (Try.prog.underlying 23).isSome = true := by kernel_rfl
theorem flat_24 : flatB Try.prog 24 = true := by kernel_rfl
theorem size_24 : sizeIs Try.prog 24 1 = true := by kernel_rfl
theorem zero_24 : zeroOf Try.prog 24 = some (.nilFunc) := by kernel_rfl
theorem some_24 : (Try.prog.underlying 24).isSome = true := by kernel_rfl
theorem flat_25 : flatB Try.prog 25 = true := by kernel_rfl
theorem size_25 : sizeIs Try.prog 25 1 = true := by kernel_rfl
theorem zero_25 : zeroOf Try.prog 25 = some (.nilFunc) := by kernel_rfl
theorem some_25 : (Try.prog.underlying 25).isSome = true := by kernel_rfl
theorem flat_26 : flatB Try.prog 26 = true := by kernel_rfl
theorem size_26 : sizeIs Try.prog 26 1 = true := by kernel_rfl
theorem zero_26 : zeroOf Try.prog 26 = some (.slice none 0 0) := by kernel_rfl
theorem elem_26 : sliceElem Try.prog 26 = some 28 := by kernel_rfl
theorem row_26 : RowT Try.prog 26 28 3 48 (.agg #[.string ⟨#[]⟩, .int .i64 0, .slice none 0 0]) := ⟨by kernel_rfl, by kernel_rfl, rfl, by decide⟩
theorem some_26 : (Try.prog.underlying 26).isSome = true := by kernel_rfl
theorem agg_27 : aggB Try.prog 27 = true := by kernel_rfl
theorem size_27 : sizeIs Try.prog 27 3 = true := by kernel_rfl
theorem zero_27 : zeroOf Try.prog 27 = some (.agg #[.string ⟨#[]⟩, .int .i64 0, .slice none 0 0]) := by kernel_rfl
theorem plc_27 : placesOf Try.prog 27 = some [(0, 1), (1, 1), (2, 1)] := by kernel_rfl
theorem fld_27_0 : fieldOff Try.prog 27 0 = some 0 := by kernel_rfl
theorem fld_27_1 : fieldOff Try.prog 27 1 = some 1 := by kernel_rfl
theorem fld_27_2 : fieldOff Try.prog 27 2 = some 2 := by kernel_rfl
theorem some_27 : (Try.prog.underlying 27).isSome = true := by kernel_rfl
theorem agg_28 : aggB Try.prog 28 = true := by kernel_rfl
theorem size_28 : sizeIs Try.prog 28 3 = true := by kernel_rfl
theorem zero_28 : zeroOf Try.prog 28 = some (.agg #[.string ⟨#[]⟩, .int .i64 0, .slice none 0 0]) := by kernel_rfl
theorem plc_28 : placesOf Try.prog 28 = some [(0, 1), (1, 1), (2, 1)] := by kernel_rfl
theorem fld_28_0 : fieldOff Try.prog 28 0 = some 0 := by kernel_rfl
theorem fld_28_1 : fieldOff Try.prog 28 1 = some 1 := by kernel_rfl
theorem fld_28_2 : fieldOff Try.prog 28 2 = some 2 := by kernel_rfl
theorem some_28 : (Try.prog.underlying 28).isSome = true := by kernel_rfl
theorem flat_29 : flatB Try.prog 29 = true := by kernel_rfl
theorem size_29 : sizeIs Try.prog 29 1 = true := by kernel_rfl
theorem zero_29 : zeroOf Try.prog 29 = some (.nilFunc) := by kernel_rfl
theorem some_29 : (Try.prog.underlying 29).isSome = true := by kernel_rfl
theorem flat_30 : flatB Try.prog 30 = true := by kernel_rfl
theorem size_30 : sizeIs Try.prog 30 1 = true := by kernel_rfl
theorem zero_30 : zeroOf Try.prog 30 = some (.nilFunc) := by kernel_rfl
theorem some_30 : (Try.prog.underlying 30).isSome = true := by kernel_rfl
theorem flat_31 : flatB Try.prog 31 = true := by kernel_rfl
theorem size_31 : sizeIs Try.prog 31 1 = true := by kernel_rfl
theorem zero_31 : zeroOf Try.prog 31 = some (.nilFunc) := by kernel_rfl
theorem some_31 : (Try.prog.underlying 31).isSome = true := by kernel_rfl
theorem flat_32 : flatB Try.prog 32 = true := by kernel_rfl
theorem size_32 : sizeIs Try.prog 32 1 = true := by kernel_rfl
theorem zero_32 : zeroOf Try.prog 32 = some (.nilFunc) := by kernel_rfl
theorem some_32 : (Try.prog.underlying 32).isSome = true := by kernel_rfl
theorem flat_33 : flatB Try.prog 33 = true := by kernel_rfl
theorem size_33 : sizeIs Try.prog 33 1 = true := by kernel_rfl
theorem zero_33 : zeroOf Try.prog 33 = some (.slice none 0 0) := by kernel_rfl
theorem elem_33 : sliceElem Try.prog 33 = some 3 := by kernel_rfl
theorem row_33 : RowT Try.prog 33 3 1 8 (.int .i64 0) := ⟨by kernel_rfl, by kernel_rfl, rfl, by decide⟩
theorem some_33 : (Try.prog.underlying 33).isSome = true := by kernel_rfl
theorem flat_34 : flatB Try.prog 34 = true := by kernel_rfl
theorem size_34 : sizeIs Try.prog 34 1 = true := by kernel_rfl
theorem zero_34 : zeroOf Try.prog 34 = some (.nilFunc) := by kernel_rfl
theorem some_34 : (Try.prog.underlying 34).isSome = true := by kernel_rfl
theorem flat_35 : flatB Try.prog 35 = true := by kernel_rfl
theorem size_35 : sizeIs Try.prog 35 1 = true := by kernel_rfl
theorem zero_35 : zeroOf Try.prog 35 = some (.nilFunc) := by kernel_rfl
theorem some_35 : (Try.prog.underlying 35).isSome = true := by kernel_rfl
theorem flat_36 : flatB Try.prog 36 = true := by kernel_rfl
theorem size_36 : sizeIs Try.prog 36 1 = true := by kernel_rfl
theorem zero_36 : zeroOf Try.prog 36 = some (.nilFunc) := by kernel_rfl
theorem some_36 : (Try.prog.underlying 36).isSome = true := by kernel_rfl
theorem flat_37 : flatB Try.prog 37 = true := by kernel_rfl
theorem size_37 : sizeIs Try.prog 37 1 = true := by kernel_rfl
theorem zero_37 : zeroOf Try.prog 37 = some (.slice none 0 0) := by kernel_rfl
theorem elem_37 : sliceElem Try.prog 37 = some 39 := by kernel_rfl
theorem row_37 : RowT Try.prog 37 39 6 96 (.agg #[.string ⟨#[]⟩, .int .i64 0, .slice none 0 0, .string ⟨#[]⟩, .int .i64 0, .slice none 0 0]) := ⟨by kernel_rfl, by kernel_rfl, rfl, by decide⟩
theorem some_37 : (Try.prog.underlying 37).isSome = true := by kernel_rfl
theorem agg_38 : aggB Try.prog 38 = true := by kernel_rfl
theorem size_38 : sizeIs Try.prog 38 6 = true := by kernel_rfl
theorem zero_38 : zeroOf Try.prog 38 = some (.agg #[.string ⟨#[]⟩, .int .i64 0, .slice none 0 0, .string ⟨#[]⟩, .int .i64 0, .slice none 0 0]) := by kernel_rfl
theorem plc_38 : placesOf Try.prog 38 = some [(0, 3), (3, 3)] := by kernel_rfl
theorem fld_38_0 : fieldOff Try.prog 38 0 = some 0 := by kernel_rfl
theorem fld_38_1 : fieldOff Try.prog 38 1 = some 3 := by kernel_rfl
theorem some_38 : (Try.prog.underlying 38).isSome = true := by kernel_rfl
theorem agg_39 : aggB Try.prog 39 = true := by kernel_rfl
theorem size_39 : sizeIs Try.prog 39 6 = true := by kernel_rfl
theorem zero_39 : zeroOf Try.prog 39 = some (.agg #[.string ⟨#[]⟩, .int .i64 0, .slice none 0 0, .string ⟨#[]⟩, .int .i64 0, .slice none 0 0]) := by kernel_rfl
theorem plc_39 : placesOf Try.prog 39 = some [(0, 3), (3, 3)] := by kernel_rfl
theorem fld_39_0 : fieldOff Try.prog 39 0 = some 0 := by kernel_rfl
theorem fld_39_1 : fieldOff Try.prog 39 1 = some 3 := by kernel_rfl
theorem some_39 : (Try.prog.underlying 39).isSome = true := by kernel_rfl
theorem flat_40 : flatB Try.prog 40 = true := by kernel_rfl
theorem size_40 : sizeIs Try.prog 40 1 = true := by kernel_rfl
theorem zero_40 : zeroOf Try.prog 40 = some (.nilFunc) := by kernel_rfl
theorem some_40 : (Try.prog.underlying 40).isSome = true := by kernel_rfl
theorem flat_41 : flatB Try.prog 41 = true := by kernel_rfl
theorem size_41 : sizeIs Try.prog 41 1 = true := by kernel_rfl
theorem zero_41 : zeroOf Try.prog 41 = some (.nilFunc) := by kernel_rfl
theorem some_41 : (Try.prog.underlying 41).isSome = true := by kernel_rfl
theorem flat_42 : flatB Try.prog 42 = true := by kernel_rfl
theorem size_42 : sizeIs Try.prog 42 1 = true := by kernel_rfl
theorem zero_42 : zeroOf Try.prog 42 = some (.nilFunc) := by kernel_rfl
theorem some_42 : (Try.prog.underlying 42).isSome = true := by kernel_rfl
theorem flat_43 : flatB Try.prog 43 = true := by kernel_rfl
theorem size_43 : sizeIs Try.prog 43 1 = true := by kernel_rfl
theorem zero_43 : zeroOf Try.prog 43 = some (.pointer none) := by kernel_rfl
theorem ptr_43 : Try.prog.underlying 43 = some (.pointer (Try.prog.pointee 43)) := by kernel_rfl
theorem some_43 : (Try.prog.underlying 43).isSome = true := by kernel_rfl
theorem flat_44 : flatB Try.prog 44 = true := by kernel_rfl
theorem size_44 : sizeIs Try.prog 44 1 = true := by kernel_rfl
theorem zero_44 : zeroOf Try.prog 44 = some (.slice none 0 0) := by kernel_rfl
theorem elem_44 : sliceElem Try.prog 44 = some 60 := by kernel_rfl
theorem row_44 : RowT Try.prog 44 60 2 16 (.agg #[.int .i64 0, .int .i64 0]) := ⟨by kernel_rfl, by kernel_rfl, rfl, by decide⟩
theorem some_44 : (Try.prog.underlying 44).isSome = true := by kernel_rfl
theorem agg_45 : aggB Try.prog 45 = true := by kernel_rfl
theorem size_45 : sizeIs Try.prog 45 4 = true := by kernel_rfl
theorem zero_45 : zeroOf Try.prog 45 = some (.agg #[.int .i64 0, .slice none 0 0, .slice none 0 0, .slice none 0 0]) := by kernel_rfl
theorem plc_45 : placesOf Try.prog 45 = some [(0, 1), (1, 1), (2, 1), (3, 1)] := by kernel_rfl
theorem fld_45_0 : fieldOff Try.prog 45 0 = some 0 := by kernel_rfl
theorem fld_45_1 : fieldOff Try.prog 45 1 = some 1 := by kernel_rfl
theorem fld_45_2 : fieldOff Try.prog 45 2 = some 2 := by kernel_rfl
theorem fld_45_3 : fieldOff Try.prog 45 3 = some 3 := by kernel_rfl
theorem some_45 : (Try.prog.underlying 45).isSome = true := by kernel_rfl
theorem agg_46 : aggB Try.prog 46 = true := by kernel_rfl
theorem size_46 : sizeIs Try.prog 46 4 = true := by kernel_rfl
theorem zero_46 : zeroOf Try.prog 46 = some (.agg #[.int .i64 0, .slice none 0 0, .slice none 0 0, .slice none 0 0]) := by kernel_rfl
theorem plc_46 : placesOf Try.prog 46 = some [(0, 1), (1, 1), (2, 1), (3, 1)] := by kernel_rfl
theorem fld_46_0 : fieldOff Try.prog 46 0 = some 0 := by kernel_rfl
theorem fld_46_1 : fieldOff Try.prog 46 1 = some 1 := by kernel_rfl
theorem fld_46_2 : fieldOff Try.prog 46 2 = some 2 := by kernel_rfl
theorem fld_46_3 : fieldOff Try.prog 46 3 = some 3 := by kernel_rfl
theorem some_46 : (Try.prog.underlying 46).isSome = true := by kernel_rfl
theorem flat_47 : flatB Try.prog 47 = true := by kernel_rfl
theorem size_47 : sizeIs Try.prog 47 1 = true := by kernel_rfl
theorem zero_47 : zeroOf Try.prog 47 = some (.nilFunc) := by kernel_rfl
theorem some_47 : (Try.prog.underlying 47).isSome = true := by kernel_rfl
theorem agg_48 : aggB Try.prog 48 = true := by kernel_rfl
theorem size_48 : sizeIs Try.prog 48 4 = true := by kernel_rfl
theorem zero_48 : zeroOf Try.prog 48 = some (.agg #[.int .i64 0, .string ⟨#[]⟩, .int .i64 0, .slice none 0 0]) := by kernel_rfl
theorem plc_48 : placesOf Try.prog 48 = some [(0, 1), (1, 3)] := by kernel_rfl
theorem fld_48_0 : fieldOff Try.prog 48 0 = some 0 := by kernel_rfl
theorem fld_48_1 : fieldOff Try.prog 48 1 = some 1 := by kernel_rfl
theorem some_48 : (Try.prog.underlying 48).isSome = true := by kernel_rfl
theorem agg_49 : aggB Try.prog 49 = true := by kernel_rfl
theorem size_49 : sizeIs Try.prog 49 4 = true := by kernel_rfl
theorem zero_49 : zeroOf Try.prog 49 = some (.agg #[.int .i64 0, .string ⟨#[]⟩, .int .i64 0, .slice none 0 0]) := by kernel_rfl
theorem plc_49 : placesOf Try.prog 49 = some [(0, 1), (1, 3)] := by kernel_rfl
theorem fld_49_0 : fieldOff Try.prog 49 0 = some 0 := by kernel_rfl
theorem fld_49_1 : fieldOff Try.prog 49 1 = some 1 := by kernel_rfl
theorem some_49 : (Try.prog.underlying 49).isSome = true := by kernel_rfl
theorem flat_50 : flatB Try.prog 50 = true := by kernel_rfl
theorem size_50 : sizeIs Try.prog 50 1 = true := by kernel_rfl
theorem zero_50 : zeroOf Try.prog 50 = some (.nilFunc) := by kernel_rfl
theorem some_50 : (Try.prog.underlying 50).isSome = true := by kernel_rfl
theorem flat_51 : flatB Try.prog 51 = true := by kernel_rfl
theorem size_51 : sizeIs Try.prog 51 1 = true := by kernel_rfl
theorem zero_51 : zeroOf Try.prog 51 = some (.nilFunc) := by kernel_rfl
theorem some_51 : (Try.prog.underlying 51).isSome = true := by kernel_rfl
theorem flat_52 : flatB Try.prog 52 = true := by kernel_rfl
theorem size_52 : sizeIs Try.prog 52 1 = true := by kernel_rfl
theorem zero_52 : zeroOf Try.prog 52 = some (.nilFunc) := by kernel_rfl
theorem some_52 : (Try.prog.underlying 52).isSome = true := by kernel_rfl
theorem zero_53 : zeroOf Try.prog 53 = some (.tuple #[.agg #[.int .i64 0, .string ⟨#[]⟩, .int .i64 0, .slice none 0 0], .slice none 0 0]) := by kernel_rfl
theorem some_53 : (Try.prog.underlying 53).isSome = true := by kernel_rfl
theorem flat_54 : flatB Try.prog 54 = true := by kernel_rfl
theorem size_54 : sizeIs Try.prog 54 1 = true := by kernel_rfl
theorem zero_54 : zeroOf Try.prog 54 = some (.nilFunc) := by kernel_rfl
theorem some_54 : (Try.prog.underlying 54).isSome = true := by kernel_rfl
theorem flat_55 : flatB Try.prog 55 = true := by kernel_rfl
theorem size_55 : sizeIs Try.prog 55 1 = true := by kernel_rfl
theorem zero_55 : zeroOf Try.prog 55 = some (.nilFunc) := by kernel_rfl
theorem some_55 : (Try.prog.underlying 55).isSome = true := by kernel_rfl
theorem flat_56 : flatB Try.prog 56 = true := by kernel_rfl
theorem size_56 : sizeIs Try.prog 56 1 = true := by kernel_rfl
theorem zero_56 : zeroOf Try.prog 56 = some (.map none) := by kernel_rfl
theorem map_56 : Try.prog.underlying 56 = some (.map 3 28) := by kernel_rfl
theorem some_56 : (Try.prog.underlying 56).isSome = true := by kernel_rfl
theorem flat_57 : flatB Try.prog 57 = true := by kernel_rfl
theorem size_57 : sizeIs Try.prog 57 1 = true := by kernel_rfl
theorem zero_57 : zeroOf Try.prog 57 = some (.map none) := by kernel_rfl
theorem map_57 : Try.prog.underlying 57 = some (.map 60 4) := by kernel_rfl
theorem some_57 : (Try.prog.underlying 57).isSome = true := by kernel_rfl
theorem agg_58 : aggB Try.prog 58 = true := by kernel_rfl
theorem size_58 : sizeIs Try.prog 58 3 = true := by kernel_rfl
theorem zero_58 : zeroOf Try.prog 58 = some (.agg #[.map none, .int .i64 0, .map none]) := by kernel_rfl
theorem plc_58 : placesOf Try.prog 58 = some [(0, 1), (1, 1), (2, 1)] := by kernel_rfl
theorem fld_58_0 : fieldOff Try.prog 58 0 = some 0 := by kernel_rfl
theorem fld_58_1 : fieldOff Try.prog 58 1 = some 1 := by kernel_rfl
theorem fld_58_2 : fieldOff Try.prog 58 2 = some 2 := by kernel_rfl
theorem some_58 : (Try.prog.underlying 58).isSome = true := by kernel_rfl
theorem agg_59 : aggB Try.prog 59 = true := by kernel_rfl
theorem size_59 : sizeIs Try.prog 59 3 = true := by kernel_rfl
theorem zero_59 : zeroOf Try.prog 59 = some (.agg #[.map none, .int .i64 0, .map none]) := by kernel_rfl
theorem plc_59 : placesOf Try.prog 59 = some [(0, 1), (1, 1), (2, 1)] := by kernel_rfl
theorem fld_59_0 : fieldOff Try.prog 59 0 = some 0 := by kernel_rfl
theorem fld_59_1 : fieldOff Try.prog 59 1 = some 1 := by kernel_rfl
theorem fld_59_2 : fieldOff Try.prog 59 2 = some 2 := by kernel_rfl
theorem some_59 : (Try.prog.underlying 59).isSome = true := by kernel_rfl
theorem agg_60 : aggB Try.prog 60 = true := by kernel_rfl
theorem size_60 : sizeIs Try.prog 60 2 = true := by kernel_rfl
theorem zero_60 : zeroOf Try.prog 60 = some (.agg #[.int .i64 0, .int .i64 0]) := by kernel_rfl
theorem arrz_60 : arrayOf Try.prog 60 = some 1 := by kernel_rfl
theorem arr_60 : Try.prog.underlying 60 = some (.array 2 3) := by kernel_rfl
theorem some_60 : (Try.prog.underlying 60).isSome = true := by kernel_rfl
theorem flat_61 : flatB Try.prog 61 = true := by kernel_rfl
theorem size_61 : sizeIs Try.prog 61 1 = true := by kernel_rfl
theorem zero_61 : zeroOf Try.prog 61 = some (.nilFunc) := by kernel_rfl
theorem some_61 : (Try.prog.underlying 61).isSome = true := by kernel_rfl
theorem flat_62 : flatB Try.prog 62 = true := by kernel_rfl
theorem size_62 : sizeIs Try.prog 62 1 = true := by kernel_rfl
theorem zero_62 : zeroOf Try.prog 62 = some (.nilFunc) := by kernel_rfl
theorem some_62 : (Try.prog.underlying 62).isSome = true := by kernel_rfl
theorem flat_63 : flatB Try.prog 63 = true := by kernel_rfl
theorem size_63 : sizeIs Try.prog 63 1 = true := by kernel_rfl
theorem zero_63 : zeroOf Try.prog 63 = some (.nilFunc) := by kernel_rfl
theorem some_63 : (Try.prog.underlying 63).isSome = true := by kernel_rfl
theorem flat_64 : flatB Try.prog 64 = true := by kernel_rfl
theorem size_64 : sizeIs Try.prog 64 1 = true := by kernel_rfl
theorem zero_64 : zeroOf Try.prog 64 = some (.nilFunc) := by kernel_rfl
theorem some_64 : (Try.prog.underlying 64).isSome = true := by kernel_rfl
theorem flat_65 : flatB Try.prog 65 = true := by kernel_rfl
theorem size_65 : sizeIs Try.prog 65 1 = true := by kernel_rfl
theorem zero_65 : zeroOf Try.prog 65 = some (.nilFunc) := by kernel_rfl
theorem some_65 : (Try.prog.underlying 65).isSome = true := by kernel_rfl
theorem flat_66 : flatB Try.prog 66 = true := by kernel_rfl
theorem size_66 : sizeIs Try.prog 66 1 = true := by kernel_rfl
theorem zero_66 : zeroOf Try.prog 66 = some (.nilFunc) := by kernel_rfl
theorem some_66 : (Try.prog.underlying 66).isSome = true := by kernel_rfl
theorem flat_67 : flatB Try.prog 67 = true := by kernel_rfl
theorem size_67 : sizeIs Try.prog 67 1 = true := by kernel_rfl
theorem zero_67 : zeroOf Try.prog 67 = some (.nilFunc) := by kernel_rfl
theorem some_67 : (Try.prog.underlying 67).isSome = true := by kernel_rfl
theorem flat_68 : flatB Try.prog 68 = true := by kernel_rfl
theorem size_68 : sizeIs Try.prog 68 1 = true := by kernel_rfl
theorem zero_68 : zeroOf Try.prog 68 = some (.nilFunc) := by kernel_rfl
theorem some_68 : (Try.prog.underlying 68).isSome = true := by kernel_rfl
theorem flat_69 : flatB Try.prog 69 = true := by kernel_rfl
theorem size_69 : sizeIs Try.prog 69 1 = true := by kernel_rfl
theorem zero_69 : zeroOf Try.prog 69 = some (.nilFunc) := by kernel_rfl
theorem some_69 : (Try.prog.underlying 69).isSome = true := by kernel_rfl
theorem flat_70 : flatB Try.prog 70 = true := by kernel_rfl
theorem size_70 : sizeIs Try.prog 70 1 = true := by kernel_rfl
theorem zero_70 : zeroOf Try.prog 70 = some (.nilFunc) := by kernel_rfl
theorem some_70 : (Try.prog.underlying 70).isSome = true := by kernel_rfl
theorem zero_71 : zeroOf Try.prog 71 = some (.tuple #[.agg #[.string ⟨#[]⟩, .int .i64 0, .slice none 0 0], .bool false]) := by kernel_rfl
theorem some_71 : (Try.prog.underlying 71).isSome = true := by kernel_rfl
theorem flat_72 : flatB Try.prog 72 = true := by kernel_rfl
theorem size_72 : sizeIs Try.prog 72 1 = true := by kernel_rfl
theorem zero_72 : zeroOf Try.prog 72 = some (.map none) := by kernel_rfl
theorem map_72 : Try.prog.underlying 72 = some (.map 3 4) := by kernel_rfl
theorem some_72 : (Try.prog.underlying 72).isSome = true := by kernel_rfl
theorem flat_73 : flatB Try.prog 73 = true := by kernel_rfl
theorem size_73 : sizeIs Try.prog 73 1 = true := by kernel_rfl
theorem zero_73 : zeroOf Try.prog 73 = some (.nilFunc) := by kernel_rfl
theorem some_73 : (Try.prog.underlying 73).isSome = true := by kernel_rfl
theorem flat_74 : flatB Try.prog 74 = true := by kernel_rfl
theorem size_74 : sizeIs Try.prog 74 1 = true := by kernel_rfl
theorem zero_74 : zeroOf Try.prog 74 = some (.nilFunc) := by kernel_rfl
theorem some_74 : (Try.prog.underlying 74).isSome = true := by kernel_rfl
theorem flat_75 : flatB Try.prog 75 = true := by kernel_rfl
theorem size_75 : sizeIs Try.prog 75 1 = true := by kernel_rfl
theorem zero_75 : zeroOf Try.prog 75 = some (.pointer none) := by kernel_rfl
theorem ptr_75 : Try.prog.underlying 75 = some (.pointer (Try.prog.pointee 75)) := by kernel_rfl
theorem some_75 : (Try.prog.underlying 75).isSome = true := by kernel_rfl
theorem flat_76 : flatB Try.prog 76 = true := by kernel_rfl
theorem size_76 : sizeIs Try.prog 76 1 = true := by kernel_rfl
theorem zero_76 : zeroOf Try.prog 76 = some (.nilFunc) := by kernel_rfl
theorem some_76 : (Try.prog.underlying 76).isSome = true := by kernel_rfl
theorem flat_77 : flatB Try.prog 77 = true := by kernel_rfl
theorem size_77 : sizeIs Try.prog 77 1 = true := by kernel_rfl
theorem zero_77 : zeroOf Try.prog 77 = some (.nilFunc) := by kernel_rfl
theorem some_77 : (Try.prog.underlying 77).isSome = true := by kernel_rfl
theorem flat_78 : flatB Try.prog 78 = true := by kernel_rfl
theorem size_78 : sizeIs Try.prog 78 1 = true := by kernel_rfl
theorem zero_78 : zeroOf Try.prog 78 = some (.nilFunc) := by kernel_rfl
theorem some_78 : (Try.prog.underlying 78).isSome = true := by kernel_rfl
theorem flat_84 : flatB Try.prog 84 = true := by kernel_rfl
theorem size_84 : sizeIs Try.prog 84 1 = true := by kernel_rfl
theorem zero_84 : zeroOf Try.prog 84 = some (.nilFunc) := by kernel_rfl
theorem some_84 : (Try.prog.underlying 84).isSome = true := by kernel_rfl
theorem flat_85 : flatB Try.prog 85 = true := by kernel_rfl
theorem size_85 : sizeIs Try.prog 85 1 = true := by kernel_rfl
theorem zero_85 : zeroOf Try.prog 85 = some (.int .u32 0) := by kernel_rfl
theorem int_85 : Try.prog.underlying 85 = some (.int .u32) := by kernel_rfl
theorem some_85 : (Try.prog.underlying 85).isSome = true := by kernel_rfl
theorem flat_88 : flatB Try.prog 88 = true := by kernel_rfl
theorem size_88 : sizeIs Try.prog 88 1 = true := by kernel_rfl
theorem zero_88 : zeroOf Try.prog 88 = some (.nilFunc) := by kernel_rfl
theorem some_88 : (Try.prog.underlying 88).isSome = true := by kernel_rfl
theorem flat_89 : flatB Try.prog 89 = true := by kernel_rfl
theorem size_89 : sizeIs Try.prog 89 1 = true := by kernel_rfl
theorem zero_89 : zeroOf Try.prog 89 = some (.pointer none) := by kernel_rfl
theorem ptr_89 : Try.prog.underlying 89 = some (.pointer (Try.prog.pointee 89)) := by kernel_rfl
theorem some_89 : (Try.prog.underlying 89).isSome = true := by kernel_rfl
theorem flat_94 : flatB Try.prog 94 = true := by kernel_rfl
theorem zero_94 : zeroOf Try.prog 94 = some (.pointer none) := by kernel_rfl
theorem some_94 : (Try.prog.underlying 94).isSome = true := by kernel_rfl
theorem body_3 : hasBody Try.prog 3 = true := by kernel_rfl
theorem body_4 : hasBody Try.prog 4 = true := by kernel_rfl
theorem body_5 : hasBody Try.prog 5 = true := by kernel_rfl
theorem body_6 : hasBody Try.prog 6 = true := by kernel_rfl
theorem body_7 : hasBody Try.prog 7 = true := by kernel_rfl
theorem body_8 : hasBody Try.prog 8 = true := by kernel_rfl
theorem body_9 : hasBody Try.prog 9 = true := by kernel_rfl
theorem body_10 : hasBody Try.prog 10 = true := by kernel_rfl
theorem body_11 : hasBody Try.prog 11 = true := by kernel_rfl
theorem body_12 : hasBody Try.prog 12 = true := by kernel_rfl
theorem body_13 : hasBody Try.prog 13 = true := by kernel_rfl
theorem body_14 : hasBody Try.prog 14 = true := by kernel_rfl
theorem body_15 : hasBody Try.prog 15 = true := by kernel_rfl
theorem body_16 : hasBody Try.prog 16 = true := by kernel_rfl
theorem body_17 : hasBody Try.prog 17 = true := by kernel_rfl
theorem body_18 : hasBody Try.prog 18 = true := by kernel_rfl
theorem body_19 : hasBody Try.prog 19 = true := by kernel_rfl
theorem body_20 : hasBody Try.prog 20 = true := by kernel_rfl
theorem body_21 : hasBody Try.prog 21 = true := by kernel_rfl
theorem body_22 : hasBody Try.prog 22 = true := by kernel_rfl
theorem body_23 : hasBody Try.prog 23 = true := by kernel_rfl
theorem body_24 : hasBody Try.prog 24 = true := by kernel_rfl
theorem body_25 : hasBody Try.prog 25 = true := by kernel_rfl
theorem body_26 : hasBody Try.prog 26 = true := by kernel_rfl
theorem body_27 : hasBody Try.prog 27 = true := by kernel_rfl
theorem body_28 : hasBody Try.prog 28 = true := by kernel_rfl
theorem body_29 : hasBody Try.prog 29 = true := by kernel_rfl
theorem body_30 : hasBody Try.prog 30 = true := by kernel_rfl
theorem body_31 : hasBody Try.prog 31 = true := by kernel_rfl
theorem body_32 : hasBody Try.prog 32 = true := by kernel_rfl
theorem body_33 : hasBody Try.prog 33 = true := by kernel_rfl
theorem body_34 : hasBody Try.prog 34 = true := by kernel_rfl
theorem body_35 : hasBody Try.prog 35 = true := by kernel_rfl
theorem body_36 : hasBody Try.prog 36 = true := by kernel_rfl
theorem body_37 : hasBody Try.prog 37 = true := by kernel_rfl
theorem body_38 : hasBody Try.prog 38 = true := by kernel_rfl
theorem body_39 : hasBody Try.prog 39 = true := by kernel_rfl
theorem body_40 : hasBody Try.prog 40 = true := by kernel_rfl
theorem body_41 : hasBody Try.prog 41 = true := by kernel_rfl
theorem body_42 : hasBody Try.prog 42 = true := by kernel_rfl
theorem body_43 : hasBody Try.prog 43 = true := by kernel_rfl
theorem body_44 : hasBody Try.prog 44 = true := by kernel_rfl
theorem body_45 : hasBody Try.prog 45 = true := by kernel_rfl
theorem body_46 : hasBody Try.prog 46 = true := by kernel_rfl
theorem body_47 : hasBody Try.prog 47 = true := by kernel_rfl
theorem body_48 : hasBody Try.prog 48 = true := by kernel_rfl
theorem body_49 : hasBody Try.prog 49 = true := by kernel_rfl
theorem body_50 : hasBody Try.prog 50 = true := by kernel_rfl
theorem mixed : Try.prog.follows .mixedOrders = true := by kernel_rfl
end Go.Proofs.Ytncakfcafkfmfaa

/-
  types: how trees and what variables stand for lie in memory.
-/
namespace Go.Proofs.Ytncakfcafkfmfaa
open Go
set_option linter.unusedSimpArgs false
set_option linter.unusedVariables false

abbrev C3 := Value × Value × Value
def c3 (x : C3) : List Value := [x.1, x.2.1, x.2.2]
theorem c3_len (x : C3) : (c3 x).length = 3 := rfl
theorem c3_at (x : C3) : (c3 x)[0]? = some x.1 ∧ (c3 x)[1]? = some x.2.1 ∧ (c3 x)[2]? = some x.2.2 := ⟨rfl, rfl, rfl⟩
/-- a type's name, as it stands in memory; its kids -/
def Ty.nm : Ty → List UInt8
  | .v _ => []
  | .c n _ => n.1
def Ty.kids : Ty → List Ty
  | .v _ => []
  | .c _ ks => ks
theorem Ty.nm_nil {t : Ty} : t.nm = [] ↔ ∃ x, t = .v x := by
  cases t with
  | v x => exact ⟨fun _ => ⟨x, rfl⟩, fun _ => rfl⟩
  | c n ks => exact ⟨fun h => absurd h n.2, fun ⟨x, h⟩ => by cases h⟩
/-- three cells that are a type; its kids' rows are blocks of F -/
inductive TV (w : World) (F : Nat → Prop) : C3 → Ty → Prop
  | mk {t : Ty} {m : Int} {kv : Value} {xs : List C3} : (∀ x, t = .v x → m = x) → Rd w F kv t.kids.length 3 (xs.flatMap c3) → xs.length = t.kids.length → t.kids.length ≤ 1000000 →
      (∀ (i : Nat) c k, xs[i]? = some c → t.kids[i]? = some k → TV w F c k) → TV w F (.string ⟨t.nm.toArray⟩, .int .i64 m, kv) t
theorem TV.upd {w w' : World} {F S : Nat → Prop} {c : C3} {t : Ty} (h : TV w F c t) (hu : Upd S w w') (hn : ∀ k, F k → k < w.heap.size → ¬ S k) : TV w' F c t := by
  induction h with
  | mk hm hr hl hb hk ih => exact .mk hm (hr.upd hu hn) hl hb fun i c k hc hk' => ih i c k hc hk'
theorem TV.updA {w w' : World} {F S : Nat → Prop} {c : C3} {t : Ty} (h : TV w F c t) (hu : Upd S w w') (hn : ∀ k, F k → k < w.heap.size → ¬ S k := by first | exact (fun _ _ _ h => h) | with_reducible assumption | (intro k hk hl hS; simp only [At] at hS; subst hS; contradiction) | (intro k hk hl hS; (try simp only [At, From, No, Grow, New] at hk hS); omega)) : TV w' F c t := h.upd hu hn
theorem TV.mono {w : World} {F F' : Nat → Prop} {c : C3} {t : Ty} (h : TV w F c t) (hF : ∀ k, F k → F' k) : TV w F' c t := by
  induction h with
  | mk hm hr hl hb hk ih => exact .mk hm (hr.mono hF) hl hb fun i c k hc hk' => ih i c k hc hk'
theorem TV.bound {w : World} {F : Nat → Prop} {c : C3} {t : Ty} (h : TV w F c t) : TV w (fun k => F k ∧ k < w.heap.size) c t := by
  induction h with
  | mk hm hr hl hb hk ih => exact .mk hm hr.bound hl hb fun i c k hc hk' => ih i c k hc hk'
theorem TV.open {w : World} {F : Nat → Prop} {a b c : Value} {t : Ty} (h : TV w F (a, b, c) t) : ∃ (m : Int) (A : Option Addr) (k : Nat) (xs : List C3), a = .string ⟨t.nm.toArray⟩ ∧ b = .int .i64 m ∧ c = .slice A t.kids.length k ∧ (∀ x, t = .v x → m = x) ∧ Rd w F (.slice A t.kids.length k) t.kids.length 3 (xs.flatMap c3) ∧ xs.length = t.kids.length ∧ t.kids.length ≤ 1000000 ∧ ∀ (i : Nat) c k, xs[i]? = some c → t.kids[i]? = some k → TV w F c k := by
  cases h with
  | mk hm hr hl hb hk =>
    obtain ⟨A, k, rfl, _⟩ := hr.slice_form
    exact ⟨_, A, k, _, rfl, rfl, rfl, hm, hr, hl, hb, hk⟩
theorem TV.nil {w : World} {F : Nat → Prop} (x : Int) : TV w F (.string ⟨#[]⟩, .int .i64 x, .slice none 0 0) (.v x) :=
  .mk (t := .v x) (xs := []) (fun y h => by injection h) (Rd.nil w F 3) rfl (Nat.zero_le _) (fun i c k h => by simp at h)

/-- types in a row -/
def TVs (w : World) (F : Nat → Prop) (xs : List C3) (ts : List Ty) : Prop := xs.length = ts.length ∧ ∀ (i : Nat) c t, xs[i]? = some c → ts[i]? = some t → TV w F c t
theorem TVs.nil (w : World) (F : Nat → Prop) : TVs w F [] [] := ⟨rfl, fun i c t h => by simp at h⟩
theorem TVs.snoc {w : World} {F : Nat → Prop} {xs : List C3} {ts : List Ty} {c : C3} {t : Ty} (h : TVs w F xs ts) (hc : TV w F c t) : TVs w F (xs ++ [c]) (ts ++ [t]) := by
  refine ⟨by simp [h.1], fun i c' t' h1 h2 => ?_⟩
  rcases Nat.lt_trichotomy i xs.length with hi | hi | hi
  · rw [List.getElem?_append_left hi] at h1
    rw [List.getElem?_append_left (by have := h.1; omega)] at h2
    exact h.2 i c' t' h1 h2
  · subst hi
    rw [List.getElem?_append_right (Nat.le_refl _)] at h1
    rw [List.getElem?_append_right (by have := h.1; omega)] at h2
    simp [h.1] at h1 h2
    subst h1; subst h2; exact hc
  · rw [List.getElem?_eq_none (by simp; omega)] at h1
    cases h1
theorem TVs.upd {w w' : World} {F S : Nat → Prop} {xs : List C3} {ts : List Ty} (h : TVs w F xs ts) (hu : Upd S w w') (hn : ∀ k, F k → k < w.heap.size → ¬ S k) : TVs w' F xs ts := ⟨h.1, fun i c t h1 h2 => (h.2 i c t h1 h2).upd hu hn⟩
theorem TVs.updA {w w' : World} {F S : Nat → Prop} {xs : List C3} {ts : List Ty} (h : TVs w F xs ts) (hu : Upd S w w') (hn : ∀ k, F k → k < w.heap.size → ¬ S k := by first | exact (fun _ _ _ h => h) | with_reducible assumption | (intro k hk hl hS; simp only [At] at hS; subst hS; contradiction) | (intro k hk hl hS; (try simp only [At, From, No, Grow, New] at hk hS); omega)) : TVs w' F xs ts := h.upd hu hn
theorem TVs.mono {w : World} {F F' : Nat → Prop} {xs : List C3} {ts : List Ty} (h : TVs w F xs ts) (hF : ∀ k, F k → F' k) : TVs w F' xs ts := ⟨h.1, fun i c t h1 h2 => (h.2 i c t h1 h2).mono hF⟩
theorem TVs.bound {w : World} {F : Nat → Prop} {xs : List C3} {ts : List Ty} (h : TVs w F xs ts) : TVs w (fun k => F k ∧ k < w.heap.size) xs ts := ⟨h.1, fun i c t h1 h2 => (h.2 i c t h1 h2).bound⟩
theorem TVs.len {w : World} {F : Nat → Prop} {xs : List C3} {ts : List Ty} (h : TVs w F xs ts) : (xs.flatMap c3).length = ts.length * 3 := by rw [flatMap_len c3_len, h.1]
theorem TV.kids {w : World} {F : Nat → Prop} {t : Ty} {m : Int} {kv : Value} {xs : List C3} (hm : ∀ x, t = .v x → m = x) (hr : Rd w F kv t.kids.length 3 (xs.flatMap c3)) (hb : t.kids.length ≤ 1000000) (hk : TVs w F xs t.kids) : TV w F (.string ⟨t.nm.toArray⟩, .int .i64 m, kv) t :=
  .mk hm hr hk.1 hb hk.2
/-- a kid's three cells -/
theorem kid_cells {w : World} {F : Nat → Prop} {b off n c q i : Nat} {xs : List C3} {x : C3} (hr : Rd w F (.slice (some ⟨b, off, none⟩) n c) n 3 (xs.flatMap c3)) (hx : xs[i]? = some x) (hq : q = off + i * 3) : CellsAt w ⟨b, q, none⟩ [x.1, x.2.1, x.2.2] := by
  subst hq
  exact Rd.cellsL (i := i * 3) hr rfl fun j v hj => flatMap_get c3_len hx j v hj

/-! ### what variables stand for -/
abbrev typ : TypeId := 28
/-- the blocks that change -/
def Mut (p m1 m2 : Nat) : Nat → Prop := fun k => k = p ∨ k = m1 ∨ k = m2
def ofE (σ : Sg) (xs : List C3) : List (Int × Value) := (σ.map (·.1)).zip (xs.map fun c => .agg #[c.1, c.2.1, c.2.2])
def doneE (D : Dn) : List ((Int × Int) × Value) := D.map fun p => (p, .bool true)
structure IsS (w : World) (F : Nat → Prop) (p m1 m2 : Nat) (σ : Sg) (D : Dn) (nn : Int) (xs : List C3) : Prop where
  hd : Blk w p #[.map (some m1), .int .i64 nn, .map (some m2)] 59
  of_ : MapB w m1 ((ofE σ xs).map fun p => (.int .i64 p.1, p.2))
  dn : MapB w m2 ((doneE D).map fun p => (pairV p.1, p.2))
  ne : m1 ≠ m2
  tv : TVs w F xs (σ.map (·.2))
theorem IsS.ne1 {w : World} {F : Nat → Prop} {p m1 m2 : Nat} {σ : Sg} {D : Dn} {nn : Int} {xs : List C3} (h : IsS w F p m1 m2 σ D nn xs) : m1 ≠ p := h.of_.ne h.hd
theorem IsS.ne2 {w : World} {F : Nat → Prop} {p m1 m2 : Nat} {σ : Sg} {D : Dn} {nn : Int} {xs : List C3} (h : IsS w F p m1 m2 σ D nn xs) : m2 ≠ p := h.dn.ne h.hd
theorem IsS.lt {w : World} {F : Nat → Prop} {p m1 m2 : Nat} {σ : Sg} {D : Dn} {nn : Int} {xs : List C3} (h : IsS w F p m1 m2 σ D nn xs) : p < w.heap.size ∧ m1 < w.heap.size ∧ m2 < w.heap.size := ⟨h.hd.lt, h.of_.lt, h.dn.lt⟩
theorem IsS.upd {w w' : World} {F S : Nat → Prop} {p m1 m2 : Nat} {σ : Sg} {D : Dn} {nn : Int} {xs : List C3} (h : IsS w F p m1 m2 σ D nn xs) (hu : Upd S w w') (hn : ∀ k, Mut p m1 m2 k ∨ F k → k < w.heap.size → ¬ S k) : IsS w' F p m1 m2 σ D nn xs :=
  ⟨h.hd.upd hu (hn p (.inl (.inl rfl)) h.hd.lt), h.of_.upd hu (hn m1 (.inl (.inr (.inl rfl))) h.of_.lt), h.dn.upd hu (hn m2 (.inl (.inr (.inr rfl))) h.dn.lt), h.ne, h.tv.upd hu fun k hk hl => hn k (.inr hk) hl⟩
theorem IsS.updN {w w' : World} {F : Nat → Prop} {p m1 m2 : Nat} {σ : Sg} {D : Dn} {nn : Int} {xs : List C3} (h : IsS w F p m1 m2 σ D nn xs) (hu : Upd No w w') : IsS w' F p m1 m2 σ D nn xs := h.upd hu fun _ _ _ h => h
theorem IsS.bound {w : World} {F : Nat → Prop} {p m1 m2 : Nat} {σ : Sg} {D : Dn} {nn : Int} {xs : List C3} (h : IsS w F p m1 m2 σ D nn xs) : IsS w (fun k => F k ∧ k < w.heap.size) p m1 m2 σ D nn xs := { h with tv := h.tv.bound }
theorem IsS.mono {w : World} {F F' : Nat → Prop} {p m1 m2 : Nat} {σ : Sg} {D : Dn} {nn : Int} {xs : List C3} (h : IsS w F p m1 m2 σ D nn xs) (hF : ∀ k, F k → F' k) : IsS w F' p m1 m2 σ D nn xs := { h with tv := h.tv.mono hF }

theorem look_ofE : ∀ {σ : Sg} {xs : List C3}, xs.length = σ.length → ∀ (x : Int), (look σ x = none → lookA (ofE σ xs) x = none) ∧ ∀ u, look σ x = some u → ∃ (i : Nat) (c : C3), xs[i]? = some c ∧ (σ.map (·.2))[i]? = some u ∧ lookA (ofE σ xs) x = some (.agg #[c.1, c.2.1, c.2.2])
  | [], xs, h, x => by
    have : xs = [] := List.eq_nil_of_length_eq_zero (by simpa using h)
    subst this
    exact ⟨fun _ => rfl, fun u h => by cases h⟩
  | (k, t) :: σ, [], h, x => by simp at h
  | (k, t) :: σ, c :: xs, h, x => by
    have ih := look_ofE (σ := σ) (xs := xs) (by simpa using h) x
    simp only [look, ofE, List.map_cons, List.zip_cons_cons, lookA]
    by_cases hk : k = x
    · simp only [hk, if_true]
      refine ⟨fun h => absurd h (by simp), fun u hu => ?_⟩
      injection hu with hu
      subst hu
      exact ⟨0, c, rfl, rfl, rfl⟩
    · simp only [hk, if_false]
      refine ⟨ih.1, fun u hu => ?_⟩
      obtain ⟨i, c', h1, h2, h3⟩ := ih.2 u hu
      exact ⟨i + 1, c', by simpa using h1, by simpa using h2, h3⟩
theorem IsS.look {w : World} {F : Nat → Prop} {p m1 m2 : Nat} {σ : Sg} {D : Dn} {nn : Int} {xs : List C3} (h : IsS w F p m1 m2 σ D nn xs) (x : Int) :
    (look σ x = none → lookA (ofE σ xs) x = none) ∧ ∀ u, Go.Proofs.Ytncakfcafkfmfaa.look σ x = some u → ∃ c : C3, TV w F c u ∧ lookA (ofE σ xs) x = some (.agg #[c.1, c.2.1, c.2.2]) := by
  have hl : xs.length = σ.length := by simpa using h.tv.1
  have := look_ofE hl x
  refine ⟨this.1, fun u hu => ?_⟩
  obtain ⟨i, c, h1, h2, h3⟩ := this.2 u hu
  exact ⟨c, h.tv.2 i c u h1 h2, h3⟩
/-- what is looked up: the value, and whether there is one -/
structure LookR (w : World) (F : Nat → Prop) (σ : Sg) (xs : List C3) (x : Int) (s : ByteArray) (m : Int) (A : Option Addr) (n k : Nat) (ok : Bool) : Prop where
  val : (lookA (ofE σ xs) x).getD (.agg #[.string ⟨#[]⟩, .int .i64 0, .slice none 0 0]) = .agg #[.string s, .int .i64 m, .slice A n k]
  isS : (lookA (ofE σ xs) x).isSome = ok
  yes : ok = true → ∃ u, Go.Proofs.Ytncakfcafkfmfaa.look σ x = some u ∧ TV w F (.string s, .int .i64 m, .slice A n k) u
  no : ok = false → Go.Proofs.Ytncakfcafkfmfaa.look σ x = none
theorem LookR.upd {w w' : World} {F S : Nat → Prop} {σ : Sg} {xs : List C3} {x : Int} {s : ByteArray} {m : Int} {A : Option Addr} {n k : Nat} {ok : Bool} (h : LookR w F σ xs x s m A n k ok) (hu : Upd S w w') (hn : ∀ k, F k → k < w.heap.size → ¬ S k) : LookR w' F σ xs x s m A n k ok :=
  ⟨h.val, h.isS, fun ho => by obtain ⟨u, h1, h2⟩ := h.yes ho; exact ⟨u, h1, h2.upd hu hn⟩, h.no⟩
theorem IsS.lookR {w : World} {F : Nat → Prop} {p m1 m2 : Nat} {σ : Sg} {D : Dn} {nn : Int} {xs : List C3} (h : IsS w F p m1 m2 σ D nn xs) (x : Int) : ∃ s m A n k ok, LookR w F σ xs x s m A n k ok := by
  have h1 := h.look x
  cases hl : Go.Proofs.Ytncakfcafkfmfaa.look σ x with
  | none =>
    have h2 := h1.1 hl
    exact ⟨⟨#[]⟩, 0, none, 0, 0, false, by rw [h2]; rfl, by rw [h2]; rfl, fun h => Bool.noConfusion h, fun _ => hl⟩
  | some u =>
    obtain ⟨⟨a, b, c⟩, h2, h3⟩ := h1.2 u hl
    obtain ⟨m, A, k, xk, rfl, rfl, rfl, _⟩ := h2.open
    exact ⟨_, m, A, _, k, true, by rw [h3]; rfl, by rw [h3]; rfl, fun _ => ⟨u, hl, h2⟩, fun h => Bool.noConfusion h⟩
theorem hd_con {σ : Sg} {q : Nat} {t h : Ty} (hn : t.nm ≠ []) (e : hdF σ q t = some h) : h = t := by
  cases t with
  | v x => exact absurd rfl hn
  | c n ks => cases q <;> (simp only [hdF] at e; injection e with e; exact e.symm)
theorem hd_none {σ : Sg} {q : Nat} {x : Int} {h : Ty} (hn : look σ x = none) (e : hdF σ q (.v x) = some h) : h = .v x := by
  cases q <;> (simp only [hdF, hn] at e; injection e with e; exact e.symm)
theorem hd_some {σ : Sg} {q : Nat} {x : Int} {u h : Ty} (hn : look σ x = some u) (e : hdF σ q (.v x) = some h) : ∃ q', q = q' + 1 ∧ hdF σ q' u = some h := by
  cases q with
  | zero => simp [hdF, hn] at e
  | succ q' => exact ⟨q', rfl, by simpa only [hdF, hn] using e⟩
theorem look_doneE (D : Dn) (p : Int × Int) : lookA (doneE D) p = if p ∈ D then some (.bool true) else none := by
  induction D with
  | nil => rfl
  | cons a D ih =>
    simp only [doneE, List.map_cons, lookA]
    by_cases h : a = p
    · subst h; simp
    · have h' : ¬ p = a := fun e => h e.symm
      simp only [h, if_false, List.mem_cons, h', false_or]
      exact ih
theorem ofE_snoc {σ : Sg} {xs : List C3} (h : xs.length = σ.length) (x : Int) (t : Ty) (c : C3) : ofE (σ ++ [(x, t)]) (xs ++ [c]) = ofE σ xs ++ [(x, .agg #[c.1, c.2.1, c.2.2])] := by
  unfold ofE
  rw [List.map_append, List.map_append, List.zip_append (by simp [h])]
  rfl
theorem doneE_snoc (D : Dn) (p : Int × Int) : doneE (D ++ [p]) = doneE D ++ [(p, .bool true)] := by simp [doneE]
theorem keyI : KeyT (α := Int) Try.prog 3 (fun x => .int .i64 x) := key_int int_3
theorem arr2 : Arr2 Try.prog 60 3 := ⟨arr_60, int_3, flat_3, size_3, by kernel_rfl⟩
theorem keyP : KeyT (α := Int × Int) Try.prog 60 pairV := key_pair arr2
end Go.Proofs.Ytncakfcafkfmfaa

/-
  Arguments of any shape, opened: numbers, bools, texts, structs and slices, to any depth.
-/
namespace Go.Proofs.Ytncakfcafkfmfaa
open Go Go.ChangeShapes Go.WideShapes Go.ChangeAt Go.RowKit Go.Deep
set_option linter.unusedSimpArgs false
set_option linter.unusedVariables false

/-- cells that are of a type: what they lead to lies in memory -/
def Rep (P : Program) (W : World) : Nat → TypeId → List Value → Prop
  | 0, _, _ => False
  | f + 1, t, cs => match P.underlying t with
    | some .bool => ∃ b, cs = [.bool b]
    | some (.int k) => ∃ n, cs = [.int k n] ∧ inK k n
    | some .string => ∃ s : List UInt8, cs = [.string ⟨s.toArray⟩] ∧ s.length ≤ 140737488351232
    | some (.slice e) => 0 < P.cellsOf e → 0 < P.bytesOf e → ∃ v n xs, cs = [v] ∧ n * P.bytesOf e ≤ 140737488351232 ∧ Rd W (fun k => k < W.heap.size) v n (P.cellsOf e) xs ∧ ∀ i, i < n → Rep P W f e ((xs.drop (i * P.cellsOf e)).take (P.cellsOf e))
    | some (.struct fs) => cs.length = P.cellsOf t ∧ ∀ (i : Nat) (q : Field), fs[i]? = some q → Rep P W f q.type ((cs.drop q.offset).take (P.cellsOf q.type))
    | _ => True

theorem Rep.bool {P : Program} {W : World} {f : Nat} {t : TypeId} {cs : List Value} (h : Rep P W f t cs) (ht : P.underlying t = some .bool) : ∃ b, cs = [.bool b] := by
  cases f with
  | zero => exact h.elim
  | succ f => simp only [Rep, ht] at h; exact h
theorem Rep.int {P : Program} {W : World} {f : Nat} {t : TypeId} {k : IntKind} {cs : List Value} (h : Rep P W f t cs) (ht : P.underlying t = some (.int k)) : ∃ n, cs = [.int k n] ∧ inK k n := by
  cases f with
  | zero => exact h.elim
  | succ f => simp only [Rep, ht] at h; exact h
theorem Rep.str {P : Program} {W : World} {f : Nat} {t : TypeId} {cs : List Value} (h : Rep P W f t cs) (ht : P.underlying t = some .string) : ∃ s : List UInt8, cs = [.string ⟨s.toArray⟩] ∧ s.length ≤ 140737488351232 := by
  cases f with
  | zero => exact h.elim
  | succ f => simp only [Rep, ht] at h; exact h
theorem Rep.slice {P : Program} {W : World} {f : Nat} {t e : TypeId} {cs : List Value} (h : Rep P W f t cs) (ht : P.underlying t = some (.slice e)) (hc : 0 < P.cellsOf e) (hb : 0 < P.bytesOf e) :
    ∃ g v n xs, f = g + 1 ∧ cs = [v] ∧ n * P.bytesOf e ≤ 140737488351232 ∧ Rd W (fun k => k < W.heap.size) v n (P.cellsOf e) xs ∧ ∀ i, i < n → Rep P W g e ((xs.drop (i * P.cellsOf e)).take (P.cellsOf e)) := by
  cases f with
  | zero => exact h.elim
  | succ f =>
    simp only [Rep, ht] at h
    obtain ⟨v, n, xs, h1, h2, h3, h4⟩ := h hc hb
    exact ⟨f, v, n, xs, rfl, h1, h2, h3, h4⟩
theorem Rep.struct {P : Program} {W : World} {f : Nat} {t : TypeId} {fs : Array Field} {cs : List Value} (h : Rep P W f t cs) (ht : P.underlying t = some (.struct fs)) :
    ∃ g, f = g + 1 ∧ cs.length = P.cellsOf t ∧ ∀ (i : Nat) (q : Field), fs[i]? = some q → Rep P W g q.type ((cs.drop q.offset).take (P.cellsOf q.type)) := by
  cases f with
  | zero => exact h.elim
  | succ f => simp only [Rep, ht] at h; exact ⟨f, rfl, h.1, h.2⟩

theorem spot_none {w : World} {a : Addr} {v : Value} (h : w.cell? a = some v) : a.spot = none := by
  unfold World.cell? at h
  split at h
  · split at h
    · cases h
    · rename_i hs
      simpa using hs
  · cases h
theorem choose_lt {α : Type} [Nonempty α] {n : Nat} {p : Nat → α → Prop} (h : ∀ i, i < n → ∃ x, p i x) : ∃ f : Nat → α, ∀ i, i < n → p i (f i) :=
  ⟨fun i => if hi : i < n then Classical.choose (h i hi) else Classical.choice inferInstance, fun i hi => by simp only [hi, dif_pos]; exact Classical.choose_spec (h i hi)⟩
theorem weightsAll_mem {H : Type} {P : Program} {e : TypeId} {d : DataW H} : ∀ {l : List (DataW H)}, d ∈ l → ∀ x ∈ d.weights P e, x ∈ DataW.weightsAll P e l
  | [], h, _, _ => by cases h
  | a :: l, h, x, hx => by
    simp only [DataW.weightsAll, List.mem_append]
    rcases List.mem_cons.1 h with rfl | h
    · exact .inl hx
    · exact .inr (weightsAll_mem h x hx)
theorem weightsEach_mem {H : Type} {P : Program} : ∀ {ts : List TypeId} {l : List (DataW H)} {i : Nat} {t : TypeId} {d : DataW H}, ts[i]? = some t → l[i]? = some d → ∀ x ∈ d.weights P t, x ∈ DataW.weightsEach P ts l
  | [], _, _, _, _, h, _, _, _ => by simp at h
  | _ :: _, [], _, _, _, _, h, _, _ => by simp at h
  | t :: ts, d :: l, 0, _, _, h1, h2, x, hx => by
    simp only [List.getElem?_cons_zero, Option.some.injEq] at h1 h2
    subst h1 h2
    simp only [DataW.weightsEach, List.mem_append]
    exact .inl hx
  | t :: ts, d :: l, i + 1, _, _, h1, h2, x, hx => by
    simp only [DataW.weightsEach, List.mem_append]
    exact .inr (weightsEach_mem (i := i) (by simpa using h1) (by simpa using h2) x hx)

theorem flat_get {C : Nat → List Value} {sz : Nat} : ∀ {n : Nat}, (∀ i, i < n → (C i).length = sz) → ((List.range n).flatMap C).length = n * sz ∧ ∀ i, i < n → ((((List.range n).flatMap C).drop (i * sz)).take sz) = C i
  | 0, _ => ⟨by simp, fun i h => by omega⟩
  | n + 1, h => by
    obtain ⟨h1, h2⟩ := flat_get (n := n) fun i hi => h i (by omega)
    have e : (List.range (n + 1)).flatMap C = (List.range n).flatMap C ++ C n := by rw [List.range_succ, List.flatMap_append]; simp
    rw [e]
    refine ⟨by rw [List.length_append, h1, h n (by omega), Nat.add_mul, Nat.one_mul], fun i hi => ?_⟩
    by_cases hin : i = n
    · subst hin
      rw [List.drop_left' h1, List.take_of_length_le (by rw [h i (by omega)]; exact Nat.le_refl _)]
    · have hle : i * sz + sz ≤ n * sz := by
        rw [← Nat.succ_mul]
        exact Nat.mul_le_mul_right _ (by omega)
      rw [List.drop_append_of_le_length (by omega), List.take_append_of_le_length (by rw [List.length_drop]; omega)]
      exact h2 i (by omega)

theorem open_rep {H : Type} {enc : TypeId × Value → H} {P : Program} {W : World} : ∀ (fuel : Nat) (t : TypeId) (cs : List Value) (y : DataW H × List MemPlace), DataW.trod enc P W 0 (fun _ => true) true fuel t cs = some y →
    (y.1.weights P t).all (· ≤ reachBytes) = true → Rep P W fuel t cs
  | 0, t, cs, y, h, _ => by simp [DataW.trod] at h
  | fuel + 1, t, cs, y, h, hw => by
    have hrb : reachBytes = 140737488351232 := rfl
    cases hu : P.underlying t with
    | none => simp only [Rep, hu]
    | some d =>
      cases d with
      | bool =>
        simp only [Rep, hu]
        obtain ⟨b, h1, _⟩ := DataW.trod_bool hu h
        exact ⟨b, h1⟩
      | int k =>
        simp only [Rep, hu]
        obtain ⟨n, h1, _, hwf⟩ := DataW.trod_int hu h
        refine ⟨n, h1, ?_⟩
        have hwf' : k.min ≤ n ∧ n ≤ k.max := by simpa [Lit.wf] using hwf
        cases k <;> simp only [IntKind.min, IntKind.max, IntKind.signed, IntKind.bits, inK] at hwf' ⊢ <;> simp at hwf' <;> omega
      | string =>
        simp only [Rep, hu]
        obtain ⟨s, h1, h2, h3⟩ := DataW.trod_string hu h
        refine ⟨s.data.toList, h1, ?_⟩
        rw [h2] at hw
        simp [DataW.weights, hrb] at hw
        simpa using hw
      | slice e =>
        simp only [Rep, hu]
        intro hc hb
        rcases DataW.trod_slice hu h with ⟨hcs, _⟩ | ⟨a, len, m, elems, rest, n, hn, hcs, rfl, _, hl, hm, hel, hcell, _, _⟩
        · exact ⟨_, 0, [], hcs, by omega, Rd.nil _ _ _, fun i hi => by omega⟩
        · obtain rfl : fuel = n := by omega
          simp only [DataW.weights, hu, List.all_cons, Bool.and_eq_true, decide_eq_true_eq, List.length_map, List.all_append] at hw
          have hby : len * P.bytesOf e ≤ 140737488351232 := by
            have h1 := hw.1
            have h3 : elems.length * P.bytesOf e ≤ (elems.length + rest.length) * P.bytesOf e := Nat.mul_le_mul_right _ (by omega)
            rw [hel] at h3
            rw [hel] at h1
            omega
          have hsz : len ≤ 140737488351232 := by
            have h3 : len * 1 ≤ len * P.bytesOf e := Nat.mul_le_mul_left _ hb
            omega
          have each : ∀ i, i < len → ∃ c : List Value, W.cells? 0 (a.add (i * P.cellsOf e)) (P.cellsOf e) = some c ∧ Rep P W fuel e c := fun i hi => by
            have h1 := hcell i hi
            rw [List.getElem?_eq_getElem (by omega), Option.bind_eq_some_iff] at h1
            obtain ⟨c, h1, h2⟩ := h1
            exact ⟨c, h1, open_rep fuel e c _ h2 (List.all_eq_true.2 fun x hx => List.all_eq_true.1 hw.2.1 x (weightsAll_mem (List.mem_map.2 ⟨_, List.getElem_mem (by omega), rfl⟩) x hx))⟩
          obtain ⟨C, hC⟩ := choose_lt each
          have hCl : ∀ i, i < len → (C i).length = P.cellsOf e := fun i hi => (World.cells?_some (hC i hi).1).2.1
          obtain ⟨f1, f2⟩ := flat_get hCl
          refine ⟨_, len, (List.range len).flatMap C, hcs, hby, ?_, fun i hi => by rw [f2 i hi]; exact (hC i hi).2⟩
          refine ⟨some a, m, rfl, hl, by omega, f1, fun h0 => ?_⟩
          have hcl : ∀ i j, i < len → j < P.cellsOf e → W.cell? (a.add (i * P.cellsOf e + j)) = (C i)[j]? := fun i j hi hj => by
            rw [← add_add]
            exact (World.cells?_some (hC i hi).1).2.2 j hj
          have hs : a.spot = none := by
            have h1 := hcl 0 0 (by omega) hc
            rw [List.getElem?_eq_getElem (by rw [hCl 0 (by omega)]; exact hc)] at h1
            simp only [Nat.zero_mul, Nat.zero_add, Addr.add, if_true] at h1
            exact spot_none h1
          obtain ⟨b, off, sp⟩ := a
          simp only at hs
          subst hs
          have hlt : b < W.heap.size := by
            have h1 := hcl 0 0 (by omega) hc
            rw [List.getElem?_eq_getElem (by rw [hCl 0 (by omega)]; exact hc), Addr.add_lit] at h1
            exact cell_lt h1
          refine ⟨b, off, rfl, hlt, hlt, fun j u hj => ?_⟩
          have hj2 : j < len * P.cellsOf e := by
            have := (List.getElem?_eq_some_iff.1 hj).1
            rw [f1] at this
            exact this
          have hdv : j / P.cellsOf e < len := Nat.div_lt_of_lt_mul (by rw [Nat.mul_comm]; exact hj2)
          have hmd : j % P.cellsOf e < P.cellsOf e := Nat.mod_lt _ hc
          have h1 := hcl (j / P.cellsOf e) (j % P.cellsOf e) hdv hmd
          have ej : j / P.cellsOf e * P.cellsOf e + j % P.cellsOf e = j := by rw [Nat.mul_comm]; exact Nat.div_add_mod j _
          rw [ej, Addr.add_lit] at h1
          rw [h1, ← f2 _ hdv, List.getElem?_take, if_pos hmd, List.getElem?_drop, ej]
          exact hj
      | struct fs =>
        simp only [Rep, hu]
        obtain ⟨xs, n, hn, rfl, hlen, hxl, hf⟩ := DataW.trod_struct hu h
        obtain rfl : fuel = n := by omega
        refine ⟨hlen, fun i q hq => ?_⟩
        have h1 := hf i q hq
        have hi : i < fs.size := (Array.getElem?_eq_some_iff.1 hq).1
        rw [List.getElem?_eq_getElem (by omega)] at h1
        refine open_rep fuel q.type _ _ h1 (List.all_eq_true.2 fun x hx => List.all_eq_true.1 hw x ?_)
        simp only [DataW.weights, hu]
        refine weightsEach_mem (i := i) ?_ ?_ x hx
        · simp [hq]
        · rw [List.getElem?_map, List.getElem?_eq_getElem (by omega)]
          rfl
      | _ => simp only [Rep, hu]

theorem list_of {α : Type} {dec : α → List Value} {Q : α → Prop} {sz : Nat} : ∀ (n : Nat) (xs : List Value), xs.length = n * sz → (∀ i, i < n → ∃ a, (xs.drop (i * sz)).take sz = dec a ∧ Q a) → ∃ l : List α, l.length = n ∧ xs = l.flatMap dec ∧ ∀ a ∈ l, Q a
  | 0, xs, hl, _ => ⟨[], rfl, List.eq_nil_of_length_eq_zero (by simpa using hl), fun a h => by cases h⟩
  | n + 1, xs, hl, h => by
    obtain ⟨a, ha, hq⟩ := h 0 (by omega)
    rw [Nat.zero_mul, List.drop_zero] at ha
    obtain ⟨l, h1, h2, h3⟩ := list_of (dec := dec) (Q := Q) (sz := sz) n (xs.drop sz) (by rw [List.length_drop, hl, Nat.add_mul, Nat.one_mul, Nat.add_sub_cancel]) (fun i hi => by
      obtain ⟨a, h1, h2⟩ := h (i + 1) (by omega)
      refine ⟨a, ?_, h2⟩
      rw [List.drop_drop, ← h1, Nat.add_mul, Nat.one_mul, Nat.add_comm])
    refine ⟨a :: l, by simp [h1], ?_, fun b hb => ?_⟩
    · rw [List.flatMap_cons, ← h2, ← ha, List.take_append_drop]
    · rcases List.mem_cons.1 hb with rfl | hb
      · exact hq
      · exact h3 b hb

/-- a slice, its elements decoded -/
theorem Rep.list {α : Type} {P : Program} {W : World} {f : Nat} {t e : TypeId} {cs : List Value} (dec : α → List Value) (Q : Nat → α → Prop) (h : Rep P W f t cs) (ht : P.underlying t = some (.slice e)) (hc : 0 < P.cellsOf e) (hb : 0 < P.bytesOf e)
    (hel : ∀ g cs, g < f → Rep P W g e cs → ∃ a, cs = dec a ∧ Q g a) : ∃ (v : Value) (l : List α) (g : Nat), g < f ∧ cs = [v] ∧ l.length * P.bytesOf e ≤ 140737488351232 ∧ Rd W (fun k => k < W.heap.size) v l.length (P.cellsOf e) (l.flatMap dec) ∧ ∀ a ∈ l, Q g a := by
  obtain ⟨g, v, n, xs, rfl, hcs, hby, hr, hR⟩ := h.slice ht hc hb
  obtain ⟨l, h1, h2, h3⟩ := list_of (dec := dec) (Q := Q g) n xs hr.len (fun i hi => hel g _ (Nat.lt_succ_self g) (hR i hi))
  subst h1 h2
  exact ⟨v, l, g, Nat.lt_succ_self g, hcs, hby, hr, h3⟩

theorem flatMap_single {α β : Type} (f : α → β) (l : List α) : (l.flatMap fun a => [f a]) = l.map f := by
  induction l with
  | nil => rfl
  | cons a l ih => rw [List.flatMap_cons, ih]; rfl

theorem Rep.bytes {P : Program} {W : World} {f : Nat} {t e : TypeId} {cs : List Value} (h : Rep P W f t cs) (ht : P.underlying t = some (.slice e)) (he : P.underlying e = some (.int .u8)) (hc : P.cellsOf e = 1) (hb : P.bytesOf e = 1) :
    ∃ (v : Value) (l : List UInt8), cs = [v] ∧ l.length ≤ 140737488351232 ∧ Rd W (fun k => k < W.heap.size) v l.length 1 (l.map U8) := by
  obtain ⟨v, l, g, _, h1, h2, h3, _⟩ := h.list (fun c : UInt8 => [U8 c]) (fun _ _ => True) ht (by omega) (by omega) (fun g cs _ hr => by
    obtain ⟨n, h1, h2⟩ := hr.int he
    simp only [inK] at h2
    refine ⟨UInt8.ofNat n.toNat, ?_, trivial⟩
    rw [h1]
    simp only [U8, UInt8.toNat_ofNat']
    congr 2
    omega)
  rw [hc, flatMap_single] at h3
  exact ⟨v, l, h1, by rw [hb] at h2; omega, h3⟩
theorem Rep.ints {P : Program} {W : World} {f : Nat} {t e : TypeId} {k : IntKind} {cs : List Value} (h : Rep P W f t cs) (ht : P.underlying t = some (.slice e)) (he : P.underlying e = some (.int k)) (hc : P.cellsOf e = 1) (hb : 0 < P.bytesOf e) :
    ∃ (v : Value) (l : List Int), cs = [v] ∧ l.length * P.bytesOf e ≤ 140737488351232 ∧ Rd W (fun k => k < W.heap.size) v l.length 1 (l.map fun n => .int k n) ∧ ∀ n ∈ l, inK k n := by
  obtain ⟨v, l, g, _, h1, h2, h3, h4⟩ := h.list (fun n : Int => [.int k n]) (fun _ n => inK k n) ht (by omega) hb (fun g cs _ hr => hr.int he)
  rw [hc, flatMap_single] at h3
  exact ⟨v, l, h1, h2, h3, h4⟩

theorem Rep.field {P : Program} {W : World} {g : Nat} {fs : Array Field} {cs : List Value} (hf : ∀ (i : Nat) (q : Field), fs[i]? = some q → Rep P W g q.type ((cs.drop q.offset).take (P.cellsOf q.type))) (i : Nat) {q : Field} {t o n : Nat} (hq : fs[i]? = some q) (ht : q.type = t) (ho : q.offset = o) (hn : P.cellsOf t = n) : Rep P W g t ((cs.drop o).take n) := by
  subst ht ho hn
  exact hf i q hq

theorem len1 {cs : List Value} (h : cs.length = 1) : ∃ c0, cs = [c0] := by
  match cs, h with
  | [c0], _ => exact ⟨_, rfl⟩
theorem len2 {cs : List Value} (h : cs.length = 2) : ∃ c0 c1, cs = [c0, c1] := by
  match cs, h with
  | [c0, c1], _ => exact ⟨_, _, rfl⟩
theorem len3 {cs : List Value} (h : cs.length = 3) : ∃ c0 c1 c2, cs = [c0, c1, c2] := by
  match cs, h with
  | [c0, c1, c2], _ => exact ⟨_, _, _, rfl⟩
theorem len4 {cs : List Value} (h : cs.length = 4) : ∃ c0 c1 c2 c3, cs = [c0, c1, c2, c3] := by
  match cs, h with
  | [c0, c1, c2, c3], _ => exact ⟨_, _, _, _, rfl⟩
theorem len5 {cs : List Value} (h : cs.length = 5) : ∃ c0 c1 c2 c3 c4, cs = [c0, c1, c2, c3, c4] := by
  match cs, h with
  | [c0, c1, c2, c3, c4], _ => exact ⟨_, _, _, _, _, rfl⟩
theorem len6 {cs : List Value} (h : cs.length = 6) : ∃ c0 c1 c2 c3 c4 c5, cs = [c0, c1, c2, c3, c4, c5] := by
  match cs, h with
  | [c0, c1, c2, c3, c4, c5], _ => exact ⟨_, _, _, _, _, _, rfl⟩
theorem len7 {cs : List Value} (h : cs.length = 7) : ∃ c0 c1 c2 c3 c4 c5 c6, cs = [c0, c1, c2, c3, c4, c5, c6] := by
  match cs, h with
  | [c0, c1, c2, c3, c4, c5, c6], _ => exact ⟨_, _, _, _, _, _, _, rfl⟩
theorem len8 {cs : List Value} (h : cs.length = 8) : ∃ c0 c1 c2 c3 c4 c5 c6 c7, cs = [c0, c1, c2, c3, c4, c5, c6, c7] := by
  match cs, h with
  | [c0, c1, c2, c3, c4, c5, c6, c7], _ => exact ⟨_, _, _, _, _, _, _, _, rfl⟩

/-- a slice that is handed in -/
theorem open_slice_rep {H : Type} {enc : TypeId × Value → H} {P : Program} {W : World} {base : Nat} {v : Value} {d : DataW H} {ps : List MemPlace} {t e : TypeId} (ht : P.underlying t = some (.slice e))
    (hv : Value.okWide P W .any base t v) (h : DataW.Trod enc P W 0 (fun _ => true) true t v d ps) (hw : (d.weights P t).all (· ≤ reachBytes) = true) : ∃ f, Rep P W f t [v] := by
  obtain ⟨fuel, h⟩ := h
  have h1 := open_rep fuel t _ _ h hw
  rcases okWide_slice ht hv with rfl | ⟨b, off, len, cap, rfl, hle⟩
  · exact ⟨fuel, h1⟩
  · exact ⟨fuel, h1⟩
theorem rep_bytes {P : Program} {W : World} {t e : TypeId} {v : Value} (h : ∃ f, Rep P W f t [v]) (ht : P.underlying t = some (.slice e)) (he : P.underlying e = some (.int .u8)) (hc : P.cellsOf e = 1) (hb : P.bytesOf e = 1) :
    ∃ l : List UInt8, l.length ≤ 140737488351232 ∧ Rd W (fun k => k < W.heap.size) v l.length 1 (l.map U8) := by
  obtain ⟨f, h⟩ := h
  obtain ⟨v', l, h1, h2, h3⟩ := h.bytes ht he hc hb
  simp only [List.cons.injEq, and_true] at h1
  subst h1
  exact ⟨l, h2, h3⟩
theorem rep_ints {P : Program} {W : World} {t e : TypeId} {k : IntKind} {v : Value} (h : ∃ f, Rep P W f t [v]) (ht : P.underlying t = some (.slice e)) (he : P.underlying e = some (.int k)) (hc : P.cellsOf e = 1) (hb : 0 < P.bytesOf e) :
    ∃ l : List Int, l.length * P.bytesOf e ≤ 140737488351232 ∧ Rd W (fun k => k < W.heap.size) v l.length 1 (l.map fun n => .int k n) ∧ ∀ n ∈ l, inK k n := by
  obtain ⟨f, h⟩ := h
  obtain ⟨v', l, h1, h2, h3, h4⟩ := h.ints ht he hc hb
  simp only [List.cons.injEq, and_true] at h1
  subst h1
  exact ⟨l, h2, h3, h4⟩
end Go.Proofs.Ytncakfcafkfmfaa

/-
  types: New, Fresh, head.
-/
namespace Go.Proofs.Ytncakfcafkfmfaa
open Go
set_option linter.unusedSimpArgs false
set_option linter.unusedVariables false

theorem tnew_ok {w : World} {F : Nat → Prop} {n : Int} :
    Ret Try.prog 11 #[.int .i64 n] w fun v w' => ∃ p m1 m2, v = .pointer (some ⟨p, 0, none⟩) ∧ IsS w' F p m1 m2 [] [] n [] ∧ (∀ k, Mut p m1 m2 k → New w w' k) ∧ Upd No w w' := by
  refine enterRet (vs := [_]) (N := 8) Try.func11 rfl rfl rfl ?_
  have hU := Upd.refl No w
  refine WC.keep [(0, _)] ⟨rfl, trivial⟩ ?_
  refine WC.seq ?_
  refine WC.region ?_
  refine WL.val rfl rfl rfl rfl (r_assign rfl ev_c) ?_
  refine WL.nil ?_
  refine WX.keep [(0, _)] ⟨rfl, trivial⟩ ?_
  refine WX.next ?_
  refine WC.seq ?_
  refine WC.region ?_
  refine WL.cons (SO.makeMap rfl rfl rfl rfl rfl ?_)
  intro w1 hu1 hB1 hz1
  have hs1 := hu1.size
  replace hU := hU.transA hu1
  refine WL.val rfl rfl rfl rfl (r_move rfl (ev_t rfl)) ?_
  refine WL.cons (SO.makeMap rfl rfl rfl rfl rfl ?_)
  intro w2 hu2 hB2 hz2
  have hs2 := hu2.size
  replace hU := hU.transA hu2
  replace hB1 := hB1.updA hu2
  refine WL.val rfl rfl rfl rfl (r_build (cs := #[_, _, _]) (vs := [(0, _), (1, _), (2, _)]) rfl ⟨⟨rfl, (ev_t rfl)⟩, ⟨rfl, (ev_t rfl)⟩, ⟨rfl, (ev_t rfl)⟩, trivial⟩ plc_59 zero_59 rfl) ?_
  refine WL.cons (SO.alloc rfl rfl rfl rfl (r_boxAgg rfl (ev_t rfl)) ?_)
  intro w3 hu3 hB3 hz3
  have hs3 := hu3.size
  replace hU := hU.transA hu3
  replace hB1 := hB1.updA hu3
  replace hB2 := hB2.updA hu3
  refine WL.val rfl rfl rfl rfl (r_assign rfl (ev_t rfl)) ?_
  refine WL.nil ?_
  refine WX.keep [(2, _)] ⟨rfl, trivial⟩ ?_
  refine WX.next ?_
  refine WC.ret ?_
  refine WX.retE1 rfl rfl ?_
  refine ⟨_, _, _, rfl, ⟨hB3, hB1, hB2, by omega, TVs.nil _ _⟩, fun k hk => ?_, hU⟩
  simp only [Mut, New] at *
  omega

set_option maxHeartbeats 1000000 in
theorem head_ok {w : World} {F : Nat → Prop} {p m1 m2 n : Nat} {σ : Sg} {D : Dn} {nn : Int} {xs : List C3} {a b c : Value} {t h : Ty} (hI : IsS w F p m1 m2 σ D nn xs) (ht : TV w F (a, b, c) t) (hh : hdF σ n t = some h) :
    Ret Try.prog 31 #[.pointer (some ⟨p, 0, none⟩), .agg #[a, b, c]] w fun v w' => ∃ a' b' c', v = .agg #[a', b', c'] ∧ TV w F (a', b', c') h ∧ Upd No w w' := by
  have hhd := hI.hd
  have hof := hI.of_
  refine enterRet (vs := [_, _]) (N := 24) Try.func31 rfl rfl rfl ?_
  have hU := Upd.refl No w
  refine WC.keep [(0, _), (1, _)] ⟨rfl, rfl, trivial⟩ ?_
  refine WC.seq ?_
  refine WC.region ?_
  refine WL.cons (SO.alloc rfl rfl rfl rfl (r_boxAgg rfl (ev_t rfl)) ?_)
  intro w1 hu1 hB1 hz1
  have hs1 := hu1.size
  replace hU := hU.transA hu1
  refine WL.cons (SO.alloc rfl rfl rfl rfl (r_alloc rfl zero_28) ?_)
  intro w2 hu2 hB2 hz2
  have hs2 := hu2.size
  replace hU := hU.transA hu2
  replace hB1 := hB1.updA hu2
  refine WL.nil ?_
  refine WX.keep [(0, _), (3, _), (4, _)] ⟨rfl, rfl, rfl, trivial⟩ ?_
  refine WX.next ?_
  refine WC.seq ?_
  refine WC.block ?_
  -- loop 1: live [0, 3, 4]
  refine WC.keep [(0, _), (3, _), (4, _)] ⟨rfl, rfl, rfl, trivial⟩ ?_
  refine WC.loop (fun q E w' => ∃ (a b c : Value) (t : Ty), Upd No w w' ∧ w2.heap.size ≤ w'.heap.size ∧ Blk w' w.heap.size #[a, b, c] typ ∧ Blk w' w1.heap.size #[.string ⟨#[]⟩, .int .i64 0, .slice none 0 0] typ ∧ TV w F (a, b, c) t ∧ hdF σ q t = some h ∧   E = [(0, .pointer (some ⟨p, 0, none⟩)), (3, .pointer (some ⟨w.heap.size, 0, none⟩)), (4, .pointer (some ⟨w1.heap.size, 0, none⟩))]) (n) ?_ ?_
  · exact ⟨a, b, c, t, hU, by omega, hB1, hB2, ht, hh, rfl⟩
  · rintro q E w' ⟨a, b, c, t, hU, hws, hb3, hb4, ht, hh, rfl⟩
    obtain ⟨m, A0, k0, xk, rfl, rfl, rfl, hm, hr, hl, hb, hk⟩ := ht.open
    have hs0 := hU.size
    refine WC.seq ?_
    refine WC.seq ?_
    refine WC.region ?_
    first | refine WL.val rfl rfl rfl rfl (r_field0 rfl (ev_t rfl) fld_28_0) ?_ | refine WL.val rfl rfl rfl rfl (r_fieldAt rfl (ev_t rfl) fld_28_0) ?_
    refine WL.val rfl rfl rfl rfl (r_load rfl (ev_t rfl) flat_9 (Blk.cell hb3 rfl)) ?_
    refine WL.val rfl rfl rfl rfl (r_eqlStrL rfl (ev_t rfl) ev_c) ?_
    refine WL.nil ?_
    refine WX.keep [(0, _), (3, _), (4, _), (9, _)] ⟨rfl, rfl, rfl, rfl, trivial⟩ ?_
    refine WX.next ?_
    refine WC.cond rfl (ev_t rfl) (fun hc1 => ?_) (fun hc1 => ?_)
    · try (exfalso; first | (simp at hc1; done) | (simp only [decide_eq_true_eq, decide_eq_false_iff_not, Bool.not_eq_true', Bool.not_eq_false', Bool.not_eq_true, Bool.not_eq_false] at hc1; omega) | omega)
      all_goals
       try simp only [decide_eq_true_eq, decide_eq_false_iff_not, Bool.not_eq_true', Bool.not_eq_false', Bool.not_eq_true, Bool.not_eq_false, Option.isNone_none, Option.isNone_some, Option.isSome_none, Option.isSome_some, ne_eq, Decidable.not_not] at hc1
       obtain ⟨x, rfl⟩ := Ty.nm_nil.1 hc1
       obtain rfl := (hm x rfl).symm
       obtain ⟨s1, x1, A1, n1, k1, ok, hL⟩ := hI.lookR x
       refine WC.skip ?_
       refine WX.next ?_
       refine WC.block ?_
       refine WC.seq ?_
       refine WC.draws' (fun u0_ u1_ => Upd No u0_ u1_) (fun j => [0, 0, 0, 0, 0, 0, 0, 0, 0, 0, 1, 2, 0].getD j 0) (.calm 0 (.calm 1 (.calm 2 (.calm 4 (.held 3 (.held 5 (.held 6 (.calm 7 (.calm 8 (.calm 9 (.one 10 (.one 11 (.calm 12 (.done)))))))))))))) mixed (by kernel_rfl) (by repeat (first | with_reducible exact Deaf.body | with_reducible apply Deaf.then | with_reducible apply Deaf.block)) ?_
       intro w3 hu3
       have hz3 := congrArg Array.size hu3.2.2.2
       replace hu3 := Upd.of_draw hu3
       have hs3 := hu3.size
       replace hU := hU.transA hu3
       replace hb3 := hb3.updA hu3
       replace hb4 := hb4.updA hu3
       have hS2 := Upd.refl No w3
       refine WN.calm _ rfl rfl rfl rfl rfl (fun _ => r_move rfl (ev_t rfl)) ?_
       refine WN.calm _ rfl rfl rfl rfl rfl (fun _ => r_nilCheck rfl (ev_t rfl)) ?_
       first | refine WN.calm _ rfl rfl rfl rfl rfl (fun _ => r_field0 rfl (ev_t rfl) fld_59_0) ?_ | refine WN.calm _ rfl rfl rfl rfl rfl (fun _ => r_fieldAt rfl (ev_t rfl) fld_59_0) ?_
       first | refine WN.calm _ rfl rfl rfl rfl rfl (fun _ => r_field0 rfl (ev_t rfl) fld_28_1) ?_ | refine WN.calm _ rfl rfl rfl rfl rfl (fun _ => r_fieldAt rfl (ev_t rfl) fld_28_1) ?_
       refine WN.held _ rfl rfl rfl rfl rfl hS2 (fun w' hS => r_load rfl (ev_t rfl) flat_56 (Blk.cell ((hhd.upd hU (fun h => h)).upd hS (fun h => h)) rfl)) ?_
       refine WN.held _ rfl rfl rfl rfl rfl hS2 (fun w' hS => r_load rfl (ev_t rfl) flat_3 (Blk.cell (hb3.upd hS (fun h => h)) rfl)) ?_
       refine WN.held _ rfl rfl rfl rfl rfl hS2 (fun w' hS => r_lookupV keyI ((hof.upd hU (fun h => h)).upd hS (fun h => h)) hL.val hL.isS rfl (ev_t rfl) (ev_t rfl) map_56 zero_28) ?_
       refine WN.calm _ rfl rfl rfl rfl rfl (fun _ => r_move rfl (ev_t rfl)) ?_
       refine WN.calm _ rfl rfl rfl rfl rfl (fun _ => r_extract rfl (ev_t rfl) rfl) ?_
       refine WN.calm _ rfl rfl rfl rfl rfl (fun _ => r_extract rfl (ev_t rfl) rfl) ?_
       refine WN.step _ rfl (SO.alloc rfl rfl rfl rfl (r_alloc rfl zero_28) ?_)
       intro w4 hu4 hB4 hz4
       have hs4 := hu4.size
       replace hS2 := Upd.transA hS2 hu4
       replace hU := hU.transA hu4
       replace hb3 := hb3.updA hu4
       replace hb4 := hb4.updA hu4
       refine ⟨hS2, ?_⟩
       refine WN.step _ rfl (SO.storeAll (us := [_, _, _]) rfl (ev_t rfl) (ev_t rfl) size_28 hB4 rfl rfl rfl rfl rfl ?_)
       intro w5 hu5 hB4 hz5
       have hs5 := hu5.size
       try replace hS2 := Upd.transA hS2 hu5
       replace hU := hU.transA hu5
       replace hb3 := hb3.updA hu5
       replace hb4 := hb4.updA hu5
       refine ⟨trivial, ?_⟩
       refine WN.calm _ rfl rfl rfl rfl rfl (fun _ => r_assign rfl (ev_t rfl)) ?_
       refine WN.done ?_
       refine WX.keep [(0, _), (3, _), (4, _), (5, _), (6, _)] ⟨rfl, rfl, rfl, rfl, rfl, trivial⟩ ?_
       refine WX.next ?_
       refine WC.seq ?_
       refine WC.seq ?_
       refine WC.region ?_
       refine WL.val rfl rfl rfl rfl (r_move rfl (ev_t rfl)) ?_
       refine WL.val rfl rfl rfl rfl (r_not rfl (ev_t rfl)) ?_
       refine WL.nil ?_
       refine WX.keep [(0, _), (3, _), (4, _), (5, _), (21, _)] ⟨rfl, rfl, rfl, rfl, rfl, trivial⟩ ?_
       refine WX.next ?_
       refine WC.cond rfl (ev_t rfl) (fun hc3 => ?_) (fun hc3 => ?_)
       · try (exfalso; first | (simp at hc3; done) | (simp only [decide_eq_true_eq, decide_eq_false_iff_not, Bool.not_eq_true', Bool.not_eq_false', Bool.not_eq_true, Bool.not_eq_false] at hc3; omega) | omega)
         all_goals
          try simp only [decide_eq_true_eq, decide_eq_false_iff_not, Bool.not_eq_true', Bool.not_eq_false', Bool.not_eq_true, Bool.not_eq_false, Option.isNone_none, Option.isNone_some, Option.isSome_none, Option.isSome_some, ne_eq, Decidable.not_not] at hc3
          obtain rfl := hd_none (hL.no (by simpa using hc3)) hh
          refine WC.exit ?_
          refine WX.thenExit ?_
          refine WX.blockPast rfl ?_
          refine WX.thenExit ?_
          refine WX.blockHere ?_
          refine WX.next ?_
          refine WC.seq ?_
          refine WC.region ?_
          refine WL.val rfl rfl rfl rfl (r_loadAgg (vs := [_, _, _]) rfl (ev_t rfl) agg_28 size_28 (Blk.cellsL hb3)) ?_
          refine WL.cons (SO.storeAll (us := [_, _, _]) rfl (ev_t rfl) (ev_t rfl) size_28 hb4 rfl rfl rfl rfl rfl ?_)
          intro w6 hu6 hb4 hz6
          have hs6 := hu6.size
          replace hU := hU.transA hu6
          replace hb3 := hb3.updA hu6
          replace hB4 := hB4.updA hu6
          refine WL.nil ?_
          refine WX.keep [(4, _)] ⟨rfl, trivial⟩ ?_
          refine WX.next ?_
          refine WC.ret ?_
          refine WX.retC (vs := [_, _, _]) rfl rfl agg_28 size_28 (Blk.cellsL hb4) ?_
          exact ⟨_, _, _, rfl, ht, hU⟩
       · try (exfalso; first | (simp at hc3; done) | (simp only [decide_eq_true_eq, decide_eq_false_iff_not, Bool.not_eq_true', Bool.not_eq_false', Bool.not_eq_true, Bool.not_eq_false] at hc3; omega) | omega)
         all_goals
          try simp only [decide_eq_true_eq, decide_eq_false_iff_not, Bool.not_eq_true', Bool.not_eq_false', Bool.not_eq_true, Bool.not_eq_false, Option.isNone_none, Option.isNone_some, Option.isSome_none, Option.isSome_some, ne_eq, Decidable.not_not] at hc3
          obtain ⟨u, hlu, htu⟩ := hL.yes (by simpa using hc3)
          obtain ⟨q', rfl, hh'⟩ := hd_some hlu hh
          refine WC.skip ?_
          refine WX.next ?_
          refine WC.region ?_
          refine WL.val rfl rfl rfl rfl (r_loadAgg (vs := [_, _, _]) rfl (ev_t rfl) agg_28 size_28 (Blk.cellsL hB4)) ?_
          refine WL.cons (SO.storeAll (us := [_, _, _]) rfl (ev_t rfl) (ev_t rfl) size_28 hb3 rfl rfl rfl rfl rfl ?_)
          intro w7 hu7 hb3 hz7
          have hs7 := hu7.size
          replace hU := hU.transA hu7
          replace hb4 := hb4.updA hu7
          replace hB4 := hB4.updA hu7
          refine WL.nil ?_
          refine WX.keep [(0, _), (3, _), (4, _)] ⟨rfl, rfl, rfl, trivial⟩ ?_
          refine WX.blockNormal ?_
          refine WX.meet [(0, _), (3, _), (4, _)] ⟨rfl, rfl, rfl, trivial⟩ ?_
          exact ⟨q', Nat.lt_succ_self _, _, _, _, u, hU, by omega, hb3, hb4, htu, hh', rfl⟩
    · try (exfalso; first | (simp at hc1; done) | (simp only [decide_eq_true_eq, decide_eq_false_iff_not, Bool.not_eq_true', Bool.not_eq_false', Bool.not_eq_true, Bool.not_eq_false] at hc1; omega) | omega)
      all_goals
       try simp only [decide_eq_true_eq, decide_eq_false_iff_not, Bool.not_eq_true', Bool.not_eq_false', Bool.not_eq_true, Bool.not_eq_false, Option.isNone_none, Option.isNone_some, Option.isSome_none, Option.isSome_some, ne_eq, Decidable.not_not] at hc1
       obtain rfl := hd_con hc1 hh
       refine WC.exit ?_
       refine WX.thenExit ?_
       refine WX.thenExit ?_
       refine WX.blockHere ?_
       refine WX.next ?_
       refine WC.seq ?_
       refine WC.region ?_
       refine WL.val rfl rfl rfl rfl (r_loadAgg (vs := [_, _, _]) rfl (ev_t rfl) agg_28 size_28 (Blk.cellsL hb3)) ?_
       refine WL.cons (SO.storeAll (us := [_, _, _]) rfl (ev_t rfl) (ev_t rfl) size_28 hb4 rfl rfl rfl rfl rfl ?_)
       intro w8 hu8 hb4 hz8
       have hs8 := hu8.size
       replace hU := hU.transA hu8
       replace hb3 := hb3.updA hu8
       refine WL.nil ?_
       refine WX.keep [(4, _)] ⟨rfl, trivial⟩ ?_
       refine WX.next ?_
       refine WC.ret ?_
       refine WX.retC (vs := [_, _, _]) rfl rfl agg_28 size_28 (Blk.cellsL hb4) ?_
       exact ⟨_, _, _, rfl, ht, hU⟩
end Go.Proofs.Ytncakfcafkfmfaa

/-
  types: Fresh, Size, Apply.
-/
namespace Go.Proofs.Ytncakfcafkfmfaa
open Go
set_option linter.unusedSimpArgs false
set_option linter.unusedVariables false

theorem fresh_ok {w : World} {F : Nat → Prop} {p m1 m2 : Nat} {σ : Sg} {D : Dn} {nn : Int} {xs : List C3} (hI : IsS w F p m1 m2 σ D nn xs) (hF : ∀ k, F k → ¬ Mut p m1 m2 k) (hn : inK .i64 (nn + 1)) :
    Ret Try.prog 28 #[.pointer (some ⟨p, 0, none⟩)] w fun v w' => v = .agg #[.string ⟨#[]⟩, .int .i64 (nn + 1), .slice none 0 0] ∧ IsS w' F p m1 m2 σ D (nn + 1) xs ∧ Upd (At p) w w' := by
  have hhd := hI.hd
  have hlt := hI.lt
  have hn1 := hI.ne1
  have hn2 := hI.ne2
  have hn' : inK .i64 (nn + 1) := hn
  simp only [inK] at hn'
  refine enterRet (vs := [_]) (N := 15) Try.func28 rfl rfl rfl ?_
  have hU := Upd.refl (At p) w
  refine WC.keep [(0, _)] ⟨rfl, trivial⟩ ?_
  refine WC.seq ?_
  refine WC.region ?_
  refine WL.cons (SO.alloc rfl rfl rfl rfl (r_alloc rfl zero_28) ?_)
  intro w1 hu1 hB1 hz1
  have hs1 := hu1.size
  replace hU := hU.transA hu1
  replace hhd := hhd.updA hu1
  refine WL.nil ?_
  refine WX.keep [(0, _), (2, _)] ⟨rfl, rfl, trivial⟩ ?_
  refine WX.next ?_
  refine WC.seq ?_
  refine WC.region ?_
  refine WL.val rfl rfl rfl rfl (r_move rfl (ev_t rfl)) ?_
  refine WL.val rfl rfl rfl rfl (r_nilCheck rfl (ev_t rfl)) ?_
  first | refine WL.val rfl rfl rfl rfl (r_field0 rfl (ev_t rfl) fld_59_1) ?_ | refine WL.val rfl rfl rfl rfl (r_fieldAt rfl (ev_t rfl) fld_59_1) ?_
  first | refine WL.val rfl rfl rfl rfl (r_load rfl (ev_t rfl) flat_3 (Blk.cell hhd rfl)) ?_ | refine WL.val rfl rfl rfl rfl (r_load rfl (ev_t rfl) flat_3 (Blk.cell hB1 rfl)) ?_
  first | refine WL.val rfl rfl rfl rfl (r_addN rfl (ev_t rfl) ev_c (by simp only [inK]; omega)) ?_ | refine WL.val rfl rfl rfl rfl (r_add rfl (ev_t rfl) ev_c) ?_
  refine WL.val rfl rfl rfl rfl (r_nilCheck rfl (ev_t rfl)) ?_
  first | refine WL.val rfl rfl rfl rfl (r_field0 rfl (ev_t rfl) fld_59_1) ?_ | refine WL.val rfl rfl rfl rfl (r_fieldAt rfl (ev_t rfl) fld_59_1) ?_
  refine WL.cons (SO.store rfl (ev_t rfl) (ev_t rfl) size_3 hhd rfl rfl rfl rfl rfl ?_)
  intro w2 hu2 hhd hz2
  have hs2 := hu2.size
  replace hU := hU.transA hu2
  replace hB1 := hB1.updA hu2
  refine WL.nil ?_
  refine WX.keep [(0, _), (2, _)] ⟨rfl, rfl, trivial⟩ ?_
  refine WX.next ?_
  refine WC.seq ?_
  refine WC.region ?_
  refine WL.val rfl rfl rfl rfl (r_move rfl (ev_t rfl)) ?_
  refine WL.val rfl rfl rfl rfl (r_nilCheck rfl (ev_t rfl)) ?_
  first | refine WL.val rfl rfl rfl rfl (r_field0 rfl (ev_t rfl) fld_59_1) ?_ | refine WL.val rfl rfl rfl rfl (r_fieldAt rfl (ev_t rfl) fld_59_1) ?_
  first | refine WL.val rfl rfl rfl rfl (r_load rfl (ev_t rfl) flat_3 (Blk.cell hhd rfl)) ?_ | refine WL.val rfl rfl rfl rfl (r_load rfl (ev_t rfl) flat_3 (Blk.cell hB1 rfl)) ?_
  refine WL.val rfl rfl rfl rfl (r_build (cs := #[_, _, _]) (vs := [(1, _)]) rfl ⟨⟨rfl, (ev_t rfl)⟩, trivial⟩ plc_28 zero_28 rfl) ?_
  refine WL.cons (SO.storeAll (us := [_, _, _]) rfl (ev_t rfl) (ev_t rfl) size_28 hB1 rfl rfl rfl rfl rfl ?_)
  intro w3 hu3 hB1 hz3
  have hs3 := hu3.size
  replace hU := hU.transA hu3
  replace hhd := hhd.updA hu3
  refine WL.nil ?_
  refine WX.keep [(2, _)] ⟨rfl, trivial⟩ ?_
  refine WX.next ?_
  refine WC.ret ?_
  refine WX.retC (vs := [_, _, _]) rfl rfl agg_28 size_28 (Blk.cellsL hB1) ?_
  refine ⟨rfl, ⟨hhd, hI.of_.upd hU (fun h => hn1 h), hI.dn.upd hU (fun h => hn2 h), hI.ne, hI.tv.upd hU fun k hk _ h => ?_⟩, hU⟩
  have hkp : k = p := h
  exact hF k hk (.inl hkp)

theorem head_sz {σ : Sg} {t h : Ty} (hw : WF σ) (i : IsHd σ t h) : sz (ext (th σ) t) = 1 + (h.kids.map fun k => sz (ext (th σ) k)).sum := by
  rw [← i.sol hw.sol]
  cases h with
  | v x => rw [ext_v, hw.unb (i.end_ x rfl), sz_v]; rfl
  | c f ks => rw [ext_c, sz_c, List.map_map]; rfl
theorem head_ext {σ : Sg} {t h : Ty} (hw : WF σ) (i : IsHd σ t h) : (ext (th σ) t).nm = h.nm ∧ (ext (th σ) t).kids = h.kids.map (ext (th σ)) ∧ ∀ x, ext (th σ) t = .v x → h = .v x := by
  rw [← i.sol hw.sol]
  cases h with
  | v x =>
    rw [ext_v, hw.unb (i.end_ x rfl)]
    exact ⟨rfl, rfl, fun y e => e⟩
  | c f ks =>
    rw [ext_c]
    exact ⟨rfl, rfl, fun y e => by cases e⟩
theorem take_sum_succ {l : List Ty} {f : Ty → Nat} {i : Nat} (h : i < l.length) : ((l.take (i + 1)).map f).sum = ((l.take i).map f).sum + f l[i] := by
  rw [List.take_succ_eq_append_getElem h, List.map_append, List.sum_append]
  simp
theorem kid_lt {σ : Sg} {l : List Ty} {i : Nat} (h : i < l.length) : sz (ext (th σ) l[i]) ≤ (l.map fun k => sz (ext (th σ) k)).sum := sum_mem_le (List.mem_map_of_mem (List.getElem_mem h))
theorem take_sum_le {l : List Ty} {f : Ty → Nat} {i : Nat} : ((l.take i).map f).sum ≤ (l.map f).sum := by
  have : l.map f = (l.take i).map f ++ (l.drop i).map f := by rw [← List.map_append, List.take_append_drop]
  rw [this, List.sum_append]
  omega

set_option maxHeartbeats 1000000 in
theorem tsize_ok {p m1 m2 : Nat} {σ : Sg} {D : Dn} {nn : Int} {xs : List C3} (hw : WF σ) : ∀ (N : Nat) (F : Nat → Prop) (w : World) (a b c : Value) (t : Ty) (most : Nat), sz (ext (th σ) t) ≤ N → IsS w F p m1 m2 σ D nn xs → TV w F (a, b, c) t → 1 ≤ most → most ≤ 1000000000 →
    Ret Try.prog 19 #[.pointer (some ⟨p, 0, none⟩), .agg #[a, b, c], .int .i64 (most : Int)] w fun v w' => v = .int .i64 ((min (sz (ext (th σ) t)) most : Nat) : Int) ∧ Upd No w w' := by
  intro N
  induction N with
  | zero =>
    intro F w a b c t most hN
    have := sz_pos (ext (th σ) t)
    omega
  | succ N ih =>
    intro F w a b c t most hN hI ht h1 h2
    replace hI := hI.bound
    replace ht := ht.bound
    obtain ⟨h, hh⟩ := hw.hd t
    obtain ⟨fu, hfu⟩ := hh.fuel
    have hsz := head_sz hw hh
    obtain ⟨m0, A9, k9, xk9, rfl, rfl, rfl, _⟩ := ht.open
    refine enterRet (vs := [_, _, _]) (N := 33) Try.func19 rfl rfl rfl ?_
    have hU := Upd.refl No w
    refine WC.keep [(0, _), (1, _), (2, _)] ⟨rfl, rfl, rfl, trivial⟩ ?_
    refine WC.seq ?_
    refine WC.region ?_
    refine WL.cons (SO.alloc rfl rfl rfl rfl (r_boxAgg rfl (ev_t rfl)) ?_)
    intro w1 hu1 hB1 hz1
    have hs1 := hu1.size
    replace hU := hU.transA hu1
    refine WL.val rfl rfl rfl rfl (r_assign rfl ev_c) ?_
    refine WL.nil ?_
    refine WX.keep [(0, _), (2, _), (4, _)] ⟨rfl, rfl, rfl, trivial⟩ ?_
    refine WX.next ?_
    refine WC.seq ?_
    refine WC.region ?_
    refine WL.val rfl rfl rfl rfl (r_assign rfl ev_c) ?_
    refine WL.nil ?_
    refine WX.keep [(0, _), (2, _), (4, _), (7, _)] ⟨rfl, rfl, rfl, rfl, trivial⟩ ?_
    refine WX.next ?_
    refine WC.seq ?_
    refine WC.seq ?_
    refine WC.region ?_
    refine WL.val rfl rfl rfl rfl (r_move rfl (ev_t rfl)) ?_
    refine WL.val rfl rfl rfl rfl (r_loadAgg (vs := [_, _, _]) rfl (ev_t rfl) agg_28 size_28 (Blk.cellsL hB1)) ?_
    refine WL.cons (SO.call (head_ok (hI.updN hU) (ht.upd hU (fun _ _ _ h => h)) (hfu fu (Nat.le_refl _))) rfl body_31 ⟨(ev_t rfl), (ev_t rfl), trivial⟩ rfl rfl rfl rfl ?_)
    rintro v w2 ⟨a', b', c', rfl, hth, hu2⟩
    obtain ⟨m, A0, k0, xk, rfl, rfl, rfl, hm, hr, hl, hb, hk⟩ := hth.open
    have hks : TVs w1 _ xk h.kids := ⟨hl, hk⟩
    have hs2 := hu2.size
    replace hU := hU.transA hu2
    replace hB1 := hB1.updA hu2
    replace hr := hr.updA hu2
    replace hks := hks.updA hu2
    refine WL.val rfl rfl rfl rfl (r_fieldV (n := 2) rfl (ev_t rfl) (by kernel_rfl) rfl) ?_
    refine WL.val rfl rfl rfl rfl (r_lenSlice (ts := #[]) rfl (ev_t rfl) elem_26) ?_
    refine WL.val rfl rfl rfl rfl (r_move rfl ev_c) ?_
    refine WL.nil ?_
    refine WX.keep [(0, _), (2, _), (7, _), (13, _), (14, _), (15, _)] ⟨rfl, rfl, rfl, rfl, rfl, rfl, trivial⟩ ?_
    refine WX.next ?_
    refine WC.block ?_
    -- loop 1: live [0, 2, 7, 13, 14, 15]
    refine WC.keep [(0, _), (2, _), (7, _), (13, _), (14, _), (15, _)] ⟨rfl, rfl, rfl, rfl, rfl, rfl, trivial⟩ ?_
    refine WC.loop (fun q E w' => ∃ (i n : Nat), i ≤ h.kids.length ∧ q = h.kids.length - i ∧ Upd No w w' ∧ Rd w' (fun k => F k ∧ k < w.heap.size) (.slice A0 h.kids.length k0) h.kids.length 3 (xk.flatMap c3) ∧ TVs w' (fun k => F k ∧ k < w.heap.size) xk h.kids ∧ n = min (1 + ((h.kids.take i).map fun k => sz (ext (th σ) k)).sum) most ∧   E = [(0, .pointer (some ⟨p, 0, none⟩)), (2, .int .i64 (most : Int)), (7, .int .i64 (n : Int)), (13, .slice A0 h.kids.length k0), (14, .int .i64 (h.kids.length : Int)), (15, .int .i64 (i : Int))]) (h.kids.length) ?_ ?_
    · exact ⟨0, 1, by omega, by omega, hU, hr, hks, by simp; omega, rfl⟩
    · rintro q E w' ⟨i, n, hi, rfl, hU, hr, hks, hn, rfl⟩
      have hs0 := hU.size
      refine WC.seq ?_
      refine WC.region ?_
      refine WL.val rfl rfl rfl rfl (r_lss rfl (ev_t rfl) (ev_t rfl)) ?_
      refine WL.nil ?_
      refine WX.keep [(0, _), (2, _), (7, _), (13, _), (14, _), (15, _), (16, _)] ⟨rfl, rfl, rfl, rfl, rfl, rfl, rfl, trivial⟩ ?_
      refine WX.next ?_
      refine WC.seq ?_
      refine WC.cond rfl (ev_t rfl) (fun hc3 => ?_) (fun hc3 => ?_)
      · try (exfalso; first | (simp at hc3; done) | (simp only [decide_eq_true_eq, decide_eq_false_iff_not, Bool.not_eq_true', Bool.not_eq_false', Bool.not_eq_true, Bool.not_eq_false] at hc3; omega) | omega)
        all_goals
         try simp only [decide_eq_true_eq, decide_eq_false_iff_not, Bool.not_eq_true', Bool.not_eq_false', Bool.not_eq_true, Bool.not_eq_false, Option.isNone_none, Option.isNone_some, Option.isSome_none, Option.isSome_some, ne_eq, Decidable.not_not] at hc3
         have hi' : i < h.kids.length := by omega
         obtain ⟨b0, off, rfl, _⟩ := hr.open (by omega)
         have hxi : xk[i]? = some xk[i] := List.getElem?_eq_getElem (by have := hks.1; omega)
         have hki : h.kids[i]? = some h.kids[i] := List.getElem?_eq_getElem hi'
         have htk := hks.2 i _ _ hxi hki
         have hsum := take_sum_succ (f := fun k => sz (ext (th σ) k)) hi'
         have hkl := kid_lt (σ := σ) hi'
         have hle := take_sum_le (l := h.kids) (f := fun k => sz (ext (th σ) k)) (i := i)
         generalize xk[i] = ck at *
         generalize h.kids[i] = kk at *
         obtain ⟨ca, cb, cc⟩ := ck
         have hcel := kid_cells hr hxi rfl
         obtain ⟨m3, A3, k3, xk3, rfl, rfl, rfl, _⟩ := htk.open
         refine WC.skip ?_
         refine WX.next ?_
         refine WC.seq ?_
         refine WC.block ?_
         refine WC.seq ?_
         refine WC.region ?_
         refine WL.val rfl rfl rfl rfl (r_indexAddr rfl (ev_t rfl) (ev_t rfl) elem_26 size_28 (by omega) (by omega)) ?_
         refine WL.val rfl rfl rfl rfl (r_loadAgg (vs := [_, _, _]) rfl (ev_t rfl) agg_28 size_28 hcel) ?_
         skip
         refine WL.cons (SO.alloc rfl rfl rfl rfl (r_alloc rfl zero_28) ?_)
         intro w3 hu3 hB3 hz3
         have hs3 := hu3.size
         replace hU := hU.transA hu3
         replace hr := hr.updA hu3
         replace hks := hks.updA hu3
         replace htk := htk.updA hu3
         refine WL.cons (SO.storeAll (us := [_, _, _]) rfl (ev_t rfl) (ev_t rfl) size_28 hB3 rfl rfl rfl rfl rfl ?_)
         intro w4 hu4 hB3 hz4
         have hs4 := hu4.size
         replace hU := hU.transA hu4
         replace hr := hr.updA hu4
         replace hks := hks.updA hu4
         replace htk := htk.updA hu4
         refine WL.nil ?_
         refine WX.keep [(0, _), (2, _), (7, _), (9, _), (13, _), (14, _), (15, _)] ⟨rfl, rfl, rfl, rfl, rfl, rfl, rfl, trivial⟩ ?_
         refine WX.next ?_
         refine WC.seq ?_
         refine WC.seq ?_
         refine WC.region ?_
         refine WL.val rfl rfl rfl rfl (r_move rfl (ev_t rfl)) ?_
         refine WL.val rfl rfl rfl rfl (r_move rfl (ev_t rfl)) ?_
         refine WL.val rfl rfl rfl rfl (r_geq rfl (ev_t rfl) (ev_t rfl)) ?_
         refine WL.nil ?_
         refine WX.keep [(0, _), (2, _), (7, _), (9, _), (13, _), (14, _), (15, _), (21, _)] ⟨rfl, rfl, rfl, rfl, rfl, rfl, rfl, rfl, trivial⟩ ?_
         refine WX.next ?_
         refine WC.cond rfl (ev_t rfl) (fun hc5 => ?_) (fun hc5 => ?_)
         · try (exfalso; first | (simp at hc5; done) | (simp only [decide_eq_true_eq, decide_eq_false_iff_not, Bool.not_eq_true', Bool.not_eq_false', Bool.not_eq_true, Bool.not_eq_false] at hc5; omega) | omega)
           all_goals
            try simp only [decide_eq_true_eq, decide_eq_false_iff_not, Bool.not_eq_true', Bool.not_eq_false', Bool.not_eq_true, Bool.not_eq_false, Option.isNone_none, Option.isNone_some, Option.isSome_none, Option.isSome_some, ne_eq, Decidable.not_not] at hc5
            refine WC.seq ?_
            refine WC.region ?_
            refine WL.val rfl rfl rfl rfl (r_move rfl (ev_t rfl)) ?_
            refine WL.val rfl rfl rfl rfl (r_assign rfl (ev_t rfl)) ?_
            refine WL.nil ?_
            refine WX.keep [(6, _)] ⟨rfl, trivial⟩ ?_
            refine WX.next ?_
            refine WC.ret ?_
            refine WX.thenRet ?_
            refine WX.blockRet ?_
            refine WX.thenRet ?_
            refine WX.thenRet ?_
            refine WX.blockRet ?_
            refine WX.thenRet ?_
            refine WX.retE1 rfl rfl ?_
            refine ⟨?_, hU⟩
            rw [hsz]
            congr 1
            omega
         · try (exfalso; first | (simp at hc5; done) | (simp only [decide_eq_true_eq, decide_eq_false_iff_not, Bool.not_eq_true', Bool.not_eq_false', Bool.not_eq_true, Bool.not_eq_false] at hc5; omega) | omega)
           all_goals
            try simp only [decide_eq_true_eq, decide_eq_false_iff_not, Bool.not_eq_true', Bool.not_eq_false', Bool.not_eq_true, Bool.not_eq_false, Option.isNone_none, Option.isNone_some, Option.isSome_none, Option.isSome_some, ne_eq, Decidable.not_not] at hc5
            refine WC.skip ?_
            refine WX.next ?_
            refine WC.region ?_
            refine WL.val rfl rfl rfl rfl (r_move rfl (ev_t rfl)) ?_
            refine WL.val rfl rfl rfl rfl (r_move rfl (ev_t rfl)) ?_
            refine WL.val rfl rfl rfl rfl (r_loadAgg (vs := [_, _, _]) rfl (ev_t rfl) agg_28 size_28 (Blk.cellsL hB3)) ?_
            refine WL.val rfl rfl rfl rfl (r_move rfl (ev_t rfl)) ?_
            refine WL.val rfl rfl rfl rfl (r_move rfl (ev_t rfl)) ?_
            first | refine WL.val rfl rfl rfl rfl (r_subN rfl (ev_t rfl) (ev_t rfl) (by simp only [inK]; omega)) ?_ | refine WL.val rfl rfl rfl rfl (r_sub rfl (ev_t rfl) (ev_t rfl)) ?_
            rw [show ((most : Int) - (n : Int)) = ((most - n : Nat) : Int) by omega]
            refine WL.cons (SO.call (ih _ _ _ _ _ kk (most - n) (by omega) (hI.updN hU) htk (by omega) (by omega)) rfl body_19 ⟨(ev_t rfl), (ev_t rfl), (ev_t rfl), trivial⟩ rfl rfl rfl rfl ?_)
            rintro v w5 ⟨rfl, hu5⟩
            have hs5 := hu5.size
            replace hU := hU.transA hu5
            replace hr := hr.updA hu5
            replace hks := hks.updA hu5
            replace htk := htk.updA hu5
            replace hB3 := hB3.updA hu5
            first | refine WL.val rfl rfl rfl rfl (r_addN rfl (ev_t rfl) (ev_t rfl) (by simp only [inK]; omega)) ?_ | refine WL.val rfl rfl rfl rfl (r_add rfl (ev_t rfl) (ev_t rfl)) ?_
            refine WL.val rfl rfl rfl rfl (r_assign rfl (ev_t rfl)) ?_
            refine WL.nil ?_
            refine WX.keep [(0, _), (2, _), (7, _), (13, _), (14, _), (15, _)] ⟨rfl, rfl, rfl, rfl, rfl, rfl, trivial⟩ ?_
            refine WX.blockNormal ?_
            refine WX.next ?_
            refine WC.region ?_
            first | refine WL.val rfl rfl rfl rfl (r_addN rfl (ev_t rfl) ev_c (by simp only [inK]; omega)) ?_ | refine WL.val rfl rfl rfl rfl (r_add rfl (ev_t rfl) ev_c) ?_
            refine WL.val rfl rfl rfl rfl (r_move rfl (ev_t rfl)) ?_
            refine WL.nil ?_
            refine WX.keep [(0, _), (2, _), (7, _), (13, _), (14, _), (15, _)] ⟨rfl, rfl, rfl, rfl, rfl, rfl, trivial⟩ ?_
            refine WX.meet [(0, _), (2, _), (7, _), (13, _), (14, _), (15, _)] ⟨rfl, rfl, rfl, rfl, rfl, rfl, trivial⟩ ?_
            exact ⟨h.kids.length - (i + 1), by omega, i + 1, n + min (sz (ext (th σ) kk)) (most - n), by omega, rfl, hU, hr, hks, by rw [hsum]; omega, by simp⟩
      · try (exfalso; first | (simp at hc3; done) | (simp only [decide_eq_true_eq, decide_eq_false_iff_not, Bool.not_eq_true', Bool.not_eq_false', Bool.not_eq_true, Bool.not_eq_false] at hc3; omega) | omega)
        all_goals
         try simp only [decide_eq_true_eq, decide_eq_false_iff_not, Bool.not_eq_true', Bool.not_eq_false', Bool.not_eq_true, Bool.not_eq_false, Option.isNone_none, Option.isNone_some, Option.isSome_none, Option.isSome_some, ne_eq, Decidable.not_not] at hc3
         refine WC.exit ?_
         refine WX.thenExit ?_
         refine WX.thenExit ?_
         refine WX.blockHere ?_
         refine WX.next ?_
         refine WC.seq ?_
         refine WC.region ?_
         refine WL.val rfl rfl rfl rfl (r_move rfl (ev_t rfl)) ?_
         refine WL.val rfl rfl rfl rfl (r_assign rfl (ev_t rfl)) ?_
         refine WL.nil ?_
         refine WX.keep [(6, _)] ⟨rfl, trivial⟩ ?_
         refine WX.next ?_
         refine WC.ret ?_
         refine WX.retE1 rfl rfl ?_
         refine ⟨?_, hU⟩
         have : h.kids.take i = h.kids := List.take_of_length_le (by omega)
         rw [this] at hn
         rw [hsz, ← hn]
end Go.Proofs.Ytncakfcafkfmfaa

/-
  types: Apply.
-/
namespace Go.Proofs.Ytncakfcafkfmfaa
open Go
set_option linter.unusedSimpArgs false
set_option linter.unusedVariables false

/-- a slice of one type that was just built -/
theorem rd_one {w : World} {g : Nat} {a b c : Value} (h : Blk w g #[a, b, c] typ) : Rd w (At g) (.slice (some ⟨g, 0, none⟩) 1 1) 1 3 [a, b, c] := Rd.of_blk (n := 1) h rfl rfl (by omega)
theorem one_c3 {s : ByteArray} {m : Int} {A : Option Addr} {n k : Nat} : ∀ u ∈ [Value.string s, .int .i64 m, .slice A n k], u.oneCell' = true := fun u hu => by
  simp at hu
  rcases hu with rfl | rfl | rfl <;> rfl
theorem flat_snoc (ys : List C3) (a b c : Value) : (ys ++ [(a, b, c)]).flatMap c3 = ys.flatMap c3 ++ [a, b, c] := by simp [c3]
theorem take_map_snoc {l : List Ty} {f : Ty → Ty} {i : Nat} (h : i < l.length) : (l.take (i + 1)).map f = (l.take i).map f ++ [f l[i]] := by
  rw [List.take_succ_eq_append_getElem h, List.map_append]
  rfl

set_option maxHeartbeats 2000000 in
theorem apply_ok {p m1 m2 : Nat} {σ : Sg} {D : Dn} {nn : Int} {xs : List C3} (hw : WF σ) : ∀ (N : Nat) (F : Nat → Prop) (w : World) (a b c : Value) (t : Ty), sz (ext (th σ) t) ≤ N → IsS w F p m1 m2 σ D nn xs → TV w F (a, b, c) t →
    Ret Try.prog 18 #[.pointer (some ⟨p, 0, none⟩), .agg #[a, b, c]] w fun v w' => ∃ a' b' c', v = .agg #[a', b', c'] ∧ TV w' (New w w') (a', b', c') (ext (th σ) t) ∧ Upd No w w' := by
  intro N
  induction N with
  | zero =>
    intro F w a b c t hN
    have := sz_pos (ext (th σ) t)
    omega
  | succ N ih =>
    intro F w a b c t hN hI ht
    replace hI := hI.bound
    replace ht := ht.bound
    obtain ⟨h, hh⟩ := hw.hd t
    obtain ⟨fu, hfu⟩ := hh.fuel
    have hsz := head_sz hw hh
    obtain ⟨e1, e2, e3⟩ := head_ext hw hh
    obtain ⟨m0, A9, k9, xk9, rfl, rfl, rfl, _⟩ := ht.open
    refine enterRet (vs := [_, _]) (N := 33) Try.func18 rfl rfl rfl ?_
    have hU := Upd.refl No w
    refine WC.keep [(0, _), (1, _)] ⟨rfl, rfl, trivial⟩ ?_
    refine WC.seq ?_
    refine WC.region ?_
    refine WL.cons (SO.alloc rfl rfl rfl rfl (r_boxAgg rfl (ev_t rfl)) ?_)
    intro w1 hu1 hB1 hz1
    have hs1 := hu1.size
    replace hU := hU.trans hu1 (by first | exact (fun _ _ h => h) | exact (fun _ _ h => h.elim) | (intro k hl hk; (try simp only [At, New, Grow, From, No] at hk ⊢); omega) | (intro k hl hk; have := hG k hk; omega))
    refine WL.cons (SO.alloc rfl rfl rfl rfl (r_alloc rfl zero_28) ?_)
    intro w2 hu2 hB2 hz2
    have hs2 := hu2.size
    replace hU := hU.trans hu2 (by first | exact (fun _ _ h => h) | exact (fun _ _ h => h.elim) | (intro k hl hk; (try simp only [At, New, Grow, From, No] at hk ⊢); omega) | (intro k hl hk; have := hG k hk; omega))
    replace hB1 := hB1.updA hu2
    refine WL.nil ?_
    refine WX.keep [(0, _), (3, _), (4, _)] ⟨rfl, rfl, rfl, trivial⟩ ?_
    refine WX.next ?_
    refine WC.seq ?_
    refine WC.region ?_
    refine WL.val rfl rfl rfl rfl (r_move rfl (ev_t rfl)) ?_
    refine WL.val rfl rfl rfl rfl (r_loadAgg (vs := [_, _, _]) rfl (ev_t rfl) agg_28 size_28 (Blk.cellsL hB1)) ?_
    refine WL.cons (SO.call (head_ok (hI.updN hU) (ht.upd hU (fun _ _ _ h => h)) (hfu fu (Nat.le_refl _))) rfl body_31 ⟨(ev_t rfl), (ev_t rfl), trivial⟩ rfl rfl rfl rfl ?_)
    rintro v w3 ⟨a', b', c', rfl, hth, hu3⟩
    obtain ⟨m, A0, k0, xk, rfl, rfl, rfl, hm, hr, hl, hb, hk⟩ := hth.open
    have hks : TVs w2 _ xk h.kids := ⟨hl, hk⟩
    have hs3 := hu3.size
    replace hU := hU.trans hu3 (by first | exact (fun _ _ h => h) | exact (fun _ _ h => h.elim) | (intro k hl hk; (try simp only [At, New, Grow, From, No] at hk ⊢); omega) | (intro k hl hk; have := hG k hk; omega))
    replace hB1 := hB1.updA hu3
    replace hB2 := hB2.updA hu3
    replace hr := hr.updA hu3
    replace hks := hks.updA hu3
    refine WL.cons (SO.storeAll (us := [_, _, _]) rfl (ev_t rfl) (ev_t rfl) size_28 hB1 rfl rfl rfl rfl rfl ?_)
    intro w4 hu4 hB1 hz4
    have hs4 := hu4.size
    replace hU := hU.trans hu4 (by first | exact (fun _ _ h => h) | exact (fun _ _ h => h.elim) | (intro k hl hk; (try simp only [At, New, Grow, From, No] at hk ⊢); omega) | (intro k hl hk; have := hG k hk; omega))
    replace hB2 := hB2.updA hu4
    replace hr := hr.upd hu4 (fun k hk hl hS => by first | exact (show False from hS).elim | (simp only [At] at hS; omega) | (have := hG k hS; omega))
    replace hks := hks.upd hu4 (fun k hk hl hS => by first | exact (show False from hS).elim | (simp only [At] at hS; omega) | (have := hG k hS; omega))
    refine WL.nil ?_
    refine WX.keep [(0, _), (3, _), (4, _)] ⟨rfl, rfl, rfl, trivial⟩ ?_
    refine WX.next ?_
    refine WC.seq ?_
    refine WC.region ?_
    first | refine WL.val rfl rfl rfl rfl (r_field0 rfl (ev_t rfl) fld_28_0) ?_ | refine WL.val rfl rfl rfl rfl (r_fieldAt rfl (ev_t rfl) fld_28_0) ?_
    first | refine WL.val rfl rfl rfl rfl (r_load rfl (ev_t rfl) flat_9 (Blk.cell hB1 rfl)) ?_ | refine WL.val rfl rfl rfl rfl (r_load rfl (ev_t rfl) flat_9 (Blk.cell hB2 rfl)) ?_
    first | refine WL.val rfl rfl rfl rfl (r_field0 rfl (ev_t rfl) fld_28_1) ?_ | refine WL.val rfl rfl rfl rfl (r_fieldAt rfl (ev_t rfl) fld_28_1) ?_
    first | refine WL.val rfl rfl rfl rfl (r_load rfl (ev_t rfl) flat_3 (Blk.cell hB1 rfl)) ?_ | refine WL.val rfl rfl rfl rfl (r_load rfl (ev_t rfl) flat_3 (Blk.cell hB2 rfl)) ?_
    refine WL.val rfl rfl rfl rfl (r_build (cs := #[_, _, _]) (vs := [(0, _), (1, _)]) rfl ⟨⟨rfl, (ev_t rfl)⟩, ⟨rfl, (ev_t rfl)⟩, trivial⟩ plc_28 zero_28 rfl) ?_
    refine WL.cons (SO.alloc rfl rfl rfl rfl (r_alloc rfl zero_28) ?_)
    intro w5 hu5 hB5 hz5
    have hs5 := hu5.size
    replace hU := hU.trans hu5 (by first | exact (fun _ _ h => h) | exact (fun _ _ h => h.elim) | (intro k hl hk; (try simp only [At, New, Grow, From, No] at hk ⊢); omega) | (intro k hl hk; have := hG k hk; omega))
    replace hB1 := hB1.updA hu5
    replace hB2 := hB2.updA hu5
    replace hr := hr.upd hu5 (fun k hk hl hS => by first | exact (show False from hS).elim | (simp only [At] at hS; omega) | (have := hG k hS; omega))
    replace hks := hks.upd hu5 (fun k hk hl hS => by first | exact (show False from hS).elim | (simp only [At] at hS; omega) | (have := hG k hS; omega))
    refine WL.cons (SO.storeAll (us := [_, _, _]) rfl (ev_t rfl) (ev_t rfl) size_28 hB5 rfl rfl rfl rfl rfl ?_)
    intro w6 hu6 hB5 hz6
    have hs6 := hu6.size
    replace hU := hU.trans hu6 (by first | exact (fun _ _ h => h) | exact (fun _ _ h => h.elim) | (intro k hl hk; (try simp only [At, New, Grow, From, No] at hk ⊢); omega) | (intro k hl hk; have := hG k hk; omega))
    replace hB1 := hB1.updA hu6
    replace hB2 := hB2.updA hu6
    replace hr := hr.upd hu6 (fun k hk hl hS => by first | exact (show False from hS).elim | (simp only [At] at hS; omega) | (have := hG k hS; omega))
    replace hks := hks.upd hu6 (fun k hk hl hS => by first | exact (show False from hS).elim | (simp only [At] at hS; omega) | (have := hG k hS; omega))
    refine WL.nil ?_
    refine WX.keep [(0, _), (3, _), (4, _), (5, _)] ⟨rfl, rfl, rfl, rfl, trivial⟩ ?_
    refine WX.next ?_
    refine WC.seq ?_
    refine WC.seq ?_
    refine WC.region ?_
    first | refine WL.val rfl rfl rfl rfl (r_field0 rfl (ev_t rfl) fld_28_2) ?_ | refine WL.val rfl rfl rfl rfl (r_fieldAt rfl (ev_t rfl) fld_28_2) ?_
    refine WL.val rfl rfl rfl rfl (r_load rfl (ev_t rfl) flat_26 (Blk.cell hB1 rfl)) ?_
    refine WL.val rfl rfl rfl rfl (r_lenSlice (ts := #[]) rfl (ev_t rfl) elem_26) ?_
    refine WL.val rfl rfl rfl rfl (r_move rfl ev_c) ?_
    refine WL.nil ?_
    refine WX.keep [(0, _), (4, _), (5, _), (17, _), (18, _), (19, _)] ⟨rfl, rfl, rfl, rfl, rfl, rfl, trivial⟩ ?_
    refine WX.next ?_
    refine WC.block ?_
    -- loop 1: live [0, 4, 5, 17, 18, 19]
    refine WC.keep [(0, _), (4, _), (5, _), (17, _), (18, _), (19, _)] ⟨rfl, rfl, rfl, rfl, rfl, rfl, trivial⟩ ?_
    refine WC.loop (fun q E w' => ∃ (i : Nat) (A5 : Option Addr) (c5 : Nat) (ys : List C3) (G T : Nat → Prop), i ≤ h.kids.length ∧ q = h.kids.length - i ∧ Upd No w w' ∧ w5.heap.size ≤ w'.heap.size ∧ Rd w' (fun k => F k ∧ k < w.heap.size) (.slice A0 h.kids.length k0) h.kids.length 3 (xk.flatMap c3) ∧ TVs w' (fun k => F k ∧ k < w.heap.size) xk h.kids ∧   Blk w' w1.heap.size #[.string ⟨#[]⟩, .int .i64 0, .slice none 0 0] typ ∧ Blk w' w4.heap.size #[.string ⟨h.nm.toArray⟩, .int .i64 m, .slice A5 i c5] typ ∧ Own w' G typ 3 (.slice A5 i c5) i (ys.flatMap c3) ∧ TVs w' T ys ((h.kids.take i).map (ext (th σ))) ∧ (∀ k, G k → w5.heap.size ≤ k ∧ k < w'.heap.size) ∧ (∀ k, T k → w5.heap.size ≤ k ∧ k < w'.heap.size ∧ ¬ G k) ∧   E = [(0, .pointer (some ⟨p, 0, none⟩)), (4, .pointer (some ⟨w1.heap.size, 0, none⟩)), (5, .pointer (some ⟨w4.heap.size, 0, none⟩)), (17, .slice A0 h.kids.length k0), (18, .int .i64 (h.kids.length : Int)), (19, .int .i64 (i : Int))]) (h.kids.length) ?_ ?_
    · exact ⟨0, none, 0, [], fun _ => False, fun _ => False, by omega, by omega, hU, by omega, hr, hks, hB2, hB5, Own.nil _ _ _ _, TVs.nil _ _, fun k h => h.elim, fun k h => h.elim, rfl⟩
    · rintro q E w' ⟨i, A5, c5, ys, G, T, hi, rfl, hU, hws, hr, hks, hb4, hb5, ho, hys, hG, hT, rfl⟩
      have hs0 := hU.size
      refine WC.seq ?_
      refine WC.region ?_
      refine WL.val rfl rfl rfl rfl (r_lss rfl (ev_t rfl) (ev_t rfl)) ?_
      refine WL.nil ?_
      refine WX.keep [(0, _), (4, _), (5, _), (17, _), (18, _), (19, _), (20, _)] ⟨rfl, rfl, rfl, rfl, rfl, rfl, rfl, trivial⟩ ?_
      refine WX.next ?_
      refine WC.seq ?_
      refine WC.cond rfl (ev_t rfl) (fun hc4 => ?_) (fun hc4 => ?_)
      · try (exfalso; first | (simp at hc4; done) | (simp only [decide_eq_true_eq, decide_eq_false_iff_not, Bool.not_eq_true', Bool.not_eq_false', Bool.not_eq_true, Bool.not_eq_false] at hc4; omega) | omega)
        all_goals
         try simp only [decide_eq_true_eq, decide_eq_false_iff_not, Bool.not_eq_true', Bool.not_eq_false', Bool.not_eq_true, Bool.not_eq_false, Option.isNone_none, Option.isNone_some, Option.isSome_none, Option.isSome_some, ne_eq, Decidable.not_not] at hc4
         have hi' : i < h.kids.length := by omega
         obtain ⟨b0, off, rfl, _⟩ := hr.open (by omega)
         have hxi : xk[i]? = some xk[i] := List.getElem?_eq_getElem (by have := hks.1; omega)
         have hki : h.kids[i]? = some h.kids[i] := List.getElem?_eq_getElem hi'
         have htk := hks.2 i _ _ hxi hki
         have htake := take_map_snoc (f := ext (th σ)) hi'
         have hkl := kid_lt (σ := σ) hi'
         generalize xk[i] = ck at *
         generalize h.kids[i] = kk at *
         obtain ⟨ca, cb, cc⟩ := ck
         have hcel := kid_cells hr hxi rfl
         obtain ⟨m3, A3, k3, xk3, rfl, rfl, rfl, _⟩ := htk.open
         refine WC.skip ?_
         refine WX.next ?_
         refine WC.seq ?_
         refine WC.block ?_
         refine WC.seq ?_
         refine WC.region ?_
         refine WL.val rfl rfl rfl rfl (r_indexAddr rfl (ev_t rfl) (ev_t rfl) elem_26 size_28 (by omega) (by omega)) ?_
         refine WL.val rfl rfl rfl rfl (r_loadAgg (vs := [_, _, _]) rfl (ev_t rfl) agg_28 size_28 hcel) ?_
         skip
         refine WL.cons (SO.alloc rfl rfl rfl rfl (r_alloc rfl zero_28) ?_)
         intro w7 hu7 hB7 hz7
         have hs7 := hu7.size
         replace hU := hU.trans hu7 (by first | exact (fun _ _ h => h) | exact (fun _ _ h => h.elim) | (intro k hl hk; (try simp only [At, New, Grow, From, No] at hk ⊢); omega) | (intro k hl hk; have := hG k hk; omega))
         replace hr := hr.upd hu7 (fun k hk hl hS => by first | exact (show False from hS).elim | (simp only [At] at hS; omega) | (have := hG k hS; omega))
         replace hks := hks.upd hu7 (fun k hk hl hS => by first | exact (show False from hS).elim | (simp only [At] at hS; omega) | (have := hG k hS; omega))
         replace hb4 := hb4.upd hu7 (by first | exact (fun h => h) | (simp only [At]; omega) | (intro hS; have := hG _ hS; omega))
         replace hb5 := hb5.upd hu7 (by first | exact (fun h => h) | (simp only [At]; omega) | (intro hS; have := hG _ hS; omega))
         replace ho := ho.upd hu7 (fun k hk hl hS => by first | exact (show False from hS).elim | (simp only [At] at hS; first | (have := hG k hk; omega) | (rcases hk with hk | hk <;> first | (have := hG k hk; omega) | omega)))
         replace hys := hys.upd hu7 (fun k hk hl hS => by have := hT k hk; first | exact (show False from hS).elim | (simp only [At] at hS; omega))
         replace htk := htk.upd hu7 (fun k hk hl hS => by first | exact (show False from hS).elim | (simp only [At] at hS; omega) | (have := hG k hS; omega))
         refine WL.cons (SO.storeAll (us := [_, _, _]) rfl (ev_t rfl) (ev_t rfl) size_28 hB7 rfl rfl rfl rfl rfl ?_)
         intro w8 hu8 hB7 hz8
         have hs8 := hu8.size
         replace hU := hU.trans hu8 (by first | exact (fun _ _ h => h) | exact (fun _ _ h => h.elim) | (intro k hl hk; (try simp only [At, New, Grow, From, No] at hk ⊢); omega) | (intro k hl hk; have := hG k hk; omega))
         replace hr := hr.upd hu8 (fun k hk hl hS => by first | exact (show False from hS).elim | (simp only [At] at hS; omega) | (have := hG k hS; omega))
         replace hks := hks.upd hu8 (fun k hk hl hS => by first | exact (show False from hS).elim | (simp only [At] at hS; omega) | (have := hG k hS; omega))
         replace hb4 := hb4.upd hu8 (by first | exact (fun h => h) | (simp only [At]; omega) | (intro hS; have := hG _ hS; omega))
         replace hb5 := hb5.upd hu8 (by first | exact (fun h => h) | (simp only [At]; omega) | (intro hS; have := hG _ hS; omega))
         replace ho := ho.upd hu8 (fun k hk hl hS => by first | exact (show False from hS).elim | (simp only [At] at hS; first | (have := hG k hk; omega) | (rcases hk with hk | hk <;> first | (have := hG k hk; omega) | omega)))
         replace hys := hys.upd hu8 (fun k hk hl hS => by have := hT k hk; first | exact (show False from hS).elim | (simp only [At] at hS; omega))
         replace htk := htk.upd hu8 (fun k hk hl hS => by first | exact (show False from hS).elim | (simp only [At] at hS; omega) | (have := hG k hS; omega))
         refine WL.nil ?_
         refine WX.keep [(0, _), (4, _), (5, _), (7, _), (17, _), (18, _), (19, _)] ⟨rfl, rfl, rfl, rfl, rfl, rfl, rfl, trivial⟩ ?_
         refine WX.next ?_
         refine WC.draws' (fun u0_ u1_ => Upd No u0_ u1_) (fun j => [0, 0, 0, 1, 1, 1, 2, 0, 2].getD j 0) (.calm 0 (.calm 2 (.held 1 (.one 3 (.one 4 (.one 5 (.one 6 (.calm 7 (.one 8 (.done)))))))))) mixed (by kernel_rfl) (by repeat (first | with_reducible exact Deaf.body | with_reducible apply Deaf.then | with_reducible apply Deaf.block)) ?_
         intro w9 hu9
         have hz9 := congrArg Array.size hu9.2.2.2
         replace hu9 := Upd.of_draw hu9
         have hs9 := hu9.size
         replace hU := hU.trans hu9 (by first | exact (fun _ _ h => h) | exact (fun _ _ h => h.elim) | (intro k hl hk; (try simp only [At, New, Grow, From, No] at hk ⊢); omega) | (intro k hl hk; have := hG k hk; omega))
         replace hr := hr.upd hu9 (fun k hk hl hS => by first | exact (show False from hS).elim | (simp only [At] at hS; omega) | (have := hG k hS; omega))
         replace hks := hks.upd hu9 (fun k hk hl hS => by first | exact (show False from hS).elim | (simp only [At] at hS; omega) | (have := hG k hS; omega))
         replace hb4 := hb4.upd hu9 (by first | exact (fun h => h) | (simp only [At]; omega) | (intro hS; have := hG _ hS; omega))
         replace hb5 := hb5.upd hu9 (by first | exact (fun h => h) | (simp only [At]; omega) | (intro hS; have := hG _ hS; omega))
         replace ho := ho.upd hu9 (fun k hk hl hS => by first | exact (show False from hS).elim | (simp only [At] at hS; first | (have := hG k hk; omega) | (rcases hk with hk | hk <;> first | (have := hG k hk; omega) | omega)))
         replace hys := hys.upd hu9 (fun k hk hl hS => by have := hT k hk; first | exact (show False from hS).elim | (simp only [At] at hS; omega))
         replace htk := htk.upd hu9 (fun k hk hl hS => by first | exact (show False from hS).elim | (simp only [At] at hS; omega) | (have := hG k hS; omega))
         replace hB7 := hB7.updA hu9
         have hS6 := Upd.refl No w9
         first | refine WN.calm _ rfl rfl rfl rfl rfl (fun _ => r_field0 rfl (ev_t rfl) fld_28_2) ?_ | refine WN.calm _ rfl rfl rfl rfl rfl (fun _ => r_fieldAt rfl (ev_t rfl) fld_28_2) ?_
         refine WN.calm _ rfl rfl rfl rfl rfl (fun _ => r_move rfl (ev_t rfl)) ?_
         refine WN.held _ rfl rfl rfl rfl rfl hS6 (fun w' hS => r_load rfl (ev_t rfl) flat_26 (Blk.cell (hb5.upd hS (fun h => h)) rfl)) ?_
         refine WN.step _ rfl (SO.val rfl rfl rfl rfl (r_loadAgg (vs := [_, _, _]) rfl (ev_t rfl) agg_28 size_28 (Blk.cellsL hB7)) ?_)
         refine ⟨hS6, ?_⟩
         refine WN.step _ rfl (SO.call (ih _ _ _ _ _ kk (by omega) (hI.updN hU) htk) rfl body_18 ⟨(ev_t rfl), (ev_t rfl), trivial⟩ rfl rfl rfl rfl ?_)
         rintro v w10 ⟨a8, b8, c8, rfl, ht8, hu10⟩
         obtain ⟨m8, A8, k8, xk8, rfl, rfl, rfl, _⟩ := ht8.open
         have hs8 := hu10.size
         have hs10 := hu10.size
         replace hS6 := Upd.transA hS6 hu10
         replace hU := hU.trans hu10 (by first | exact (fun _ _ h => h) | exact (fun _ _ h => h.elim) | (intro k hl hk; (try simp only [At, New, Grow, From, No] at hk ⊢); omega) | (intro k hl hk; have := hG k hk; omega))
         replace hr := hr.upd hu10 (fun k hk hl hS => by first | exact (show False from hS).elim | (simp only [At] at hS; omega) | (have := hG k hS; omega))
         replace hks := hks.upd hu10 (fun k hk hl hS => by first | exact (show False from hS).elim | (simp only [At] at hS; omega) | (have := hG k hS; omega))
         replace hb4 := hb4.upd hu10 (by first | exact (fun h => h) | (simp only [At]; omega) | (intro hS; have := hG _ hS; omega))
         replace hb5 := hb5.upd hu10 (by first | exact (fun h => h) | (simp only [At]; omega) | (intro hS; have := hG _ hS; omega))
         replace ho := ho.upd hu10 (fun k hk hl hS => by first | exact (show False from hS).elim | (simp only [At] at hS; first | (have := hG k hk; omega) | (rcases hk with hk | hk <;> first | (have := hG k hk; omega) | omega)))
         replace hys := hys.upd hu10 (fun k hk hl hS => by have := hT k hk; first | exact (show False from hS).elim | (simp only [At] at hS; omega))
         replace htk := htk.upd hu10 (fun k hk hl hS => by first | exact (show False from hS).elim | (simp only [At] at hS; omega) | (have := hG k hS; omega))
         replace hB7 := hB7.updA hu10
         have hys2 := (hys.mono (F' := fun k => T k ∨ New w9 w10 k) (fun k h => .inl h)).snoc (ht8.mono (F' := fun k => T k ∨ New w9 w10 k) (fun k h => .inr h))
         rw [← htake] at hys2
         refine ⟨hS6, ?_⟩
         refine WN.step _ rfl (SO.alloc rfl rfl rfl rfl (r_buildSlice (cs := #[_, _, _]) (vs := [(0, _)]) rfl ⟨⟨rfl, (ev_t rfl)⟩, trivial⟩ row_26 rfl rfl) ?_)
         intro w11 hu11 hB11 hz11
         have hs11 := hu11.size
         replace hS6 := Upd.transA hS6 hu11
         replace hU := hU.trans hu11 (by first | exact (fun _ _ h => h) | exact (fun _ _ h => h.elim) | (intro k hl hk; (try simp only [At, New, Grow, From, No] at hk ⊢); omega) | (intro k hl hk; have := hG k hk; omega))
         replace hr := hr.upd hu11 (fun k hk hl hS => by first | exact (show False from hS).elim | (simp only [At] at hS; omega) | (have := hG k hS; omega))
         replace hks := hks.upd hu11 (fun k hk hl hS => by first | exact (show False from hS).elim | (simp only [At] at hS; omega) | (have := hG k hS; omega))
         replace hb4 := hb4.upd hu11 (by first | exact (fun h => h) | (simp only [At]; omega) | (intro hS; have := hG _ hS; omega))
         replace hb5 := hb5.upd hu11 (by first | exact (fun h => h) | (simp only [At]; omega) | (intro hS; have := hG _ hS; omega))
         replace ho := ho.upd hu11 (fun k hk hl hS => by first | exact (show False from hS).elim | (simp only [At] at hS; first | (have := hG k hk; omega) | (rcases hk with hk | hk <;> first | (have := hG k hk; omega) | omega)))
         replace htk := htk.upd hu11 (fun k hk hl hS => by first | exact (show False from hS).elim | (simp only [At] at hS; omega) | (have := hG k hS; omega))
         replace hB7 := hB7.updA hu11
         replace hys2 := hys2.upd hu11 (fun k hk hl hS => by first | exact (show False from hS).elim | (rcases hk with hk | hk <;> first | exact (hT k hk).2.2 hS | (have := hT k hk; simp only [At] at hS; omega) | (simp only [New] at hk; have := hG k hS; omega) | (simp only [New, At] at *; omega)))
         refine ⟨hS6, ?_⟩
         refine WN.step _ rfl (SO.append ho (show Rd _ _ _ 1 3 [Value.string ⟨(ext (th σ) kk).nm.toArray⟩, .int .i64 m8, .slice A8 (ext (th σ) kk).kids.length k8] from rd_one hB11) row_26 one_c3 (le_maxLen (by omega)) (by omega) rfl (ev_t rfl) (ev_t rfl) rfl rfl rfl rfl ?_)
         intro v12 w12 ho hu12
         have hs12 := hu12.size
         try replace hS6 := Upd.transA hS6 hu12
         replace hU := hU.trans hu12 (by first | exact (fun _ _ h => h) | exact (fun _ _ h => h.elim) | (intro k hl hk; (try simp only [At, New, Grow, From, No] at hk ⊢); omega) | (intro k hl hk; have := hG k hk; omega))
         replace hr := hr.upd hu12 (fun k hk hl hS => by first | exact (show False from hS).elim | (simp only [At] at hS; omega) | (have := hG k hS; omega))
         replace hks := hks.upd hu12 (fun k hk hl hS => by first | exact (show False from hS).elim | (simp only [At] at hS; omega) | (have := hG k hS; omega))
         replace hb4 := hb4.upd hu12 (by first | exact (fun h => h) | (simp only [At]; omega) | (intro hS; have := hG _ hS; omega))
         replace hb5 := hb5.upd hu12 (by first | exact (fun h => h) | (simp only [At]; omega) | (intro hS; have := hG _ hS; omega))
         replace htk := htk.upd hu12 (fun k hk hl hS => by first | exact (show False from hS).elim | (simp only [At] at hS; omega) | (have := hG k hS; omega))
         replace hys2 := hys2.upd hu12 (fun k hk hl hS => by first | exact (show False from hS).elim | (rcases hk with hk | hk <;> first | exact (hT k hk).2.2 hS | (have := hT k hk; simp only [At] at hS; omega) | (simp only [New] at hk; have := hG k hS; omega) | (simp only [New, At] at *; omega)))
         refine ⟨trivial, ?_⟩
         obtain ⟨A12, c12, rfl, hc12⟩ := Own.form ho
         rw [← flat_snoc] at ho
         first | refine WN.calm _ rfl rfl rfl rfl rfl (fun _ => r_field0 rfl (ev_t rfl) fld_28_2) ?_ | refine WN.calm _ rfl rfl rfl rfl rfl (fun _ => r_fieldAt rfl (ev_t rfl) fld_28_2) ?_
         refine WN.step _ rfl (SO.store rfl (ev_t rfl) (ev_t rfl) size_26 hb5 rfl rfl rfl rfl rfl ?_)
         intro w13 hu13 hb5 hz13
         have hs13 := hu13.size
         try replace hS6 := Upd.transA hS6 hu13
         replace hU := hU.trans hu13 (by first | exact (fun _ _ h => h) | exact (fun _ _ h => h.elim) | (intro k hl hk; (try simp only [At, New, Grow, From, No] at hk ⊢); omega) | (intro k hl hk; have := hG k hk; omega))
         replace hr := hr.upd hu13 (fun k hk hl hS => by first | exact (show False from hS).elim | (simp only [At] at hS; omega) | (have := hG k hS; omega))
         replace hks := hks.upd hu13 (fun k hk hl hS => by first | exact (show False from hS).elim | (simp only [At] at hS; omega) | (have := hG k hS; omega))
         replace hb4 := hb4.upd hu13 (by first | exact (fun h => h) | (simp only [At]; omega) | (intro hS; have := hG _ hS; omega))
         replace ho := ho.upd hu13 (fun k hk hl hS => by first | exact (show False from hS).elim | (simp only [At] at hS; first | (have := hG k hk; omega) | (rcases hk with hk | hk <;> first | (have := hG k hk; omega) | omega)))
         replace htk := htk.upd hu13 (fun k hk hl hS => by first | exact (show False from hS).elim | (simp only [At] at hS; omega) | (have := hG k hS; omega))
         replace hys2 := hys2.upd hu13 (fun k hk hl hS => by first | exact (show False from hS).elim | (rcases hk with hk | hk <;> first | exact (hT k hk).2.2 hS | (have := hT k hk; simp only [At] at hS; omega) | (simp only [New] at hk; have := hG k hS; omega) | (simp only [New, At] at *; omega)))
         refine ⟨trivial, ?_⟩
         refine WN.done ?_
         refine WX.keep [(0, _), (4, _), (5, _), (17, _), (18, _), (19, _)] ⟨rfl, rfl, rfl, rfl, rfl, rfl, trivial⟩ ?_
         refine WX.blockNormal ?_
         refine WX.next ?_
         refine WC.region ?_
         first | refine WL.val rfl rfl rfl rfl (r_addN rfl (ev_t rfl) ev_c (by simp only [inK]; omega)) ?_ | refine WL.val rfl rfl rfl rfl (r_add rfl (ev_t rfl) ev_c) ?_
         refine WL.val rfl rfl rfl rfl (r_move rfl (ev_t rfl)) ?_
         refine WL.nil ?_
         refine WX.keep [(0, _), (4, _), (5, _), (17, _), (18, _), (19, _)] ⟨rfl, rfl, rfl, rfl, rfl, rfl, trivial⟩ ?_
         refine WX.meet [(0, _), (4, _), (5, _), (17, _), (18, _), (19, _)] ⟨rfl, rfl, rfl, rfl, rfl, rfl, trivial⟩ ?_
         refine ⟨h.kids.length - (i + 1), by omega, i + 1, _, _, _, _, _, by omega, rfl, hU, by omega, hr, hks, hb4, hb5, ho, hys2, fun k hk => ?_, fun k hk => ?_, rfl⟩
         · rcases hk with hk | hk
           · have := hG k hk; omega
           · omega
         · rcases hk with hk | hk
           · have h9 := hT k hk
             refine ⟨by omega, by omega, fun h => ?_⟩
             rcases h with h | h
             · exact h9.2.2 h
             · omega
           · simp only [New] at hk
             refine ⟨by omega, by omega, fun h => ?_⟩
             rcases h with h | h
             · have := hG k h; omega
             · omega
      · try (exfalso; first | (simp at hc4; done) | (simp only [decide_eq_true_eq, decide_eq_false_iff_not, Bool.not_eq_true', Bool.not_eq_false', Bool.not_eq_true, Bool.not_eq_false] at hc4; omega) | omega)
        all_goals
         try simp only [decide_eq_true_eq, decide_eq_false_iff_not, Bool.not_eq_true', Bool.not_eq_false', Bool.not_eq_true, Bool.not_eq_false, Option.isNone_none, Option.isNone_some, Option.isSome_none, Option.isSome_some, ne_eq, Decidable.not_not] at hc4
         refine WC.exit ?_
         refine WX.thenExit ?_
         refine WX.thenExit ?_
         refine WX.blockHere ?_
         refine WX.next ?_
         refine WC.seq ?_
         refine WC.region ?_
         refine WL.val rfl rfl rfl rfl (r_loadAgg (vs := [_, _, _]) rfl (ev_t rfl) agg_28 size_28 (Blk.cellsL hb5)) ?_
         refine WL.cons (SO.storeAll (us := [_, _, _]) rfl (ev_t rfl) (ev_t rfl) size_28 hb4 rfl rfl rfl rfl rfl ?_)
         intro w14 hu14 hb4 hz14
         have hs14 := hu14.size
         replace hU := hU.trans hu14 (by first | exact (fun _ _ h => h) | exact (fun _ _ h => h.elim) | (intro k hl hk; (try simp only [At, New, Grow, From, No] at hk ⊢); omega) | (intro k hl hk; have := hG k hk; omega))
         replace hr := hr.upd hu14 (fun k hk hl hS => by first | exact (show False from hS).elim | (simp only [At] at hS; omega) | (have := hG k hS; omega))
         replace hks := hks.upd hu14 (fun k hk hl hS => by first | exact (show False from hS).elim | (simp only [At] at hS; omega) | (have := hG k hS; omega))
         replace hb5 := hb5.upd hu14 (by first | exact (fun h => h) | (simp only [At]; omega) | (intro hS; have := hG _ hS; omega))
         replace ho := ho.upd hu14 (fun k hk hl hS => by first | exact (show False from hS).elim | (simp only [At] at hS; first | (have := hG k hk; omega) | (rcases hk with hk | hk <;> first | (have := hG k hk; omega) | omega)))
         replace hys := hys.upd hu14 (fun k hk hl hS => by have := hT k hk; first | exact (show False from hS).elim | (simp only [At] at hS; omega))
         refine WL.nil ?_
         refine WX.keep [(4, _)] ⟨rfl, trivial⟩ ?_
         refine WX.next ?_
         refine WC.ret ?_
         refine WX.retC (vs := [_, _, _]) rfl rfl agg_28 size_28 (Blk.cellsL hb4) ?_
         obtain rfl : i = h.kids.length := by omega
         rw [List.take_of_length_le (Nat.le_refl _), ← e2] at hys
         have e4 : (ext (th σ) t).kids.length = h.kids.length := by rw [e2, List.length_map]
         refine ⟨_, _, _, rfl, ?_, hU⟩
         rw [← e1]
         refine TV.kids (xs := ys) (fun x e => hm x (e3 x e)) ?_ (by omega) (hys.mono fun k hk => by have := hT k hk; simp only [New]; omega)
         rw [e4]
         exact (ho.rd (by omega)).mono fun k hk => by have := hG k hk; simp only [New]; omega
end Go.Proofs.Ytncakfcafkfmfaa

/-
  types: Contains; Free.
-/
namespace Go.Proofs.Ytncakfcafkfmfaa
open Go
set_option linter.unusedSimpArgs false
set_option linter.unusedVariables false

def I6 (n : Int) : Value := .int .i64 n
theorem I6_one (l : List Int) : ∀ u ∈ l.map I6, u.oneCell' = true := fun u hu => by
  obtain ⟨c, _, rfl⟩ := List.mem_map.1 hu
  rfl
theorem sindex_ok {w : World} {F : Nat → Prop} {A : Option Addr} {c : Nat} {l : List Int} {x : Int} (hr : Rd w F (.slice A l.length c) l.length 1 (l.map I6)) :
    Ret Try.prog 43 #[.slice A l.length c, .int .i64 x] w fun v w' => ∃ i : Int, v = .int .i64 i ∧ w = w' ∧ (i < 0 → x ∉ l) ∧ (0 ≤ i → l[i.toNat]? = some x ∧ ∀ j, j < i.toNat → l[j]? ≠ some x) := by
  have hm := hr.le
  refine enterRet (vs := [_, _]) (N := 19) Try.func43 rfl rfl rfl ?_
  refine WC.keep [(0, _), (1, _)] ⟨rfl, rfl, trivial⟩ ?_
  refine WC.seq ?_
  refine WC.region ?_
  refine WL.val rfl rfl rfl rfl (r_assign rfl ev_c) ?_
  refine WL.nil ?_
  refine WX.keep [(0, _), (1, _)] ⟨rfl, rfl, trivial⟩ ?_
  refine WX.next ?_
  refine WC.seq ?_
  refine WC.seq ?_
  refine WC.region ?_
  refine WL.val rfl rfl rfl rfl (r_move rfl (ev_t rfl)) ?_
  refine WL.val rfl rfl rfl rfl (r_lenSlice (ts := #[]) rfl (ev_t rfl) elem_33) ?_
  refine WL.val rfl rfl rfl rfl (r_move rfl ev_c) ?_
  refine WL.nil ?_
  refine WX.keep [(0, _), (1, _), (7, _), (8, _)] ⟨rfl, rfl, rfl, rfl, trivial⟩ ?_
  refine WX.next ?_
  refine WC.block ?_
  -- loop 1: live [0, 1, 7, 8]
  refine WC.keep [(0, _), (1, _), (7, _), (8, _)] ⟨rfl, rfl, rfl, rfl, trivial⟩ ?_
  refine WC.loop (fun q E w' => ∃ (i : Nat), w = w' ∧ i ≤ l.length ∧ q = l.length - i ∧ (∀ j, j < i → l[j]? ≠ some x) ∧ E = [(0, .slice A l.length c), (1, .int .i64 x), (7, .int .i64 (l.length : Int)), (8, .int .i64 (i : Int))]) (l.length) ?_ ?_
  · exact ⟨0, rfl, by omega, by omega, fun j h => by omega, rfl⟩
  · rintro q E w' ⟨i, rfl, hi, rfl, hn, rfl⟩
    refine WC.seq ?_
    refine WC.region ?_
    refine WL.val rfl rfl rfl rfl (r_lss rfl (ev_t rfl) (ev_t rfl)) ?_
    refine WL.nil ?_
    refine WX.keep [(0, _), (1, _), (7, _), (8, _), (9, _)] ⟨rfl, rfl, rfl, rfl, rfl, trivial⟩ ?_
    refine WX.next ?_
    refine WC.seq ?_
    refine WC.cond rfl (ev_t rfl) (fun hc2 => ?_) (fun hc2 => ?_)
    · try (exfalso; first | (simp at hc2; done) | (simp only [decide_eq_true_eq, decide_eq_false_iff_not, Bool.not_eq_true', Bool.not_eq_false', Bool.not_eq_true, Bool.not_eq_false] at hc2; omega) | omega)
      all_goals
       try simp only [decide_eq_true_eq, decide_eq_false_iff_not, Bool.not_eq_true', Bool.not_eq_false', Bool.not_eq_true, Bool.not_eq_false, Option.isNone_none, Option.isNone_some, Option.isSome_none, Option.isSome_some, ne_eq, Decidable.not_not] at hc2
       have hi' : i < l.length := by omega
       obtain ⟨b0, off, rfl, _⟩ := hr.open (by omega)
       have hxi : l[i]? = some l[i] := List.getElem?_eq_getElem hi'
       generalize l[i] = y at *
       refine WC.skip ?_
       refine WX.next ?_
       refine WC.seq ?_
       refine WC.block ?_
       refine WC.seq ?_
       refine WC.region ?_
       refine WL.val rfl rfl rfl rfl (r_move rfl (ev_t rfl)) ?_
       refine WL.val rfl rfl rfl rfl (r_assign rfl (ev_t rfl)) ?_
       refine WL.nil ?_
       refine WX.keep [(0, _), (1, _), (5, _), (7, _), (8, _)] ⟨rfl, rfl, rfl, rfl, rfl, trivial⟩ ?_
       refine WX.next ?_
       refine WC.seq ?_
       refine WC.region ?_
       refine WL.val rfl rfl rfl rfl (r_move rfl (ev_t rfl)) ?_
       refine WL.val rfl rfl rfl rfl (r_move rfl (ev_t rfl)) ?_
       refine WL.val rfl rfl rfl rfl (r_move rfl (ev_t rfl)) ?_
       refine WL.val rfl rfl rfl rfl (r_indexAddr rfl (ev_t rfl) (ev_t rfl) elem_33 size_3 (by omega) (by omega)) ?_
       refine WL.val rfl rfl rfl rfl (r_load rfl (ev_t rfl) flat_3 (hr.cell (j := i) (u := I6 y) (by omega) (by rw [List.getElem?_map, hxi]; rfl))) ?_
       refine WL.val rfl rfl rfl rfl (r_eql rfl (ev_t rfl) (ev_t rfl)) ?_
       refine WL.nil ?_
       refine WX.keep [(0, _), (1, _), (5, _), (7, _), (8, _), (16, _)] ⟨rfl, rfl, rfl, rfl, rfl, rfl, trivial⟩ ?_
       refine WX.next ?_
       refine WC.cond rfl (ev_t rfl) (fun hc4 => ?_) (fun hc4 => ?_)
       · try (exfalso; first | (simp at hc4; done) | (simp only [decide_eq_true_eq, decide_eq_false_iff_not, Bool.not_eq_true', Bool.not_eq_false', Bool.not_eq_true, Bool.not_eq_false] at hc4; omega) | omega)
         all_goals
          try simp only [decide_eq_true_eq, decide_eq_false_iff_not, Bool.not_eq_true', Bool.not_eq_false', Bool.not_eq_true, Bool.not_eq_false, Option.isNone_none, Option.isNone_some, Option.isSome_none, Option.isSome_some, ne_eq, Decidable.not_not] at hc4
          refine WC.seq ?_
          refine WC.region ?_
          refine WL.val rfl rfl rfl rfl (r_move rfl (ev_t rfl)) ?_
          refine WL.val rfl rfl rfl rfl (r_assign rfl (ev_t rfl)) ?_
          refine WL.nil ?_
          refine WX.keep [(4, _)] ⟨rfl, trivial⟩ ?_
          refine WX.next ?_
          refine WC.ret ?_
          refine WX.blockRet ?_
          refine WX.thenRet ?_
          refine WX.thenRet ?_
          refine WX.blockRet ?_
          refine WX.thenRet ?_
          refine WX.retE1 rfl rfl ?_
          exact ⟨_, rfl, rfl, fun h => by omega, fun _ => ⟨by simpa [hc4] using hxi, fun j hj => hn j (by omega)⟩⟩
       · try (exfalso; first | (simp at hc4; done) | (simp only [decide_eq_true_eq, decide_eq_false_iff_not, Bool.not_eq_true', Bool.not_eq_false', Bool.not_eq_true, Bool.not_eq_false] at hc4; omega) | omega)
         all_goals
          try simp only [decide_eq_true_eq, decide_eq_false_iff_not, Bool.not_eq_true', Bool.not_eq_false', Bool.not_eq_true, Bool.not_eq_false, Option.isNone_none, Option.isNone_some, Option.isSome_none, Option.isSome_some, ne_eq, Decidable.not_not] at hc4
          refine WC.skip ?_
          refine WX.blockNormal ?_
          refine WX.next ?_
          refine WC.region ?_
          first | refine WL.val rfl rfl rfl rfl (r_addN rfl (ev_t rfl) ev_c (by simp only [inK]; omega)) ?_ | refine WL.val rfl rfl rfl rfl (r_add rfl (ev_t rfl) ev_c) ?_
          refine WL.val rfl rfl rfl rfl (r_move rfl (ev_t rfl)) ?_
          refine WL.nil ?_
          refine WX.keep [(0, _), (1, _), (7, _), (8, _)] ⟨rfl, rfl, rfl, rfl, trivial⟩ ?_
          refine WX.meet [(0, _), (1, _), (7, _), (8, _)] ⟨rfl, rfl, rfl, rfl, trivial⟩ ?_
          refine ⟨l.length - (i + 1), by omega, i + 1, rfl, by omega, rfl, fun j hj => ?_, rfl⟩
          rcases Nat.lt_or_ge j i with h | h
          · exact hn j h
          · obtain rfl : j = i := by omega
            rw [hxi]
            intro e
            injection e with e
            exact hc4 e.symm
    · try (exfalso; first | (simp at hc2; done) | (simp only [decide_eq_true_eq, decide_eq_false_iff_not, Bool.not_eq_true', Bool.not_eq_false', Bool.not_eq_true, Bool.not_eq_false] at hc2; omega) | omega)
      all_goals
       try simp only [decide_eq_true_eq, decide_eq_false_iff_not, Bool.not_eq_true', Bool.not_eq_false', Bool.not_eq_true, Bool.not_eq_false, Option.isNone_none, Option.isNone_some, Option.isSome_none, Option.isSome_some, ne_eq, Decidable.not_not] at hc2
       refine WC.exit ?_
       refine WX.thenExit ?_
       refine WX.thenExit ?_
       refine WX.blockHere ?_
       refine WX.next ?_
       refine WC.seq ?_
       refine WC.region ?_
       refine WL.val rfl rfl rfl rfl (r_assign rfl ev_c) ?_
       refine WL.nil ?_
       refine WX.keep [(4, _)] ⟨rfl, trivial⟩ ?_
       refine WX.next ?_
       refine WC.ret ?_
       refine WX.retE1 rfl rfl ?_
       refine ⟨_, rfl, rfl, fun _ hx => ?_, fun h => by omega⟩
       obtain ⟨j, hj, e⟩ := List.getElem_of_mem hx
       exact hn j (by omega) (by rw [List.getElem?_eq_getElem hj, e])
theorem contains_ok {w : World} {F : Nat → Prop} {A : Option Addr} {c : Nat} {l : List Int} {x : Int} (hr : Rd w F (.slice A l.length c) l.length 1 (l.map I6)) :
    Ret Try.prog 32 #[.slice A l.length c, .int .i64 x] w fun v w' => v = .bool (decide (x ∈ l)) ∧ w = w' := by
  refine enterRet (vs := [_, _]) (N := 9) Try.func32 rfl rfl rfl ?_
  refine WC.keep [(0, _), (1, _)] ⟨rfl, rfl, trivial⟩ ?_
  refine WC.seq ?_
  refine WC.region ?_
  refine WL.val rfl rfl rfl rfl (r_assign rfl ev_c) ?_
  refine WL.nil ?_
  refine WX.keep [(0, _), (1, _)] ⟨rfl, rfl, trivial⟩ ?_
  refine WX.next ?_
  refine WC.seq ?_
  refine WC.region ?_
  refine WL.val rfl rfl rfl rfl (r_move rfl (ev_t rfl)) ?_
  refine WL.val rfl rfl rfl rfl (r_move rfl (ev_t rfl)) ?_
  refine WL.cons (SO.call (sindex_ok hr) rfl body_43 ⟨(ev_t rfl), (ev_t rfl), trivial⟩ rfl rfl rfl rfl ?_)
  rintro v w1 ⟨i, rfl, rfl, h1, h2⟩
  refine WL.val rfl rfl rfl rfl (r_geq rfl (ev_t rfl) ev_c) ?_
  refine WL.val rfl rfl rfl rfl (r_assign rfl (ev_t rfl)) ?_
  refine WL.nil ?_
  refine WX.keep [(4, _)] ⟨rfl, trivial⟩ ?_
  refine WX.next ?_
  refine WC.ret ?_
  refine WX.retE1 rfl rfl ?_
  refine ⟨?_, rfl⟩
  congr 1
  rw [decide_eq_decide]
  constructor
  · intro h
    exact List.mem_of_getElem? (h2 h).1
  · intro h
    rcases Int.lt_or_le i 0 with h3 | h3
    · exact absurd h (h1 h3)
    · exact h3

/-! ### Free -/
def seenE (s : List Int) : List (Int × Value) := s.map fun x => (x, .bool true)
theorem look_seenE (s : List Int) (x : Int) : lookA (seenE s) x = if x ∈ s then some (.bool true) else none := by
  induction s with
  | nil => rfl
  | cons a s ih =>
    simp only [seenE, List.map_cons, lookA]
    by_cases h : a = x
    · subst h; simp
    · have h' : ¬ x = a := fun e => h e.symm
      simp only [h, if_false, List.mem_cons, h', false_or]
      exact ih
theorem seen_val (s : List Int) (x : Int) : (lookA (seenE s) x).getD (.bool false) = .bool (decide (x ∈ s)) := by
  rw [look_seenE]
  by_cases h : x ∈ s <;> simp [h]
/-- what changes: the map, the slice's variable, and all from B on -/
def Sfr (B ms bo : Nat) : Nat → Prop := fun k => k = ms ∨ k = bo ∨ B ≤ k
structure FrM (w : World) (G : Nat → Prop) (ms bo : Nat) (s : FrS) : Prop where
  mp : MapB w ms ((seenE s.2).map fun p => (.int .i64 p.1, p.2))
  out : ∃ A c, Blk w bo #[.slice A s.1.length c] 33 ∧ Own w G 3 1 (.slice A s.1.length c) s.1.length (s.1.map I6)
/-- what changes: the map, the slice's variable, and its row -/
def SG (G : Nat → Prop) (ms bo : Nat) : Nat → Prop := fun k => k = ms ∨ k = bo ∨ G k
/-- what the closure looks at -/
structure FrC (w : World) (F : Nat → Prop) (p m1 m2 : Nat) (σ : Sg) (D : Dn) (nn : Int) (xs : List C3) (B bs bp bw ms bo : Nat) : Prop where
  isS : IsS w F p m1 m2 σ D nn xs
  sv : Blk w bs #[.map (some ms)] 72
  pv : Blk w bp #[.pointer (some ⟨p, 0, none⟩)] 23
  wv : Blk w bw #[.func (.func 46) #[] #[.pointer (some ⟨bs, 0, none⟩), .pointer (some ⟨bp, 0, none⟩), .pointer (some ⟨bw, 0, none⟩), .pointer (some ⟨bo, 0, none⟩)]] 73
  fix : ∀ k, (Mut p m1 m2 k ∨ F k ∨ k = bs ∨ k = bp ∨ k = bw) → k < B ∧ k ≠ ms ∧ k ≠ bo
  b : ms < B ∧ bo < B ∧ B ≤ w.heap.size ∧ ms ≠ bo
section
variable {w w' : World} {F S : Nat → Prop} {p m1 m2 : Nat} {σ : Sg} {D : Dn} {nn : Int} {xs : List C3} {B bs bp bw ms bo : Nat}
theorem FrC.out (h : FrC w F p m1 m2 σ D nn xs B bs bp bw ms bo) {k : Nat} (hk : Mut p m1 m2 k ∨ F k ∨ k = bs ∨ k = bp ∨ k = bw) : ¬ Sfr B ms bo k := fun hS => by
  have := h.fix k hk
  rcases hS with hS | hS | hS
  · exact this.2.1 hS
  · exact this.2.2 hS
  · omega
theorem FrC.upd (h : FrC w F p m1 m2 σ D nn xs B bs bp bw ms bo) (hu : Upd S w w') (hS : ∀ k, S k → k < w.heap.size → Sfr B ms bo k) : FrC w' F p m1 m2 σ D nn xs B bs bp bw ms bo := by
  have key : ∀ k, (Mut p m1 m2 k ∨ F k ∨ k = bs ∨ k = bp ∨ k = bw) → k < w.heap.size → ¬ S k := fun k hk hl hs => h.out hk (hS k hs hl)
  exact ⟨h.isS.upd hu fun k hk hl => key k (by rcases hk with hk | hk; exact .inl hk; exact .inr (.inl hk)) hl, h.sv.upd hu (key _ (by simp) h.sv.lt), h.pv.upd hu (key _ (by simp) h.pv.lt), h.wv.upd hu (key _ (by simp) h.wv.lt), h.fix, ⟨h.b.1, h.b.2.1, Nat.le_trans h.b.2.2.1 hu.size, h.b.2.2.2⟩⟩
theorem FrC.tv (h : FrC w F p m1 m2 σ D nn xs B bs bp bw ms bo) {n : Nat} (hS : ∀ k, S k → Sfr B ms bo k) : ∀ k, F k → k < n → ¬ S k := fun k hk hl hs => h.out (.inr (.inl hk)) (hS k hs)
theorem FrM.upd {G : Nat → Prop} {s : FrS} (h : FrM w G ms bo s) (hu : Upd S w w') (hS : ∀ k, S k → k < w.heap.size → k ≠ ms ∧ k ≠ bo ∧ ¬ G k) : FrM w' G ms bo s := by
  obtain ⟨A, c, hb, ho⟩ := h.out
  exact ⟨h.mp.upd hu (fun hs => (hS _ hs h.mp.lt).1 rfl), A, c, hb.upd hu (fun hs => (hS _ hs hb.lt).2.1 rfl), ho.upd hu fun k hk hl hs => (hS k hs hl).2.2 hk⟩
end
theorem FrM.mono {w : World} {G G' : Nat → Prop} {ms bo : Nat} {s : FrS} (h : FrM w G ms bo s) (hl : ∀ k, G k → G' k) : FrM w G' ms bo s := by
  obtain ⟨A, c, hb, ho⟩ := h.out
  exact ⟨h.mp, A, c, hb, ho.mono hl⟩
theorem seenE_snoc (s : List Int) (x : Int) : seenE (s ++ [x]) = seenE s ++ [(x, .bool true)] := by simp [seenE]
theorem FrM.mk2 {w : World} {G : Nat → Prop} {ms bo c : Nat} {A : Option Addr} {l s : List Int} {x : Int} (h1 : MapB w ms ((seenE (s ++ [x])).map fun p => (.int .i64 p.1, p.2))) (h2 : Blk w bo #[.slice A (l.length + 1) c] 33) (h3 : Own w G 3 1 (.slice A (l.length + 1) c) (l.length + 1) (l.map I6 ++ [Value.int .i64 x])) : FrM w G ms bo (l ++ [x], s ++ [x]) := by
  refine ⟨h1, A, c, ?_, ?_⟩
  · simpa using h2
  · simpa [I6] using h3
theorem frF_mono {σ : Sg} : ∀ {n : Nat} {t : Ty} {s s' : FrS}, frF σ n t s = some s' → s.1.length ≤ s'.1.length
  | 0, t, s, s', h => by simp [frF] at h
  | n + 1, .v x, s, s', h => by
    simp only [frF] at h
    split at h
    · injection h with h; subst h; exact Nat.le_refl _
    · split at h
      · injection h with h; subst h; simp
      · have := frF_mono (n := n) h
        simpa using this
  | n + 1, .c f ks, s, s', h => by
    simp only [frF] at h
    have key : ∀ (ks : List Ty) (s : FrS), frL (frF σ n) ks s = some s' → s.1.length ≤ s'.1.length := by
      intro ks
      induction ks with
      | nil => intro s h; simp only [frL] at h; injection h with h; subst h; exact Nat.le_refl _
      | cons k ks ih =>
        intro s h
        simp only [frL] at h
        cases h1 : frF σ n k s with
        | none => rw [h1] at h; cases h
        | some s1 =>
          rw [h1] at h
          exact Nat.le_trans (frF_mono (n := n) h1) (ih s1 h)
    exact key ks s h
theorem frL_mono {σ : Sg} {n : Nat} {ks : List Ty} {s s' : FrS} (h : frL (frF σ n) ks s = some s') : s.1.length ≤ s'.1.length := frF_mono (n := n + 1) (t := .c ⟨[0], by simp⟩ ks) h
end Go.Proofs.Ytncakfcafkfmfaa

/-
  types: Free's closure, and Free.
-/
namespace Go.Proofs.Ytncakfcafkfmfaa
open Go
set_option linter.unusedSimpArgs false
set_option linter.unusedVariables false

theorem frL_cons {f : Ty → FrS → Option FrS} {ks : List Ty} {i : Nat} {k : Ty} {s s' : FrS} (hk : ks[i]? = some k) (h : frL f (ks.drop i) s = some s') : ∃ s1, f k s = some s1 ∧ frL f (ks.drop (i + 1)) s1 = some s' := by
  have hi : i < ks.length := (List.getElem?_eq_some_iff.1 hk).1
  rw [List.drop_eq_getElem_cons hi] at h
  rw [List.getElem?_eq_getElem hi] at hk
  injection hk with hk
  rw [hk] at h
  simp only [frL] at h
  cases h1 : f k s with
  | none => rw [h1] at h; cases h
  | some s1 => exact ⟨s1, rfl, by rw [h1] at h; exact h⟩

set_option maxHeartbeats 4000000 in
theorem walkF_ok {F : Nat → Prop} {p m1 m2 : Nat} {σ : Sg} {D : Dn} {nn : Int} {xs : List C3} {B bs bp bw ms bo : Nat} : ∀ (n : Nat) (w : World) (G : Nat → Prop) (a b c : Value) (t : Ty) (s s' : FrS), frF σ n t s = some s' → s'.1.length ≤ 1000000000 →
    FrC w F p m1 m2 σ D nn xs B bs bp bw ms bo → FrM w G ms bo s → (∀ k, G k → B ≤ k ∧ k < w.heap.size) → TV w F (a, b, c) t →
    Ret Try.prog 46 #[.agg #[a, b, c], .pointer (some ⟨bs, 0, none⟩), .pointer (some ⟨bp, 0, none⟩), .pointer (some ⟨bw, 0, none⟩), .pointer (some ⟨bo, 0, none⟩)] w fun _ w' => FrM w' (Grow G w w') ms bo s' ∧ Upd (SG G ms bo) w w' := by
  intro n
  induction n with
  | zero => intro w G a b c t s s' h; simp [frF] at h
  | succ n ih =>
    intro w G a b c t s s' hf hlen hC hM hG ht
    obtain ⟨hb1, hb2, hb3, hb4⟩ := hC.b
    obtain ⟨m, A0, k0, xk, rfl, rfl, rfl, hm, hr, hl, hb, hk⟩ := ht.open
    have hks : TVs w F xk t.kids := ⟨hl, hk⟩
    obtain ⟨hmp, A9, c9, hbo, ho⟩ := hM
    refine enterRet (vs := [_, _, _, _, _]) (N := 53) Try.func46 rfl rfl rfl ?_
    have hU := Upd.refl (SG G ms bo) w
    refine WC.keep [(0, _), (1, _), (2, _), (3, _), (4, _)] ⟨rfl, rfl, rfl, rfl, rfl, trivial⟩ ?_
    refine WC.seq ?_
    refine WC.region ?_
    refine WL.cons (SO.alloc rfl rfl rfl rfl (r_boxAgg rfl (ev_t rfl)) ?_)
    intro w1 hu1 hB1 hz1
    have hs1 := hu1.size
    replace hU := hU.trans hu1 (by exact (fun _ _ h => h.elim))
    replace hC := hC.upd hu1 (fun k hS hl => by exact (show False from hS).elim)
    replace hmp := hmp.upd hu1 (fun hS => by exact (show False from hS))
    replace hbo := hbo.upd hu1 (fun hS => by exact (show False from hS))
    replace ho := ho.upd hu1 (fun k hk hl hS => by exact (show False from hS).elim)
    replace hr := hr.upd hu1 (hC.tv (fun k hS => (by exact (show False from hS).elim)))
    replace hks := hks.upd hu1 (hC.tv (fun k hS => (by exact (show False from hS).elim)))
    refine WL.nil ?_
    refine WX.keep [(1, _), (2, _), (3, _), (4, _), (5, _)] ⟨rfl, rfl, rfl, rfl, rfl, trivial⟩ ?_
    refine WX.next ?_
    -- cut 1: live [3, 5]
    refine WC.cut (fun E w9 => ∃ (s1 : FrS) (G1 : Nat → Prop), Upd (SG G ms bo) w w9 ∧ w.heap.size < w9.heap.size ∧ Blk w9 w.heap.size #[.string ⟨t.nm.toArray⟩, .int .i64 m, .slice A0 t.kids.length k0] typ ∧ frL (frF σ n) t.kids s1 = some s' ∧ FrC w9 F p m1 m2 σ D nn xs B bs bp bw ms bo ∧ FrM w9 G1 ms bo s1 ∧ (∀ k, G1 k → B ≤ k ∧ k < w9.heap.size ∧ (G k ∨ w.heap.size ≤ k)) ∧ Rd w9 F (.slice A0 t.kids.length k0) t.kids.length 3 (xk.flatMap c3) ∧ TVs w9 F xk t.kids ∧   E = [(3, .pointer (some ⟨bw, 0, none⟩)), (5, .pointer (some ⟨w.heap.size, 0, none⟩))]) ?_ ?_
    · refine WC.seq ?_
      refine WC.region ?_
      first | refine WL.val rfl rfl rfl rfl (r_field0 rfl (ev_t rfl) fld_28_0) ?_ | refine WL.val rfl rfl rfl rfl (r_fieldAt rfl (ev_t rfl) fld_28_0) ?_
      refine WL.val rfl rfl rfl rfl (r_load rfl (ev_t rfl) flat_9 (Blk.cell hB1 rfl)) ?_
      refine WL.val rfl rfl rfl rfl (r_eqlStrL rfl (ev_t rfl) ev_c) ?_
      refine WL.val rfl rfl rfl rfl (r_move rfl (ev_t rfl)) ?_
      refine WL.cases 13 rfl (fun hb1_3 => ?_) (fun hb1_3 => ?_)
      · try (exfalso; first | (simp at hb1_3; done) | (simp only [decide_eq_true_eq, decide_eq_false_iff_not, Bool.not_eq_true', Bool.not_eq_false', Bool.not_eq_true, Bool.not_eq_false] at hb1_3; omega) | omega)
        all_goals
         try simp only [decide_eq_true_eq, decide_eq_false_iff_not, Bool.not_eq_true', Bool.not_eq_false', Bool.not_eq_true, Bool.not_eq_false, Option.isNone_none, Option.isNone_some, Option.isSome_none, Option.isSome_some, ne_eq, Decidable.not_not] at hb1_3
         obtain ⟨x, rfl⟩ := Ty.nm_nil.1 hb1_3
         obtain rfl := (hm x rfl).symm
         simp only [frF] at hf
         refine WL.val rfl rfl rfl rfl (r_load rfl (ev_t rfl) flat_72 (Blk.cell hC.sv rfl)) ?_
         first | refine WL.val rfl rfl rfl rfl (r_field0 rfl (ev_t rfl) fld_28_1) ?_ | refine WL.val rfl rfl rfl rfl (r_fieldAt rfl (ev_t rfl) fld_28_1) ?_
         refine WL.val rfl rfl rfl rfl (r_load rfl (ev_t rfl) flat_3 (Blk.cell hB1 rfl)) ?_
         refine WL.val rfl rfl rfl rfl (r_lookupW keyI hmp (seen_val _ _) rfl (ev_t rfl) (ev_t rfl) map_72 zero_4) ?_
         refine WL.val rfl rfl rfl rfl (r_not rfl (ev_t rfl)) ?_
         refine WL.val rfl rfl rfl rfl (r_pickT rfl (ev_t rfl) (ev_t rfl)) ?_
         refine WL.nil ?_
         refine WX.keep [(1, _), (2, _), (3, _), (4, _), (5, _), (19, _)] ⟨rfl, rfl, rfl, rfl, rfl, rfl, trivial⟩ ?_
         refine WX.next ?_
         refine WC.cond rfl (ev_t rfl) (fun hc1 => ?_) (fun hc1 => ?_)
         · try (exfalso; first | (simp at hc1; done) | (simp only [decide_eq_true_eq, decide_eq_false_iff_not, Bool.not_eq_true', Bool.not_eq_false', Bool.not_eq_true, Bool.not_eq_false] at hc1; omega) | omega)
           all_goals
            try simp only [decide_eq_true_eq, decide_eq_false_iff_not, Bool.not_eq_true', Bool.not_eq_false', Bool.not_eq_true, Bool.not_eq_false, Option.isNone_none, Option.isNone_some, Option.isSome_none, Option.isSome_some, ne_eq, Decidable.not_not] at hc1
            have hx : x ∉ s.2 := by simpa using hc1
            rw [if_neg hx] at hf
            refine WC.seq ?_
            refine WC.region ?_
            refine WL.val rfl rfl rfl rfl (r_load rfl (ev_t rfl) flat_72 (Blk.cell hC.sv rfl)) ?_
            first | refine WL.val rfl rfl rfl rfl (r_field0 rfl (ev_t rfl) fld_28_1) ?_ | refine WL.val rfl rfl rfl rfl (r_fieldAt rfl (ev_t rfl) fld_28_1) ?_
            refine WL.val rfl rfl rfl rfl (r_load rfl (ev_t rfl) flat_3 (Blk.cell hB1 rfl)) ?_
            refine WL.cons (SO.mapNew keyI hmp ((look_seenE _ _).trans (if_neg hx)) rfl (ev_t rfl) (ev_t rfl) ev_c map_72 rfl rfl rfl ?_)
            intro w2 hu2 hmp hz2
            have hs2 := hu2.size
            replace hU := hU.trans hu2 (by (intro k hl hk; first | exact hk | (simp only [At] at hk; subst hk; first | exact .inl rfl | exact .inr (.inl rfl) | (exfalso; omega)) | exact .inr (.inr hk) | (rcases hk with hk | hk | hk; exact .inl hk; exact .inr (.inl hk); rcases (hG1 k hk).2.2 with h | h; exact .inr (.inr h); (exfalso; omega))))
            replace hC := hC.upd hu2 (fun k hS hl => by (simp only [At] at hS; subst hS; first | exact .inl rfl | exact .inr (.inl rfl) | exact .inr (.inr (by omega))))
            replace hbo := hbo.upd hu2 (fun hS => by (simp only [At] at hS; omega))
            replace ho := ho.upd hu2 (fun k hk hl hS => by (simp only [At] at hS; first | (have := hG k hk; omega) | (rcases hk with hk | hk; have := hG k hk; omega; omega)))
            replace hr := hr.upd hu2 (hC.tv (fun k hS => (by (simp only [At] at hS; subst hS; first | exact .inl rfl | exact .inr (.inl rfl) | exact .inr (.inr (by omega))))))
            replace hks := hks.upd hu2 (hC.tv (fun k hS => (by (simp only [At] at hS; subst hS; first | exact .inl rfl | exact .inr (.inl rfl) | exact .inr (.inr (by omega))))))
            replace hB1 := hB1.upd hu2 (fun hS => by (simp only [At] at hS; omega))
            rw [← seenE_snoc] at hmp
            refine WL.nil ?_
            refine WX.keep [(2, _), (3, _), (4, _), (5, _)] ⟨rfl, rfl, rfl, rfl, trivial⟩ ?_
            refine WX.next ?_
            refine WC.seq ?_
            refine WC.draws' (fun u0_ u1_ => Upd No u0_ u1_) (fun j => [0, 0, 0, 0, 0, 0, 0, 0, 0, 0, 1, 2, 0].getD j 0) (.calm 4 (.held 0 (.calm 1 (.calm 2 (.held 3 (.held 5 (.held 6 (.calm 7 (.calm 8 (.calm 9 (.one 10 (.one 11 (.calm 12 (.done)))))))))))))) mixed (by kernel_rfl) (by repeat (first | with_reducible exact Deaf.body | with_reducible apply Deaf.then)) ?_
            intro w3 hu3
            have hz3 := congrArg Array.size hu3.2.2.2
            replace hu3 := Upd.of_draw hu3
            have hs3 := hu3.size
            replace hU := hU.trans hu3 (by exact (fun _ _ h => h.elim))
            replace hC := hC.upd hu3 (fun k hS hl => by exact (show False from hS).elim)
            replace hmp := hmp.upd hu3 (fun hS => by exact (show False from hS))
            replace hbo := hbo.upd hu3 (fun hS => by exact (show False from hS))
            replace ho := ho.upd hu3 (fun k hk hl hS => by exact (show False from hS).elim)
            replace hr := hr.upd hu3 (hC.tv (fun k hS => (by exact (show False from hS).elim)))
            replace hks := hks.upd hu3 (hC.tv (fun k hS => (by exact (show False from hS).elim)))
            replace hB1 := hB1.upd hu3 (fun hS => by exact (show False from hS))
            have hS3 := Upd.refl No w3
            first | refine WN.calm _ rfl rfl rfl rfl rfl (fun _ => r_field0 rfl (ev_t rfl) fld_28_1) ?_ | refine WN.calm _ rfl rfl rfl rfl rfl (fun _ => r_fieldAt rfl (ev_t rfl) fld_28_1) ?_
            obtain ⟨s3, x3, A3, n3, k3, ok, hL⟩ := hC.isS.lookR x
            refine WN.held _ rfl rfl rfl rfl rfl hS3 (fun w' hS => r_load rfl (ev_t rfl) flat_23 (Blk.cell (hC.pv.upd hS (fun h => h)) rfl)) ?_
            refine WN.calm _ rfl rfl rfl rfl rfl (fun _ => r_nilCheck rfl (ev_t rfl)) ?_
            first | refine WN.calm _ rfl rfl rfl rfl rfl (fun _ => r_field0 rfl (ev_t rfl) fld_59_0) ?_ | refine WN.calm _ rfl rfl rfl rfl rfl (fun _ => r_fieldAt rfl (ev_t rfl) fld_59_0) ?_
            refine WN.held _ rfl rfl rfl rfl rfl hS3 (fun w' hS => r_load rfl (ev_t rfl) flat_56 (Blk.cell (hC.isS.hd.upd hS (fun h => h)) rfl)) ?_
            refine WN.held _ rfl rfl rfl rfl rfl hS3 (fun w' hS => r_load rfl (ev_t rfl) flat_3 (Blk.cell (hB1.upd hS (fun h => h)) rfl)) ?_
            refine WN.held _ rfl rfl rfl rfl rfl hS3 (fun w' hS => r_lookupV keyI (hC.isS.of_.upd hS (fun h => h)) hL.val hL.isS rfl (ev_t rfl) (ev_t rfl) map_56 zero_28) ?_
            refine WN.calm _ rfl rfl rfl rfl rfl (fun _ => r_move rfl (ev_t rfl)) ?_
            refine WN.calm _ rfl rfl rfl rfl rfl (fun _ => r_extract rfl (ev_t rfl) rfl) ?_
            refine WN.calm _ rfl rfl rfl rfl rfl (fun _ => r_extract rfl (ev_t rfl) rfl) ?_
            refine WN.step _ rfl (SO.alloc rfl rfl rfl rfl (r_alloc rfl zero_28) ?_)
            intro w4 hu4 hB4 hz4
            have hs4 := hu4.size
            replace hS3 := Upd.transA hS3 hu4
            replace hU := hU.trans hu4 (by exact (fun _ _ h => h.elim))
            replace hC := hC.upd hu4 (fun k hS hl => by exact (show False from hS).elim)
            replace hmp := hmp.upd hu4 (fun hS => by exact (show False from hS))
            replace hbo := hbo.upd hu4 (fun hS => by exact (show False from hS))
            replace ho := ho.upd hu4 (fun k hk hl hS => by exact (show False from hS).elim)
            replace hr := hr.upd hu4 (hC.tv (fun k hS => (by exact (show False from hS).elim)))
            replace hks := hks.upd hu4 (hC.tv (fun k hS => (by exact (show False from hS).elim)))
            replace hB1 := hB1.upd hu4 (fun hS => by exact (show False from hS))
            replace hL := hL.upd hu4 (hC.tv (fun k hS => (by exact (show False from hS).elim)))
            refine ⟨hS3, ?_⟩
            refine WN.step _ rfl (SO.storeAll (us := [_, _, _]) rfl (ev_t rfl) (ev_t rfl) size_28 hB4 rfl rfl rfl rfl rfl ?_)
            intro w5 hu5 hB4 hz5
            have hs5 := hu5.size
            try replace hS3 := Upd.transA hS3 hu5
            replace hU := hU.trans hu5 (by (intro k hl hk; (try simp only [At, New, Grow, From, No] at hk ⊢); omega))
            replace hC := hC.upd hu5 (fun k hS hl => by (simp only [At] at hS; subst hS; first | exact .inl rfl | exact .inr (.inl rfl) | exact .inr (.inr (by omega))))
            replace hmp := hmp.upd hu5 (fun hS => by (simp only [At] at hS; omega))
            replace hbo := hbo.upd hu5 (fun hS => by (simp only [At] at hS; omega))
            replace ho := ho.upd hu5 (fun k hk hl hS => by (simp only [At] at hS; first | (have := hG k hk; omega) | (rcases hk with hk | hk; have := hG k hk; omega; omega)))
            replace hr := hr.upd hu5 (hC.tv (fun k hS => (by (simp only [At] at hS; subst hS; first | exact .inl rfl | exact .inr (.inl rfl) | exact .inr (.inr (by omega))))))
            replace hks := hks.upd hu5 (hC.tv (fun k hS => (by (simp only [At] at hS; subst hS; first | exact .inl rfl | exact .inr (.inl rfl) | exact .inr (.inr (by omega))))))
            replace hB1 := hB1.upd hu5 (fun hS => by (simp only [At] at hS; omega))
            replace hL := hL.upd hu5 (hC.tv (fun k hS => (by (simp only [At] at hS; subst hS; first | exact .inl rfl | exact .inr (.inl rfl) | exact .inr (.inr (by omega))))))
            refine ⟨trivial, ?_⟩
            refine WN.calm _ rfl rfl rfl rfl rfl (fun _ => r_assign rfl (ev_t rfl)) ?_
            refine WN.done ?_
            refine WX.keep [(3, _), (4, _), (5, _), (6, _), (7, _)] ⟨rfl, rfl, rfl, rfl, rfl, trivial⟩ ?_
            refine WX.next ?_
            refine WC.seq ?_
            refine WC.region ?_
            refine WL.val rfl rfl rfl rfl (r_move rfl (ev_t rfl)) ?_
            refine WL.nil ?_
            refine WX.keep [(3, _), (4, _), (5, _), (6, _), (33, _)] ⟨rfl, rfl, rfl, rfl, rfl, trivial⟩ ?_
            refine WX.next ?_
            refine WC.cond rfl (ev_t rfl) (fun hc4 => ?_) (fun hc4 => ?_)
            · try (exfalso; first | (simp at hc4; done) | (simp only [decide_eq_true_eq, decide_eq_false_iff_not, Bool.not_eq_true', Bool.not_eq_false', Bool.not_eq_true, Bool.not_eq_false] at hc4; omega) | omega)
              all_goals
               try simp only [decide_eq_true_eq, decide_eq_false_iff_not, Bool.not_eq_true', Bool.not_eq_false', Bool.not_eq_true, Bool.not_eq_false, Option.isNone_none, Option.isNone_some, Option.isSome_none, Option.isSome_some, ne_eq, Decidable.not_not] at hc4
               obtain ⟨u, hlu, htu⟩ := hL.yes (by simpa using hc4)
               simp only [hlu] at hf
               refine WC.region ?_
               refine WL.val rfl rfl rfl rfl (r_load rfl (ev_t rfl) flat_73 (Blk.cell hC.wv rfl)) ?_
               refine WL.val rfl rfl rfl rfl (r_loadAgg (vs := [_, _, _]) rfl (ev_t rfl) agg_28 size_28 (Blk.cellsL hB4)) ?_
               refine WL.cons (SO.callV (vs := [_]) rfl (ev_t rfl) body_46 ⟨(ev_t rfl), trivial⟩ rfl (ih _ G _ _ _ u (s.1, s.2 ++ [x]) _ hf hlen hC ⟨hmp, A9, c9, hbo, ho⟩ (fun k hk => by have := hG k hk; omega) htu) rfl rfl rfl rfl ?_)
               rintro v w6 ⟨hM, hu6⟩
               have hfl : frL (frF σ n) (Ty.v x).kids s' = some s' := rfl
               clear hmp hbo ho
               have hs6 := hu6.size
               replace hU := hU.trans hu6 (by exact (fun _ _ h => h))
               replace hC := hC.upd hu6 (fun k hS hl => by (rcases hS with hS | hS | hS; exact .inl hS; exact .inr (.inl hS); first | exact .inr (.inr (hG1 k hS).1) | exact .inr (.inr (hG k hS).1)))
               replace hr := hr.upd hu6 (hC.tv (fun k hS => (by (rcases hS with hS | hS | hS; exact .inl hS; exact .inr (.inl hS); first | exact .inr (.inr (hG1 k hS).1) | exact .inr (.inr (hG k hS).1)))))
               replace hks := hks.upd hu6 (hC.tv (fun k hS => (by (rcases hS with hS | hS | hS; exact .inl hS; exact .inr (.inl hS); first | exact .inr (.inr (hG1 k hS).1) | exact .inr (.inr (hG k hS).1)))))
               replace hB1 := hB1.upd hu6 (fun hS => by (rcases hS with hS | hS | hS <;> first | omega | (have := hG1 _ hS; omega) | (have := hG _ hS; omega)))
               refine WL.nil ?_
               refine WX.keep [(3, _), (5, _)] ⟨rfl, rfl, trivial⟩ ?_
               refine WX.meet [(3, _), (5, _)] ⟨rfl, rfl, trivial⟩ ?_
               refine ⟨_, _, hU, by omega, hB1, hfl, hC, hM, fun k hk => ?_, hr, hks, rfl⟩
               first
                 | (have := hG k hk; exact ⟨this.1, by omega, .inl hk⟩)
                 | (rcases hk with hk | hk; have := hG k hk; exact ⟨this.1, by omega, .inl hk⟩; exact ⟨by omega, by omega, .inr (by omega)⟩)
            · try (exfalso; first | (simp at hc4; done) | (simp only [decide_eq_true_eq, decide_eq_false_iff_not, Bool.not_eq_true', Bool.not_eq_false', Bool.not_eq_true, Bool.not_eq_false] at hc4; omega) | omega)
              all_goals
               try simp only [decide_eq_true_eq, decide_eq_false_iff_not, Bool.not_eq_true', Bool.not_eq_false', Bool.not_eq_true, Bool.not_eq_false, Option.isNone_none, Option.isNone_some, Option.isSome_none, Option.isSome_some, ne_eq, Decidable.not_not] at hc4
               have hlu := hL.no (by simpa using hc4)
               simp only [hlu] at hf
               obtain rfl := (Option.some.inj hf).symm
               have hlen2 : s.1.length + 1 ≤ 1000000000 := by simpa using hlen
               refine WC.region ?_
               refine WL.val rfl rfl rfl rfl (r_load rfl (ev_t rfl) flat_33 (Blk.cell hbo rfl)) ?_
               first | refine WL.val rfl rfl rfl rfl (r_field0 rfl (ev_t rfl) fld_28_1) ?_ | refine WL.val rfl rfl rfl rfl (r_fieldAt rfl (ev_t rfl) fld_28_1) ?_
               refine WL.val rfl rfl rfl rfl (r_load rfl (ev_t rfl) flat_3 (Blk.cell hB1 rfl)) ?_
               refine WL.cons (SO.alloc rfl rfl rfl rfl (r_buildSlice1 (vs := [_]) rfl ⟨(ev_t rfl), trivial⟩ rfl row_33 rfl rfl) ?_)
               intro w7 hu7 hB7 hz7
               have hs7 := hu7.size
               replace hU := hU.trans hu7 (by exact (fun _ _ h => h.elim))
               replace hC := hC.upd hu7 (fun k hS hl => by exact (show False from hS).elim)
               replace hmp := hmp.upd hu7 (fun hS => by exact (show False from hS))
               replace hbo := hbo.upd hu7 (fun hS => by exact (show False from hS))
               replace ho := ho.upd hu7 (fun k hk hl hS => by exact (show False from hS).elim)
               replace hr := hr.upd hu7 (hC.tv (fun k hS => (by exact (show False from hS).elim)))
               replace hks := hks.upd hu7 (hC.tv (fun k hS => (by exact (show False from hS).elim)))
               replace hB1 := hB1.upd hu7 (fun hS => by exact (show False from hS))
               replace hL := hL.upd hu7 (hC.tv (fun k hS => (by exact (show False from hS).elim)))
               replace hB4 := hB4.updA hu7
               refine WL.cons (SO.append ho (show Rd _ _ _ 1 1 [Value.int .i64 x] from Rd.of_blk (F := At _) (n := 1) (sz := 1) hB7 rfl rfl (by omega)) row_33 (fun u hu => by simp at hu; subst hu; rfl) (le_maxLen (by omega)) (by omega) rfl (ev_t rfl) (ev_t rfl) rfl rfl rfl rfl ?_)
               intro v8 w8 ho hu8
               have hs8 := hu8.size
               replace hU := hU.trans hu8 (by (intro k hl hk; first | exact hk | (simp only [At] at hk; subst hk; first | exact .inl rfl | exact .inr (.inl rfl) | (exfalso; omega)) | exact .inr (.inr hk) | (rcases hk with hk | hk | hk; exact .inl hk; exact .inr (.inl hk); rcases (hG1 k hk).2.2 with h | h; exact .inr (.inr h); (exfalso; omega))))
               replace hC := hC.upd hu8 (fun k hS hl => by exact .inr (.inr (hG k hS).1))
               replace hmp := hmp.upd hu8 (fun hS => by (have := hG _ hS; omega))
               replace hbo := hbo.upd hu8 (fun hS => by (have := hG _ hS; omega))
               replace hr := hr.upd hu8 (hC.tv (fun k hS => (by exact .inr (.inr (hG k hS).1))))
               replace hks := hks.upd hu8 (hC.tv (fun k hS => (by exact .inr (.inr (hG k hS).1))))
               replace hB1 := hB1.upd hu8 (fun hS => by (have := hG _ hS; omega))
               obtain ⟨A8, c8, rfl, hc8⟩ := Own.form ho
               refine WL.cons (SO.store rfl (ev_t rfl) (ev_t rfl) size_33 hbo rfl rfl rfl rfl rfl ?_)
               intro w9 hu9 hbo hz9
               have hs9 := hu9.size
               replace hU := hU.trans hu9 (by (intro k hl hk; first | exact hk | (simp only [At] at hk; subst hk; first | exact .inl rfl | exact .inr (.inl rfl) | (exfalso; omega)) | exact .inr (.inr hk) | (rcases hk with hk | hk | hk; exact .inl hk; exact .inr (.inl hk); rcases (hG1 k hk).2.2 with h | h; exact .inr (.inr h); (exfalso; omega))))
               replace hC := hC.upd hu9 (fun k hS hl => by (simp only [At] at hS; subst hS; first | exact .inl rfl | exact .inr (.inl rfl) | exact .inr (.inr (by omega))))
               replace hmp := hmp.upd hu9 (fun hS => by (simp only [At] at hS; omega))
               replace ho := ho.upd hu9 (fun k hk hl hS => by (simp only [At] at hS; first | (have := hG k hk; omega) | (rcases hk with hk | hk; have := hG k hk; omega; omega)))
               replace hr := hr.upd hu9 (hC.tv (fun k hS => (by (simp only [At] at hS; subst hS; first | exact .inl rfl | exact .inr (.inl rfl) | exact .inr (.inr (by omega))))))
               replace hks := hks.upd hu9 (hC.tv (fun k hS => (by (simp only [At] at hS; subst hS; first | exact .inl rfl | exact .inr (.inl rfl) | exact .inr (.inr (by omega))))))
               replace hB1 := hB1.upd hu9 (fun hS => by (simp only [At] at hS; omega))
               refine WL.nil ?_
               refine WX.keep [(3, _), (5, _)] ⟨rfl, rfl, trivial⟩ ?_
               have hM := FrM.mk2 hmp hbo ho
               have hfl : frL (frF σ n) (Ty.v x).kids (s.1 ++ [x], s.2 ++ [x]) = some (s.1 ++ [x], s.2 ++ [x]) := rfl
               refine WX.meet [(3, _), (5, _)] ⟨rfl, rfl, trivial⟩ ?_
               refine ⟨_, _, hU, by omega, hB1, hfl, hC, hM, fun k hk => ?_, hr, hks, rfl⟩
               first
                 | (have := hG k hk; exact ⟨this.1, by omega, .inl hk⟩)
                 | (rcases hk with hk | hk; have := hG k hk; exact ⟨this.1, by omega, .inl hk⟩; exact ⟨by omega, by omega, .inr (by omega)⟩)
         · try (exfalso; first | (simp at hc1; done) | (simp only [decide_eq_true_eq, decide_eq_false_iff_not, Bool.not_eq_true', Bool.not_eq_false', Bool.not_eq_true, Bool.not_eq_false] at hc1; omega) | omega)
           all_goals
            try simp only [decide_eq_true_eq, decide_eq_false_iff_not, Bool.not_eq_true', Bool.not_eq_false', Bool.not_eq_true, Bool.not_eq_false, Option.isNone_none, Option.isNone_some, Option.isSome_none, Option.isSome_some, ne_eq, Decidable.not_not] at hc1
            have hx : x ∈ s.2 := by simpa using hc1
            rw [if_pos hx] at hf
            have hfl : frL (frF σ n) (Ty.v x).kids s = some s' := hf
            have hM : FrM w1 G ms bo s := ⟨hmp, A9, c9, hbo, ho⟩
            refine WC.skip ?_
            refine WX.meet [(3, _), (5, _)] ⟨rfl, rfl, trivial⟩ ?_
            refine ⟨_, _, hU, by omega, hB1, hfl, hC, hM, fun k hk => ?_, hr, hks, rfl⟩
            first
              | (have := hG k hk; exact ⟨this.1, by omega, .inl hk⟩)
              | (rcases hk with hk | hk; have := hG k hk; exact ⟨this.1, by omega, .inl hk⟩; exact ⟨by omega, by omega, .inr (by omega)⟩)
      · try (exfalso; first | (simp at hb1_3; done) | (simp only [decide_eq_true_eq, decide_eq_false_iff_not, Bool.not_eq_true', Bool.not_eq_false', Bool.not_eq_true, Bool.not_eq_false] at hb1_3; omega) | omega)
        all_goals
         try simp only [decide_eq_true_eq, decide_eq_false_iff_not, Bool.not_eq_true', Bool.not_eq_false', Bool.not_eq_true, Bool.not_eq_false, Option.isNone_none, Option.isNone_some, Option.isSome_none, Option.isSome_some, ne_eq, Decidable.not_not] at hb1_3
         obtain ⟨f, ks, rfl⟩ : ∃ f ks, t = .c f ks := by cases t with | v x => exact absurd rfl hb1_3 | c f ks => exact ⟨f, ks, rfl⟩
         simp only [frF] at hf
         have hfl : frL (frF σ n) (Ty.c f ks).kids s = some s' := hf
         have hM : FrM w1 G ms bo s := ⟨hmp, A9, c9, hbo, ho⟩
         refine WL.skip rfl rfl rfl ?_
         refine WL.skip rfl rfl rfl ?_
         refine WL.skip rfl rfl rfl ?_
         refine WL.skip rfl rfl rfl ?_
         refine WL.skip rfl rfl rfl ?_
         refine WL.val rfl rfl rfl rfl (r_pickF rfl (ev_t rfl) ev_c) ?_
         refine WL.nil ?_
         refine WX.keep [(1, _), (2, _), (3, _), (4, _), (5, _), (19, _)] ⟨rfl, rfl, rfl, rfl, rfl, rfl, trivial⟩ ?_
         refine WX.next ?_
         refine WC.cond_false rfl (ev_t rfl) ?_
         refine WC.skip ?_
         refine WX.meet [(3, _), (5, _)] ⟨rfl, rfl, trivial⟩ ?_
         refine ⟨_, _, hU, by omega, hB1, hfl, hC, hM, fun k hk => ?_, hr, hks, rfl⟩
         first
           | (have := hG k hk; exact ⟨this.1, by omega, .inl hk⟩)
           | (rcases hk with hk | hk; have := hG k hk; exact ⟨this.1, by omega, .inl hk⟩; exact ⟨by omega, by omega, .inr (by omega)⟩)
    · clear hU hC hmp hbo ho hr hks
      rintro E w9 ⟨s1, G1, hU, hlt, hB5, hfl, hC, hM, hG1, hr, hks, rfl⟩
      have hb3' := hC.b.2.2.1
      refine WC.seq ?_
      refine WC.region ?_
      first | refine WL.val rfl rfl rfl rfl (r_field0 rfl (ev_t rfl) fld_28_2) ?_ | refine WL.val rfl rfl rfl rfl (r_fieldAt rfl (ev_t rfl) fld_28_2) ?_
      refine WL.val rfl rfl rfl rfl (r_load rfl (ev_t rfl) flat_26 (Blk.cell hB5 rfl)) ?_
      refine WL.val rfl rfl rfl rfl (r_lenSlice (ts := #[]) rfl (ev_t rfl) elem_26) ?_
      refine WL.val rfl rfl rfl rfl (r_move rfl ev_c) ?_
      refine WL.nil ?_
      refine WX.keep [(3, _), (43, _), (44, _), (45, _)] ⟨rfl, rfl, rfl, rfl, trivial⟩ ?_
      refine WX.next ?_
      refine WC.block ?_
      -- loop 1: live [3, 43, 44, 45]
      refine WC.keep [(3, _), (43, _), (44, _), (45, _)] ⟨rfl, rfl, rfl, rfl, trivial⟩ ?_
      refine WC.loop (fun q E w' => ∃ (i : Nat) (s1 : FrS) (G1 : Nat → Prop), i ≤ t.kids.length ∧ q = t.kids.length - i ∧ Upd (SG G ms bo) w w' ∧ w.heap.size < w'.heap.size ∧ frL (frF σ n) (t.kids.drop i) s1 = some s' ∧ FrC w' F p m1 m2 σ D nn xs B bs bp bw ms bo ∧ FrM w' G1 ms bo s1 ∧ (∀ k, G1 k → B ≤ k ∧ k < w'.heap.size ∧ (G k ∨ w.heap.size ≤ k)) ∧ Rd w' F (.slice A0 t.kids.length k0) t.kids.length 3 (xk.flatMap c3) ∧ TVs w' F xk t.kids ∧   E = [(3, .pointer (some ⟨bw, 0, none⟩)), (43, .slice A0 t.kids.length k0), (44, .int .i64 (t.kids.length : Int)), (45, .int .i64 (i : Int))]) (t.kids.length) ?_ ?_
      · exact ⟨0, s1, G1, by omega, by omega, hU, hlt, hfl, hC, hM, hG1, hr, hks, rfl⟩
      · clear hU hC hM hr hks hfl hlt hB5 hG1
        rintro q E w' ⟨i, s1, G1, hi, rfl, hU, hlt, hfl, hC, hM, hG1, hr, hks, rfl⟩
        have hb3' := hC.b.2.2.1
        refine WC.seq ?_
        refine WC.region ?_
        refine WL.val rfl rfl rfl rfl (r_lss rfl (ev_t rfl) (ev_t rfl)) ?_
        refine WL.nil ?_
        refine WX.keep [(3, _), (43, _), (44, _), (45, _), (46, _)] ⟨rfl, rfl, rfl, rfl, rfl, trivial⟩ ?_
        refine WX.next ?_
        refine WC.seq ?_
        refine WC.cond rfl (ev_t rfl) (fun hc8 => ?_) (fun hc8 => ?_)
        · try (exfalso; first | (simp at hc8; done) | (simp only [decide_eq_true_eq, decide_eq_false_iff_not, Bool.not_eq_true', Bool.not_eq_false', Bool.not_eq_true, Bool.not_eq_false] at hc8; omega) | omega)
          all_goals
           try simp only [decide_eq_true_eq, decide_eq_false_iff_not, Bool.not_eq_true', Bool.not_eq_false', Bool.not_eq_true, Bool.not_eq_false, Option.isNone_none, Option.isNone_some, Option.isSome_none, Option.isSome_some, ne_eq, Decidable.not_not] at hc8
           have hi' : i < t.kids.length := by omega
           obtain ⟨b0, off, rfl, _⟩ := hr.open (by omega)
           have hxi : xk[i]? = some xk[i] := List.getElem?_eq_getElem (by have := hks.1; omega)
           have hki : t.kids[i]? = some t.kids[i] := List.getElem?_eq_getElem hi'
           have htk := hks.2 i _ _ hxi hki
           generalize xk[i] = ck at *
           generalize t.kids[i] = kk at *
           obtain ⟨ca, cb, cc⟩ := ck
           have hcel := kid_cells hr hxi rfl
           obtain ⟨m3, A3, k3, xk3, rfl, rfl, rfl, _⟩ := htk.open
           obtain ⟨s2, hf1, hf2⟩ := frL_cons hki hfl
           have hl2 := frL_mono hf2
           refine WC.skip ?_
           refine WX.next ?_
           refine WC.seq ?_
           refine WC.block ?_
           refine WC.seq ?_
           refine WC.region ?_
           refine WL.val rfl rfl rfl rfl (r_indexAddr rfl (ev_t rfl) (ev_t rfl) elem_26 size_28 (by omega) (by omega)) ?_
           refine WL.val rfl rfl rfl rfl (r_loadAgg (vs := [_, _, _]) rfl (ev_t rfl) agg_28 size_28 hcel) ?_
           skip
           refine WL.cons (SO.alloc rfl rfl rfl rfl (r_alloc rfl zero_28) ?_)
           intro w10 hu10 hB10 hz10
           have hs10 := hu10.size
           replace hU := hU.trans hu10 (by exact (fun _ _ h => h.elim))
           replace hC := hC.upd hu10 (fun k hS hl => by exact (show False from hS).elim)
           replace hM := hM.upd hu10 (fun k hS hl => by exact (show False from hS).elim)
           replace hr := hr.upd hu10 (hC.tv (fun k hS => (by exact (show False from hS).elim)))
           replace hks := hks.upd hu10 (hC.tv (fun k hS => (by exact (show False from hS).elim)))
           replace htk := htk.upd hu10 (hC.tv (fun k hS => (by exact (show False from hS).elim)))
           refine WL.cons (SO.storeAll (us := [_, _, _]) rfl (ev_t rfl) (ev_t rfl) size_28 hB10 rfl rfl rfl rfl rfl ?_)
           intro w11 hu11 hB10 hz11
           have hs11 := hu11.size
           replace hU := hU.trans hu11 (by (intro k hl hk; (try simp only [At, New, Grow, From, No] at hk ⊢); omega))
           replace hC := hC.upd hu11 (fun k hS hl => by (simp only [At] at hS; subst hS; first | exact .inl rfl | exact .inr (.inl rfl) | exact .inr (.inr (by omega))))
           replace hM := hM.upd hu11 (fun k hS hl => by (simp only [At] at hS; exact ⟨by omega, by omega, fun h => by have := hG1 k h; omega⟩))
           replace hr := hr.upd hu11 (hC.tv (fun k hS => (by (simp only [At] at hS; subst hS; first | exact .inl rfl | exact .inr (.inl rfl) | exact .inr (.inr (by omega))))))
           replace hks := hks.upd hu11 (hC.tv (fun k hS => (by (simp only [At] at hS; subst hS; first | exact .inl rfl | exact .inr (.inl rfl) | exact .inr (.inr (by omega))))))
           replace htk := htk.upd hu11 (hC.tv (fun k hS => (by (simp only [At] at hS; subst hS; first | exact .inl rfl | exact .inr (.inl rfl) | exact .inr (.inr (by omega))))))
           refine WL.nil ?_
           refine WX.keep [(3, _), (9, _), (43, _), (44, _), (45, _)] ⟨rfl, rfl, rfl, rfl, rfl, trivial⟩ ?_
           refine WX.next ?_
           refine WC.region ?_
           refine WL.val rfl rfl rfl rfl (r_load rfl (ev_t rfl) flat_73 (Blk.cell hC.wv rfl)) ?_
           refine WL.val rfl rfl rfl rfl (r_loadAgg (vs := [_, _, _]) rfl (ev_t rfl) agg_28 size_28 (Blk.cellsL hB10)) ?_
           refine WL.cons (SO.callV (vs := [_]) rfl (ev_t rfl) body_46 ⟨(ev_t rfl), trivial⟩ rfl (ih _ G1 _ _ _ kk _ _ hf1 (by omega) hC hM (fun k hk => by have := hG1 k hk; omega) htk) rfl rfl rfl rfl ?_)
           rintro v w12 ⟨hM2, hu12⟩
           have hs12 := hu12.size
           replace hU := hU.trans hu12 (by (intro k hl hk; first | exact hk | (simp only [At] at hk; subst hk; first | exact .inl rfl | exact .inr (.inl rfl) | (exfalso; omega)) | exact .inr (.inr hk) | (rcases hk with hk | hk | hk; exact .inl hk; exact .inr (.inl hk); rcases (hG1 k hk).2.2 with h | h; exact .inr (.inr h); (exfalso; omega))))
           replace hC := hC.upd hu12 (fun k hS hl => by (rcases hS with hS | hS | hS; exact .inl hS; exact .inr (.inl hS); first | exact .inr (.inr (hG1 k hS).1) | exact .inr (.inr (hG k hS).1)))
           replace hr := hr.upd hu12 (hC.tv (fun k hS => (by (rcases hS with hS | hS | hS; exact .inl hS; exact .inr (.inl hS); first | exact .inr (.inr (hG1 k hS).1) | exact .inr (.inr (hG k hS).1)))))
           replace hks := hks.upd hu12 (hC.tv (fun k hS => (by (rcases hS with hS | hS | hS; exact .inl hS; exact .inr (.inl hS); first | exact .inr (.inr (hG1 k hS).1) | exact .inr (.inr (hG k hS).1)))))
           refine WL.nil ?_
           refine WX.keep [(3, _), (43, _), (44, _), (45, _)] ⟨rfl, rfl, rfl, rfl, trivial⟩ ?_
           refine WX.blockNormal ?_
           refine WX.next ?_
           refine WC.region ?_
           first | refine WL.val rfl rfl rfl rfl (r_addN rfl (ev_t rfl) ev_c (by simp only [inK]; omega)) ?_ | refine WL.val rfl rfl rfl rfl (r_add rfl (ev_t rfl) ev_c) ?_
           refine WL.val rfl rfl rfl rfl (r_move rfl (ev_t rfl)) ?_
           refine WL.nil ?_
           refine WX.keep [(3, _), (43, _), (44, _), (45, _)] ⟨rfl, rfl, rfl, rfl, trivial⟩ ?_
           refine WX.meet [(3, _), (43, _), (44, _), (45, _)] ⟨rfl, rfl, rfl, rfl, trivial⟩ ?_
           refine ⟨t.kids.length - (i + 1), by omega, i + 1, s2, _, by omega, rfl, hU, by omega, hf2, hC, hM2, fun k hk => ?_, hr, hks, by simp⟩
           rcases hk with hk | hk
           · have := hG1 k hk; exact ⟨this.1, by omega, this.2.2⟩
           · exact ⟨by omega, by omega, .inr (by omega)⟩
        · try (exfalso; first | (simp at hc8; done) | (simp only [decide_eq_true_eq, decide_eq_false_iff_not, Bool.not_eq_true', Bool.not_eq_false', Bool.not_eq_true, Bool.not_eq_false] at hc8; omega) | omega)
          all_goals
           try simp only [decide_eq_true_eq, decide_eq_false_iff_not, Bool.not_eq_true', Bool.not_eq_false', Bool.not_eq_true, Bool.not_eq_false, Option.isNone_none, Option.isNone_some, Option.isSome_none, Option.isSome_some, ne_eq, Decidable.not_not] at hc8
           refine WC.exit ?_
           refine WX.thenExit ?_
           refine WX.thenExit ?_
           refine WX.blockHere ?_
           refine WX.endE (l := []) (vs := []) rfl trivial ?_
           obtain rfl : i = t.kids.length := by omega
           rw [List.drop_length] at hfl
           obtain rfl := Option.some.inj hfl
           refine ⟨hM.mono fun k hk => ?_, hU⟩
           have := hG1 k hk
           rcases this.2.2 with h | h
           · exact .inl h
           · exact .inr ⟨h, this.2.1⟩
end Go.Proofs.Ytncakfcafkfmfaa

/-
  types: Free.
-/
namespace Go.Proofs.Ytncakfcafkfmfaa
open Go
set_option linter.unusedSimpArgs false
set_option linter.unusedVariables false

set_option maxHeartbeats 1000000 in
theorem free_ok {w : World} {F : Nat → Prop} {p m1 m2 n : Nat} {σ : Sg} {D : Dn} {nn : Int} {xs : List C3} {a b c : Value} {t : Ty} {s' : FrS} (hf : frF σ n t ([], []) = some s') (hlen : s'.1.length ≤ 1000000000) (hI : IsS w F p m1 m2 σ D nn xs) (ht : TV w F (a, b, c) t) :
    Ret Try.prog 33 #[.pointer (some ⟨p, 0, none⟩), .agg #[a, b, c]] w fun v w' => ∃ A k, v = .slice A s'.1.length k ∧ Own w' (New w w') 3 1 (.slice A s'.1.length k) s'.1.length (s'.1.map I6) ∧ Upd No w w' := by
  replace hI := hI.bound
  replace ht := ht.bound
  have hlt := hI.lt
  obtain ⟨m0, A9, k9, xk9, rfl, rfl, rfl, _⟩ := ht.open
  refine enterRet (vs := [_, _]) (N := 14) Try.func33 rfl rfl rfl ?_
  have hU := Upd.refl No w
  refine WC.keep [(0, _), (1, _)] ⟨rfl, rfl, trivial⟩ ?_
  refine WC.seq ?_
  refine WC.region ?_
  refine WL.cons (SO.alloc rfl rfl rfl rfl (r_box1 rfl (ev_t rfl) rfl) ?_)
  intro w1 hu1 hB1 hz1
  have hs1 := hu1.size
  replace hU := hU.trans hu1 (by first | exact (fun _ _ h => h) | exact (fun _ _ h => h.elim) | (intro k hl hk; (try simp only [At, New, Grow, From, No] at hk ⊢); omega) | (intro k hl hk; rcases hk with hk | hk | hk; omega; omega; exact hk.elim))
  refine WL.cons (SO.alloc rfl rfl rfl rfl (r_boxAgg rfl (ev_t rfl)) ?_)
  intro w2 hu2 hB2 hz2
  have hs2 := hu2.size
  replace hU := hU.trans hu2 (by first | exact (fun _ _ h => h) | exact (fun _ _ h => h.elim) | (intro k hl hk; (try simp only [At, New, Grow, From, No] at hk ⊢); omega) | (intro k hl hk; rcases hk with hk | hk | hk; omega; omega; exact hk.elim))
  replace hB1 := hB1.updA hu2
  refine WL.val rfl rfl rfl rfl (r_assign rfl ev_c) ?_
  refine WL.nil ?_
  refine WX.keep [(2, _), (3, _)] ⟨rfl, rfl, trivial⟩ ?_
  refine WX.next ?_
  refine WC.seq ?_
  refine WC.region ?_
  refine WL.cons (SO.alloc rfl rfl rfl rfl (r_alloc rfl zero_33) ?_)
  intro w3 hu3 hB3 hz3
  have hs3 := hu3.size
  replace hU := hU.trans hu3 (by first | exact (fun _ _ h => h) | exact (fun _ _ h => h.elim) | (intro k hl hk; (try simp only [At, New, Grow, From, No] at hk ⊢); omega) | (intro k hl hk; rcases hk with hk | hk | hk; omega; omega; exact hk.elim))
  replace hB1 := hB1.updA hu3
  replace hB2 := hB2.updA hu3
  refine WL.nil ?_
  refine WX.keep [(2, _), (3, _), (5, _)] ⟨rfl, rfl, rfl, trivial⟩ ?_
  refine WX.next ?_
  refine WC.seq ?_
  refine WC.region ?_
  refine WL.cons (SO.makeMap rfl rfl rfl rfl rfl ?_)
  intro w4 hu4 hB4 hz4
  have hs4 := hu4.size
  replace hU := hU.trans hu4 (by first | exact (fun _ _ h => h) | exact (fun _ _ h => h.elim) | (intro k hl hk; (try simp only [At, New, Grow, From, No] at hk ⊢); omega) | (intro k hl hk; rcases hk with hk | hk | hk; omega; omega; exact hk.elim))
  replace hB1 := hB1.updA hu4
  replace hB2 := hB2.updA hu4
  replace hB3 := hB3.updA hu4
  refine WL.cons (SO.alloc rfl rfl rfl rfl (r_alloc rfl zero_72) ?_)
  intro w5 hu5 hB5 hz5
  have hs5 := hu5.size
  replace hU := hU.trans hu5 (by first | exact (fun _ _ h => h) | exact (fun _ _ h => h.elim) | (intro k hl hk; (try simp only [At, New, Grow, From, No] at hk ⊢); omega) | (intro k hl hk; rcases hk with hk | hk | hk; omega; omega; exact hk.elim))
  replace hB1 := hB1.updA hu5
  replace hB2 := hB2.updA hu5
  replace hB3 := hB3.updA hu5
  replace hB4 := hB4.updA hu5
  refine WL.cons (SO.store rfl (ev_t rfl) (ev_t rfl) size_72 hB5 rfl rfl rfl rfl rfl ?_)
  intro w6 hu6 hB5 hz6
  have hs6 := hu6.size
  replace hU := hU.trans hu6 (by first | exact (fun _ _ h => h) | exact (fun _ _ h => h.elim) | (intro k hl hk; (try simp only [At, New, Grow, From, No] at hk ⊢); omega) | (intro k hl hk; rcases hk with hk | hk | hk; omega; omega; exact hk.elim))
  replace hB1 := hB1.updA hu6
  replace hB2 := hB2.updA hu6
  replace hB3 := hB3.updA hu6
  replace hB4 := hB4.updA hu6
  refine WL.nil ?_
  refine WX.keep [(2, _), (3, _), (5, _), (6, _)] ⟨rfl, rfl, rfl, rfl, trivial⟩ ?_
  refine WX.next ?_
  refine WC.seq ?_
  refine WC.region ?_
  refine WL.cons (SO.alloc rfl rfl rfl rfl (r_alloc rfl zero_73) ?_)
  intro w7 hu7 hB7 hz7
  have hs7 := hu7.size
  replace hU := hU.trans hu7 (by first | exact (fun _ _ h => h) | exact (fun _ _ h => h.elim) | (intro k hl hk; (try simp only [At, New, Grow, From, No] at hk ⊢); omega) | (intro k hl hk; rcases hk with hk | hk | hk; omega; omega; exact hk.elim))
  replace hB1 := hB1.updA hu7
  replace hB2 := hB2.updA hu7
  replace hB3 := hB3.updA hu7
  replace hB4 := hB4.updA hu7
  replace hB5 := hB5.updA hu7
  refine WL.nil ?_
  refine WX.keep [(2, _), (3, _), (5, _), (6, _), (7, _)] ⟨rfl, rfl, rfl, rfl, rfl, trivial⟩ ?_
  refine WX.next ?_
  refine WC.seq ?_
  refine WC.region ?_
  refine WL.val rfl rfl rfl rfl (r_makeFunc (vs := []) (us := [_, _, _, _]) rfl trivial ⟨(ev_t rfl), (ev_t rfl), (ev_t rfl), (ev_t rfl), trivial⟩) ?_
  refine WL.cons (SO.store rfl (ev_t rfl) (ev_t rfl) size_73 hB7 rfl rfl rfl rfl rfl ?_)
  intro w8 hu8 hB7 hz8
  have hs8 := hu8.size
  replace hU := hU.trans hu8 (by first | exact (fun _ _ h => h) | exact (fun _ _ h => h.elim) | (intro k hl hk; (try simp only [At, New, Grow, From, No] at hk ⊢); omega) | (intro k hl hk; rcases hk with hk | hk | hk; omega; omega; exact hk.elim))
  replace hB1 := hB1.updA hu8
  replace hB2 := hB2.updA hu8
  replace hB3 := hB3.updA hu8
  replace hB4 := hB4.updA hu8
  replace hB5 := hB5.updA hu8
  refine WL.nil ?_
  refine WX.keep [(3, _), (5, _), (7, _)] ⟨rfl, rfl, rfl, trivial⟩ ?_
  refine WX.next ?_
  refine WC.seq ?_
  refine WC.region ?_
  refine WL.val rfl rfl rfl rfl (r_load rfl (ev_t rfl) flat_73 (Blk.cell hB7 rfl)) ?_
  refine WL.val rfl rfl rfl rfl (r_loadAgg (vs := [_, _, _]) rfl (ev_t rfl) agg_28 size_28 (Blk.cellsL hB2)) ?_
  refine WL.cons (SO.callV (vs := [_]) rfl (ev_t rfl) body_46 ⟨(ev_t rfl), trivial⟩ rfl (walkF_ok (B := w8.heap.size) n _ (fun _ => False) _ _ _ t ([], []) s' hf hlen ⟨hI.updN hU, hB5, hB1, hB7, fun k hk => (by simp only [Mut] at hk; omega), by omega, by omega, by omega, by omega⟩ ⟨hB4, _, _, hB3, Own.nil _ _ _ _⟩ (fun k h => h.elim) (ht.upd hU (fun _ _ _ h => h))) rfl rfl rfl rfl ?_)
  rintro v w9 ⟨hM, hu9⟩
  obtain ⟨hmp, A, k, hbo, ho⟩ := hM
  have hs9 := hu9.size
  replace hU := hU.trans hu9 (by first | exact (fun _ _ h => h) | exact (fun _ _ h => h.elim) | (intro k hl hk; (try simp only [At, New, Grow, From, No] at hk ⊢); omega) | (intro k hl hk; rcases hk with hk | hk | hk; omega; omega; exact hk.elim))
  refine WL.nil ?_
  refine WX.keep [(5, _)] ⟨rfl, trivial⟩ ?_
  refine WX.next ?_
  refine WC.seq ?_
  refine WC.region ?_
  refine WL.val rfl rfl rfl rfl (r_load rfl (ev_t rfl) flat_33 (Blk.cell hbo rfl)) ?_
  refine WL.val rfl rfl rfl rfl (r_assign rfl (ev_t rfl)) ?_
  refine WL.nil ?_
  refine WX.keep [(4, _)] ⟨rfl, trivial⟩ ?_
  refine WX.next ?_
  refine WC.ret ?_
  refine WX.retE1 rfl rfl ?_
  exact ⟨A, k, rfl, ho.mono fun k hk => by rcases hk with hk | hk; exact hk.elim; exact ⟨by omega, by omega⟩, hU⟩
end Go.Proofs.Ytncakfcafkfmfaa
