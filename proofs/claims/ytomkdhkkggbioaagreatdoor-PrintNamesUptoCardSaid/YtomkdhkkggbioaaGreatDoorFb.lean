/-
  A region that draws its order, walked in one order: what yields whatever the world is, and what yields wherever S holds, is taken first.
-/
import Derived.Test.YtomkdhkkggbioaaGreatDoorFa
namespace Go.Proofs.YtomkdhkkggbioaaGreatDoor
open Go
set_option linter.unusedSimpArgs false
set_option linter.unusedVariables false

/-- What must be kept behind an operation: of kind 0 it leaves the world; of kind 1 it keeps S; else nothing is asked. -/
def Keeps (S : World → Prop) (k : Nat) (w w' : World) : Prop :=
  match k with
  | 0 => w' = w
  | 1 => S w'
  | _ => True

section
variable {P : Program} {ops : Array Oper} {Q : Exit → Act → World → Prop} {S : World → Prop} {kind : Nat → Nat}

/-- Whatever order is picked from here on, and what is asked is kept behind every operation. -/
def wpAnyM (P : Program) (ops : Array Oper) (Q : Exit → Act → World → Prop) (S : World → Prop) (kind : Nat → Nat) : Nat → Array Bool → Act → World → Prop
  | 0, listed, a, w => Region.ready .any ops listed = [] ∧ Q .normal a w
  | fuel + 1, listed, a, w =>
    (Region.ready .any ops listed = [] → Q .normal a w) ∧
    ∀ i ∈ Region.ready .any ops listed, wpOp P ops Q i (fun a' w' => Keeps S (kind i) w w' ∧ wpAnyM P ops Q S kind fuel (listed.setIfInBounds i true) a' w') a w

theorem wpAny_of_M : ∀ (fuel : Nat) (listed : Array Bool) (a : Act) (w : World), wpAnyM P ops Q S kind fuel listed a w → wpAny P .any ops Q fuel listed a w
  | 0, _, _, _, h => h
  | fuel + 1, _, _, _, h => ⟨h.1, fun i hi => wpOp_mono (fun a' w' h' => wpAny_of_M fuel _ a' w' h'.2) (h.2 i hi)⟩

/-- Listed operations have all that they wait for listed. -/
def Closed (ops : Array Oper) (listed : Array Bool) : Prop :=
  listed.size = ops.size ∧ ∀ j oj, ops[j]? = some oj → listed.getD j false = true → ∀ e ∈ oj.after, Region.binds .any e = true → listed.getD e.on false = true

theorem Closed.set {listed : Array Bool} {i : Nat} (h : Closed ops listed) (hi : i ∈ Region.ready .any ops listed) : Closed ops (listed.setIfInBounds i true) := by
  obtain ⟨_, oi, hoi, hall⟩ := mem_ready.1 hi
  refine ⟨by simp [h.1], fun j oj hj hl e he hb => ?_⟩
  by_cases hij : i = j
  · subst hij
    have : oj = oi := Option.some.inj (hj.symm.trans hoi)
    subst this
    exact getD_set_true (hall e he hb)
  · rw [getD_set_ne false hij] at hl
    exact getD_set_true (h.2 j oj hj hl e he hb)

theorem closed_start : Closed ops (Array.replicate ops.size false) := ⟨by simp, fun j oj _ hl => by
  exfalso
  by_cases h : j < ops.size <;> simp [h] at hl⟩

/-- Operation j waits for i, by however many steps. -/
def waitsB (ops : Array Oper) (i : Nat) : Nat → Nat → Bool
  | 0, _ => false
  | f + 1, j => match ops[j]? with
    | some oj => oj.after.any fun e => Region.binds .any e && (e.on == i || waitsB ops i f e.on)
    | none => false

theorem waits_listed {listed : Array Bool} (hc : Closed ops listed) {i : Nat} : ∀ f j, waitsB ops i f j = true → listed.getD j false = true → listed.getD i false = true
  | 0, _, h, _ => by simp [waitsB] at h
  | f + 1, j, h, hl => by
    simp only [waitsB] at h
    split at h
    · rename_i oj hj
      obtain ⟨e, he, hb⟩ := Array.any_eq_true'.1 h
      simp only [Bool.and_eq_true, Bool.or_eq_true, beq_iff_eq] at hb
      have h1 := hc.2 j oj hj hl e he hb.1
      rcases hb.2 with h2 | h2
      · rw [← h2]; exact h1
      · exact waits_listed hc f e.on h2 h1
    · cases h

theorem waits_ready {listed : Array Bool} (hc : Closed ops listed) {i j f : Nat} (h : waitsB ops i f j = true) (hr : j ∈ Region.ready .any ops listed) : listed.getD i false = true := by
  obtain ⟨_, oj, hoj, hall⟩ := mem_ready.1 hr
  cases f with
  | zero => simp [waitsB] at h
  | succ f =>
    simp only [waitsB, hoj] at h
    obtain ⟨e, he, hb⟩ := Array.any_eq_true'.1 h
    simp only [Bool.and_eq_true, Bool.or_eq_true, beq_iff_eq] at hb
    have h1 := hall e he hb.1
    rcases hb.2 with h2 | h2
    · rw [← h2]; exact h1
    · exact waits_listed hc f e.on h2 h1

theorem getD_false_of_true {listed : Array Bool} {i : Nat} (h : listed.getD i true = false) : listed.getD i false = false := by
  rcases Nat.lt_or_ge i listed.size with h' | h'
  · simp [h'] at h ⊢; exact h
  · simp [Array.getElem?_eq_none h'] at h

theorem keeps_zero {w : World} {k : Nat} (hk : k = 0) : Keeps S k w w := by subst hk; rfl

theorem wpAnyM_held {i : Nat} {oi : Oper} {v : Value} (hi : ops[i]? = some oi) (hsel : ∀ (j : Nat) (o : Oper) cs b, ops[j]? = some o → o.op ≠ .select cs b)
    (hQ : ∀ c a w, Q (.panic c) (a.put oi.dst v) w → Q (.panic c) a w) (hlate : ∀ j oj, ops[j]? = some oj → 1 < kind j → ∃ f, waitsB ops i f j = true) (hki : kind i = 0) :
    ∀ (fuel : Nat) (listed : Array Bool) (a : Act) (w : World), Closed ops listed →
      (∀ j oj, ops[j]? = some oj → j ≠ i → listed.getD j true = false → (∀ e ∈ oj.after, Region.binds .any e = true → e.on ≠ i) → oi.apart ops oj = true) →
      i ∈ Region.ready .any ops listed → YieldsIf P ops S oi v a → S w →
      wpAnyM P ops Q S kind fuel (listed.setIfInBounds i true) (a.put oi.dst v) w → wpAnyM P ops Q S kind (fuel + 1) listed a w := by
  intro fuel
  induction fuel with
  | zero =>
    intro listed a w hc _ hr hy hS H
    refine ⟨fun h => (by rw [h] at hr; cases hr), fun j hj => ?_⟩
    by_cases hji : j = i
    · subst hji; exact hy.wpOp hi hS ⟨keeps_zero hki, H⟩
    · have := ready_mono hj hji
      rw [H.1] at this
      cases this
  | succ fuel ih =>
    intro listed a w hc hfree hr hy hS H
    refine ⟨fun h => (by rw [h] at hr; cases hr), fun j hj => ?_⟩
    by_cases hji : j = i
    · subst hji; exact hy.wpOp hi hS ⟨keeps_zero hki, H⟩
    · have h1 := H.2 j (ready_mono hj hji)
      obtain ⟨hjun, oj, hoj, hall⟩ := mem_ready.1 hj
      have hun := getD_false_of_true (mem_ready.1 hr).1
      have hnl : ¬ 1 < kind j := fun hl => by
        obtain ⟨f, hf⟩ := hlate j oj hoj hl
        rw [waits_ready hc hf hj] at hun
        cases hun
      have hnot : ∀ e ∈ oj.after, Region.binds .any e = true → e.on ≠ i := fun e he hb heq => by
        have h1 := hall e he hb
        rw [heq, hun] at h1
        cases h1
      have h2 := wpOp_putIf hoj (hfree j oj hoj hji hjun hnot) (fun cs b => hsel i oi cs b hi) (fun cs b => hsel j oj cs b hoj) hQ hy h1
      have hfree' : ∀ k ok, ops[k]? = some ok → k ≠ i → (listed.setIfInBounds j true).getD k true = false →
          (∀ e ∈ ok.after, Region.binds .any e = true → e.on ≠ i) → oi.apart ops ok = true := fun k ok hk hki hun hno => by
        refine hfree k ok hk hki ?_ hno
        by_cases hjk : j = k
        · subst hjk; exact hjun
        · rw [getD_set_ne true hjk] at hun; exact hun
      refine wpOp_mono (fun a' w' h3 => ?_) h2
      have hS' : S w' := by
        have h4 := h3.2.1
        generalize hk : kind j = k at h4 hnl
        match k, h4 with
        | 0, h4 => simp only [Keeps] at h4; rw [h4]; exact hS
        | 1, h4 => exact h4
        | n + 2, _ => exact absurd (by omega) hnl
      refine ⟨h3.2.1, ih (listed.setIfInBounds j true) a' w' (hc.set hj) hfree' (ready_mono hr (Ne.symm hji)) h3.1 hS' ?_⟩
      rw [Array.setIfInBounds_comm _ _ hji]
      exact h3.2.2

/-- The same for what yields whatever the world is: S plays no part. -/
theorem wpAnyM_calm {i : Nat} {oi : Oper} {v : Value} (hi : ops[i]? = some oi) (hsel : ∀ (j : Nat) (o : Oper) cs b, ops[j]? = some o → o.op ≠ .select cs b)
    (hQ : ∀ c a w, Q (.panic c) (a.put oi.dst v) w → Q (.panic c) a w) (hki : kind i = 0) :
    ∀ (fuel : Nat) (listed : Array Bool) (a : Act) (w : World),
      (∀ j oj, ops[j]? = some oj → j ≠ i → listed.getD j true = false → (∀ e ∈ oj.after, Region.binds .any e = true → e.on ≠ i) → oi.apart ops oj = true) →
      i ∈ Region.ready .any ops listed → Yields P ops oi v a →
      wpAnyM P ops Q S kind fuel (listed.setIfInBounds i true) (a.put oi.dst v) w → wpAnyM P ops Q S kind (fuel + 1) listed a w := by
  intro fuel
  induction fuel with
  | zero =>
    intro listed a w _ hr hy H
    refine ⟨fun h => (by rw [h] at hr; cases hr), fun j hj => ?_⟩
    by_cases hji : j = i
    · subst hji; exact hy.wpOp hi ⟨keeps_zero hki, H⟩
    · have := ready_mono hj hji
      rw [H.1] at this
      cases this
  | succ fuel ih =>
    intro listed a w hfree hr hy H
    refine ⟨fun h => (by rw [h] at hr; cases hr), fun j hj => ?_⟩
    by_cases hji : j = i
    · subst hji; exact hy.wpOp hi ⟨keeps_zero hki, H⟩
    · have h1 := H.2 j (ready_mono hj hji)
      obtain ⟨hjun, oj, hoj, hall⟩ := mem_ready.1 hj
      have hun := getD_false_of_true (mem_ready.1 hr).1
      have hnot : ∀ e ∈ oj.after, Region.binds .any e = true → e.on ≠ i := fun e he hb heq => by
        have h1 := hall e he hb
        rw [heq, hun] at h1
        cases h1
      have h2 := wpOp_put hoj (hfree j oj hoj hji hjun hnot) (fun cs b => hsel i oi cs b hi) (fun cs b => hsel j oj cs b hoj) hQ hy h1
      have hfree' : ∀ k ok, ops[k]? = some ok → k ≠ i → (listed.setIfInBounds j true).getD k true = false →
          (∀ e ∈ ok.after, Region.binds .any e = true → e.on ≠ i) → oi.apart ops ok = true := fun k ok hk hki hun hno => by
        refine hfree k ok hk hki ?_ hno
        by_cases hjk : j = k
        · subst hjk; exact hjun
        · rw [getD_set_ne true hjk] at hun; exact hun
      refine wpOp_mono (fun a' w' h3 => ⟨h3.2.1, ih (listed.setIfInBounds j true) a' w' hfree' (ready_mono hr (Ne.symm hji)) h3.1 ?_⟩) h2
      rw [Array.setIfInBounds_comm _ _ hji]
      exact h3.2.2
end

/-- An order (a tree, where two operations with an effect may come up). -/
inductive Ord where
  | done
  | calm (i : Nat) (r : Ord)
  | held (i : Nat) (r : Ord)
  | one (i : Nat) (r : Ord)
  | two (i j : Nat) (r s : Ord)

section
variable (P : Program) (ops : Array Oper) (Q : Exit → Act → World → Prop) (S : World → Prop) (kind : Nat → Nat)

def wpOrd : Ord → Act → World → Prop
  | .done, a, w => Q .normal a w
  | .calm i r, a, w => ∃ o v, ops[i]? = some o ∧ Yields P ops o v a ∧ wpOrd r (a.put o.dst v) w
  | .held i r, a, w => S w ∧ ∃ o v, ops[i]? = some o ∧ YieldsIf P ops S o v a ∧ wpOrd r (a.put o.dst v) w
  | .one i r, a, w => wpOp P ops Q i (fun a' w' => Keeps S (kind i) w w' ∧ wpOrd r a' w') a w
  | .two i j r s, a, w => wpOp P ops Q i (fun a' w' => Keeps S (kind i) w w' ∧ wpOrd r a' w') a w ∧ wpOp P ops Q j (fun a' w' => Keeps S (kind j) w w' ∧ wpOrd s a' w') a w
end

def Ord.steps : Ord → Nat
  | .done => 0
  | .calm _ r => r.steps + 1
  | .held _ r => r.steps + 1
  | .one _ r => r.steps + 1
  | .two _ _ r _ => r.steps + 1

/-- Is it an order of the region? (n: so many are to come.) -/
def ordOK (ops : Array Oper) (kind : Nat → Nat) : Ord → Nat → Array Bool → Bool
  | .done, n, L => (n == 0) && (Region.ready .any ops L).isEmpty
  | .calm i r, n, L => (n != 0) && (kind i == 0) && (Region.ready .any ops L).contains i && Region.free .any ops L i && ordOK ops kind r (n - 1) (L.setIfInBounds i true)
  | .held i r, n, L => (n != 0) && (kind i == 0) && (Region.ready .any ops L).contains i && Region.free .any ops L i && ((List.range ops.size).all fun j => Nat.ble (kind j) 1 || waitsB ops i ops.size j) && ordOK ops kind r (n - 1) (L.setIfInBounds i true)
  | .one i r, n, L => (n != 0) && (Region.ready .any ops L == [i]) && ordOK ops kind r (n - 1) (L.setIfInBounds i true)
  | .two i j r s, n, L => (n != 0) && (Region.ready .any ops L == [i, j]) && ordOK ops kind r (n - 1) (L.setIfInBounds i true) && ordOK ops kind s (n - 1) (L.setIfInBounds j true)

theorem wpOrd_any {P : Program} {ops : Array Oper} {Q : Exit → Act → World → Prop} {S : World → Prop} {kind : Nat → Nat} (hs : Region.noSelect ops = true)
    (hQ : ∀ c a d v w, Q (.panic c) (Act.put a d v) w → Q (.panic c) a w) :
    ∀ (r : Ord) (n : Nat) (L : Array Bool) (a : Act) (w : World), Closed ops L → ordOK ops kind r n L = true → wpOrd P ops Q S kind r a w → wpAnyM P ops Q S kind n L a w
  | .done, n, L, a, w, _, hB, h => by
    simp only [ordOK, Bool.and_eq_true, beq_iff_eq, List.isEmpty_iff] at hB
    obtain ⟨rfl, h2⟩ := hB
    exact ⟨h2, h⟩
  | .calm i r, n, L, a, w, hc, hB, h => by
    simp only [ordOK, Bool.and_eq_true, bne_iff_ne, ne_eq, beq_iff_eq] at hB
    obtain ⟨⟨⟨⟨h0, h1⟩, h2⟩, h3⟩, h4⟩ := hB
    obtain ⟨m, rfl⟩ : ∃ m, n = m + 1 := ⟨n - 1, by omega⟩
    obtain ⟨o, v, ho, hy, hr⟩ := h
    have hi : i ∈ Region.ready .any ops L := by simpa using h2
    exact wpAnyM_calm ho (Region.noSelect_spec hs) (fun c a w => hQ c a _ _ w) h1 m L a w (Region.free_spec ho h3) hi hy
      (wpOrd_any hs hQ r m _ _ w (hc.set hi) (by simpa using h4) hr)
  | .held i r, n, L, a, w, hc, hB, h => by
    simp only [ordOK, Bool.and_eq_true, bne_iff_ne, ne_eq, beq_iff_eq] at hB
    obtain ⟨⟨⟨⟨⟨h0, h1⟩, h2⟩, h3⟩, h5⟩, h4⟩ := hB
    obtain ⟨m, rfl⟩ : ∃ m, n = m + 1 := ⟨n - 1, by omega⟩
    obtain ⟨hS, o, v, ho, hy, hr⟩ := h
    have hi : i ∈ Region.ready .any ops L := by simpa using h2
    refine wpAnyM_held ho (Region.noSelect_spec hs) (fun c a w => hQ c a _ _ w) ?_ h1 m L a w hc (Region.free_spec ho h3) hi hy hS
      (wpOrd_any hs hQ r m _ _ w (hc.set hi) (by simpa using h4) hr)
    intro j oj hoj hk
    have h6 := List.all_eq_true.1 h5 j (List.mem_range.2 (Array.getElem?_eq_some_iff.1 hoj).1)
    simp only [Bool.or_eq_true] at h6
    rcases h6 with h6 | h6
    · have := Nat.le_of_ble_eq_true h6; omega
    · exact ⟨_, h6⟩
  | .one i r, n, L, a, w, hc, hB, h => by
    simp only [ordOK, Bool.and_eq_true, bne_iff_ne, ne_eq, beq_iff_eq] at hB
    obtain ⟨⟨h0, h1⟩, h2⟩ := hB
    obtain ⟨m, rfl⟩ : ∃ m, n = m + 1 := ⟨n - 1, by omega⟩
    refine ⟨fun h3 => (by rw [h1] at h3; cases h3), fun j hj => ?_⟩
    have hj' := hj
    rw [h1] at hj'
    obtain rfl : j = i := by simpa using hj'
    exact wpOp_mono (fun a' w' h3 => ⟨h3.1, wpOrd_any hs hQ r m _ a' w' (hc.set hj) (by simpa using h2) h3.2⟩) h
  | .two i k r s, n, L, a, w, hc, hB, h => by
    simp only [ordOK, Bool.and_eq_true, bne_iff_ne, ne_eq, beq_iff_eq] at hB
    obtain ⟨⟨⟨h0, h1⟩, h2⟩, h3⟩ := hB
    obtain ⟨m, rfl⟩ : ∃ m, n = m + 1 := ⟨n - 1, by omega⟩
    refine ⟨fun h4 => (by rw [h1] at h4; cases h4), fun j hj => ?_⟩
    have hj' := hj
    rw [h1] at hj'
    have : j = i ∨ j = k := by simpa using hj'
    rcases this with rfl | rfl
    · exact wpOp_mono (fun a' w' h4 => ⟨h4.1, wpOrd_any hs hQ r m _ a' w' (hc.set hj) (by simpa using h2) h4.2⟩) h.1
    · exact wpOp_mono (fun a' w' h4 => ⟨h4.1, wpOrd_any hs hQ s m _ a' w' (hc.set hj) (by simpa using h3) h4.2⟩) h.2

/-- the whole check, for the kernel -/
def ordB (ops : Array Oper) (kind : Nat → Nat) (r : Ord) : Bool := Region.noSelect ops && ordOK ops kind r ops.size (Array.replicate ops.size false)

section
variable {P : Program} {N : Nat} {ops : Array Oper} {Q : Exit → Act → World → Prop} {S : World → Prop} {kind : Nat → Nat} {E : Env} {w w' : World} {o : Oper} {d i j : Nat} {v : Value} {r s : Ord}

def WN (P : Program) (N : Nat) (ops : Array Oper) (Q : Exit → Act → World → Prop) (S : World → Prop) (kind : Nat → Nat) (r : Ord) (E : Env) (w : World) : Prop := ∀ a, Sat N E a → wpOrd P ops Q S kind r a w

theorem WC.draws {id : Nat} {l : List Oper} (S : World → Prop) (kind : Nat → Nat) (r : Ord) (hm : P.follows .mixedOrders = true) (hB : ordB l.toArray kind r = true)
    (hQ : ∀ c a d v w, Q (.panic c) (Act.put a d v) w → Q (.panic c) a w) (k : WN P N l.toArray Q S kind r E w.drew) : WC P N Q (.region id l.toArray true) E w := by
  intro a h
  simp only [ordB, Bool.and_eq_true] at hB
  refine wp_region_any hm (wpAny_of_M (S := S) (kind := kind) _ _ _ _ ?_)
  exact wpOrd_any hB.1 hQ r _ _ _ _ closed_start hB.2 (k a h)

/-- what holds behind a panic asks nothing of the temporaries -/
def Deaf (Q : Exit → Act → World → Prop) : Prop := ∀ c a d v w, Q (.panic c) (Act.put a d v) w → Q (.panic c) a w
theorem Deaf.block {id : Nat} {Q : Exit → Act → World → Prop} (h : Deaf Q) : Deaf (Exit.inBlock id Q) := fun c a d v w hq => h c a d v w hq
theorem Deaf.then {X : Act → World → Prop} {Q : Exit → Act → World → Prop} (h : Deaf Q) : Deaf (Exit.then X Q) := fun c a d v w hq => h c a d v w hq
theorem Deaf.body {P : Program} {fn : Func} {R : Ending → World → Prop} : Deaf (bodyPost P fn R) := fun c a d v w hq => by cases d <;> exact hq

/-- the same, the world behind the draw under a name of its own -/
theorem WC.draws' {id : Nat} {l : List Oper} (S : World → World → Prop) (kind : Nat → Nat) (r : Ord) (hm : P.follows .mixedOrders = true) (hB : ordB l.toArray kind r = true)
    (hQ : Deaf Q)
    (k : ∀ w', w'.os = w.os ∧ w'.tape = w.tape ∧ w'.output = w.output ∧ w'.heap = w.heap → WN P N l.toArray Q (S w') kind r E w') : WC P N Q (.region id l.toArray true) E w :=
  WC.draws (S w.drew) kind r hm hB hQ (k _ ⟨rfl, rfl, rfl, rfl⟩)

theorem WN.done (k : WX N Q .normal E w) : WN P N ops Q S kind .done E w := fun a h => k a h

theorem WN.keep (F : Env) (hs : E.sub F) (k : WN P N ops Q S kind r F w) : WN P N ops Q S kind r E w := fun a h => k a (h.sub hs)

theorem WN.calm (o : Oper) (hi : ops[i]? = some o) (hd : o.dst = some d) (hN : Nat.blt d N = true) (ho : opsOK E o = true) (hw : wantedE ops E o = some true)
    (hrun : ∀ w, (execOp E.ev o).run P w = .ok (.value v) w) (k : WN P N ops Q S kind r ((d, v) :: E) w) : WN P N ops Q S kind (.calm i r) E w := by
  intro a h
  have hd' : d < N := Eq.mp Nat.blt_eq hN
  refine ⟨o, v, hi, .inl ⟨wantedE_spec h hw, fun w => by rw [opsOK_exec h ho]; exact hrun w⟩, ?_⟩
  rw [hd]
  exact k _ (h.put hd' v)

theorem WN.skip (o : Oper) (hi : ops[i]? = some o) (hd : o.dst = some d) (hN : Nat.blt d N = true) (hw : wantedE ops E o = some false)
    (k : WN P N ops Q S kind r ((d, undef) :: E) w) : WN P N ops Q S kind (.calm i r) E w := by
  intro a h
  have hd' : d < N := Eq.mp Nat.blt_eq hN
  refine ⟨o, undef, hi, .inr ⟨wantedE_spec h hw, rfl⟩, ?_⟩
  rw [hd]
  exact k _ (h.put hd' undef)

theorem WN.held (o : Oper) (hi : ops[i]? = some o) (hd : o.dst = some d) (hN : Nat.blt d N = true) (ho : opsOK E o = true) (hw : wantedE ops E o = some true) (hS : S w)
    (hrun : ∀ w, S w → (execOp E.ev o).run P w = .ok (.value v) w) (k : WN P N ops Q S kind r ((d, v) :: E) w) : WN P N ops Q S kind (.held i r) E w := by
  intro a h
  have hd' : d < N := Eq.mp Nat.blt_eq hN
  refine ⟨hS, o, v, hi, .inl ⟨wantedE_spec h hw, fun w hw => by rw [opsOK_exec h ho]; exact hrun w hw⟩, ?_⟩
  rw [hd]
  exact k _ (h.put hd' v)

theorem WN.heldSkip (o : Oper) (hi : ops[i]? = some o) (hd : o.dst = some d) (hN : Nat.blt d N = true) (hw : wantedE ops E o = some false) (hS : S w)
    (k : WN P N ops Q S kind r ((d, undef) :: E) w) : WN P N ops Q S kind (.held i r) E w := by
  intro a h
  have hd' : d < N := Eq.mp Nat.blt_eq hN
  refine ⟨hS, o, undef, hi, .inr ⟨wantedE_spec h hw, rfl⟩, ?_⟩
  rw [hd]
  exact k _ (h.put hd' undef)

theorem WN.cases (t : Nat) {b : Bool} (hg : Env.get E t = some (.bool b)) (ht : b = true → WN P N ops Q S kind r ((t, .bool true) :: E) w) (hf : b = false → WN P N ops Q S kind r ((t, .bool false) :: E) w) :
    WN P N ops Q S kind r E w := by
  intro a h
  cases b with
  | true => exact ht rfl a ⟨h.size, h.defers, fun s v hs => by
      simp only [Env.get] at hs
      split at hs
      · rename_i hb
        have := Nat.eq_of_beq_eq_true hb
        subst this
        injection hs with hs
        subst hs
        exact h.vals _ _ hg
      · exact h.vals s v hs⟩
  | false => exact hf rfl a ⟨h.size, h.defers, fun s v hs => by
      simp only [Env.get] at hs
      split at hs
      · rename_i hb
        have := Nat.eq_of_beq_eq_true hb
        subst this
        injection hs with hs
        subst hs
        exact h.vals _ _ hg
      · exact h.vals s v hs⟩

/-- one operation, as a step of its own -/
def WO (P : Program) (N : Nat) (ops : Array Oper) (Q : Exit → Act → World → Prop) (i : Nat) (K : Env → World → Prop) (E : Env) (w : World) : Prop :=
  ∀ (K' : Act → World → Prop), (∀ E' w' a', K E' w' → Sat N E' a' → K' a' w') → ∀ a, Sat N E a → wpOp P ops Q i K' a w

theorem WN.one (k : WO P N ops Q i (fun E' w' => Keeps S (kind i) w w' ∧ WN P N ops Q S kind r E' w') E w) : WN P N ops Q S kind (.one i r) E w :=
  fun a h => k _ (fun _ _ a' hK hs => ⟨hK.1, hK.2 a' hs⟩) a h

theorem WN.two (k1 : WO P N ops Q i (fun E' w' => Keeps S (kind i) w w' ∧ WN P N ops Q S kind r E' w') E w)
    (k2 : WO P N ops Q j (fun E' w' => Keeps S (kind j) w w' ∧ WN P N ops Q S kind s E' w') E w) : WN P N ops Q S kind (.two i j r s) E w :=
  fun a h => ⟨k1 _ (fun _ _ a' hK hs => ⟨hK.1, hK.2 a' hs⟩) a h, k2 _ (fun _ _ a' hK hs => ⟨hK.1, hK.2 a' hs⟩) a h⟩

variable {K : Env → World → Prop}

theorem WO.val (o : Oper) (hi : ops[i]? = some o) (hd : o.dst = some d) (hN : Nat.blt d N = true) (ho : opsOK E o = true) (hw : wantedE ops E o = some true)
    (hrun : (execOp E.ev o).run P w = .ok (.value v) w') (k : K ((d, v) :: E) w') : WO P N ops Q i K E w := by
  intro K' hK a h
  have hd' : d < N := Eq.mp Nat.blt_eq hN
  unfold wpOp
  simp only [hi]
  rw [if_pos (wantedE_spec h hw)]
  refine .inl ?_
  unfold Oper.wp
  rw [opsOK_exec h ho, hrun, Oper.upon_value, hd]
  exact hK _ _ _ k (h.put hd' v)

theorem WO.eff (o : Oper) (hi : ops[i]? = some o) (hd : o.dst = none) (ho : opsOK E o = true) (hw : wantedE ops E o = some true)
    (hrun : (execOp E.ev o).run P w = .ok .skip w') (k : K E w') : WO P N ops Q i K E w := by
  intro K' hK a h
  unfold wpOp
  simp only [hi]
  rw [if_pos (wantedE_spec h hw)]
  refine .inl ?_
  unfold Oper.wp
  rw [opsOK_exec h ho, hrun, Oper.upon_skip, hd]
  exact hK _ _ _ k h

theorem WO.skip (o : Oper) (hi : ops[i]? = some o) (hd : o.dst = some d) (hN : Nat.blt d N = true) (hw : wantedE ops E o = some false)
    (k : K ((d, undef) :: E) w) : WO P N ops Q i K E w := by
  intro K' hK a h
  have hd' : d < N := Eq.mp Nat.blt_eq hN
  unfold wpOp
  simp only [hi]
  rw [wantedE_spec h hw, hd]
  exact hK _ _ _ k (h.put hd' undef)

theorem WO.call (o : Oper) {f : FuncId} {args : Array Value} {R : Value → World → Prop} (hi : ops[i]? = some o) (hd : o.dst = some d) (hN : Nat.blt d N = true) (ho : opsOK E o = true) (hw : wantedE ops E o = some true)
    (hrun : (execOp E.ev o).run P w = .ok (.enter f args) w') (hc : Ret P f args w' R) (k : ∀ v w'', R v w'' → K ((d, v) :: E) w'') : WO P N ops Q i K E w := by
  intro K' hK a h
  have hd' : d < N := Eq.mp Nat.blt_eq hN
  unfold wpOp
  simp only [hi]
  rw [if_pos (wantedE_spec h hw)]
  refine .inl ?_
  unfold Oper.wp
  rw [opsOK_exec h ho, hrun, Oper.upon_enter]
  refine Calls.mono hc ?_
  rintro e w'' ⟨v, rfl, hR⟩
  simp only [hd]
  exact hK _ _ _ (k v w'' hR) (h.put hd' v)
end
end Go.Proofs.YtomkdhkkggbioaaGreatDoor
