/-
  Several texts put together: Fa, Fb, Fc, Fd, Fe, Ff, Fg, Frame, Fopen, Fh, Flo, Fi, Fj, Fk, Fl, Fm, Fn, Fo, Fp, Fq, Fr, Ft, TyP, TyQ.
-/
import Derived.Calls
import Derived.Tactics
import Derived.OrdersHeld
import Derived.LoopTactic
import Derived.Laws.Entries
import Derived.WalkKit
import Derived.Laws.Cover3
import Derived.Test.YtncakfcafkfmfaaRows
import Derived.ProofKit
import Derived.OpenShut
import Derived.HandedShaped
import Derived.Deep.SlicePairs
import Derived.Laws.ComplexArith
import Derived.Laws.StructEq
import Derived.Laws.MakeOwn
import Derived.Laws.Small
import Derived.Laws.CopyRow
import Derived.Lib.AppendZerosOnto
import Derived.Lib.Overlaps
import Derived.Maps.Keyed
import Derived.ChangeKeysEq
/-
  A calculus of walks over environments of live temporaries: judgements, steps, regions in whatever order. Own work; no program in sight.
-/
namespace Go.Proofs.Ytncakfcafkfmfaa
open Go
set_option linter.unusedSimpArgs false
set_option linter.unusedVariables false

/-- The live temporaries. -/
abbrev Env := List (Nat × Value)

def Env.get : Env → Nat → Option Value
  | [], _ => none
  | (k, v) :: E, t => match Nat.beq k t with
    | true => some v
    | false => Env.get E t

def Env.ev (E : Env) : Operand → Value
  | .tmp t => match Env.get E t with
    | some v => v
    | none => undef
  | .const v => v
  | .global g => .pointer (some ⟨g, 0, none⟩)
  | .func f => .func (.func f) #[] #[]

def Env.has (E : Env) : Operand → Bool
  | .tmp t => (Env.get E t).isSome
  | _ => true

/-- Every entry of F stands in E. -/
def Env.sub (E : Env) : Env → Prop
  | [] => True
  | (k, v) :: F => Env.get E k = some v ∧ Env.sub E F

theorem Env.get_of_sub {E : Env} : ∀ {F : Env}, Env.sub E F → ∀ {t v}, Env.get F t = some v → Env.get E t = some v
  | [], _, _, _, h => by simp [Env.get] at h
  | (k, u) :: F, hs, t, v, h => by
    simp only [Env.get] at h
    split at h
    · rename_i hb
      have := Nat.eq_of_beq_eq_true hb
      subst this
      injection h with h
      subst h
      exact hs.1
    · exact Env.get_of_sub hs.2 h

structure Sat (N : Nat) (E : Env) (a : Act) : Prop where
  size : a.tmps.size = N
  defers : a.defers = []
  vals : ∀ t v, Env.get E t = some v → a.tmps[t]? = some v

theorem Sat.sub {N : Nat} {E F : Env} {a : Act} (h : Sat N E a) (hs : Env.sub E F) : Sat N F a :=
  ⟨h.size, h.defers, fun t v ht => h.vals t v (Env.get_of_sub hs ht)⟩

theorem Sat.eval {N : Nat} {E : Env} {a : Act} (h : Sat N E a) {x : Operand} (hx : E.has x = true) : a.eval x = E.ev x := by
  cases x with
  | tmp t =>
    simp only [Env.has] at hx
    cases hg : Env.get E t with
    | none => rw [hg] at hx; cases hx
    | some v =>
      have := h.vals t v hg
      simp only [Act.eval, Env.ev, hg, Array.getD_eq_getD_getElem?, this, Option.getD_some]
  | _ => rfl

theorem Sat.put {N : Nat} {E : Env} {a : Act} (h : Sat N E a) {d : Nat} (hd : d < N) (v : Value) : Sat N ((d, v) :: E) (a.put (some d) v) := by
  refine ⟨by simp [Act.put, h.size], by simp [Act.put, h.defers], fun t u ht => ?_⟩
  simp only [Env.get] at ht
  split at ht
  · rename_i hb
    have := Nat.eq_of_beq_eq_true hb
    subst this
    injection ht with ht
    subst ht
    simp [Act.put, h.size, hd]
  · rename_i hb
    have hne : d ≠ t := fun e => by subst e; simp at hb
    simp only [Act.put]
    rw [Array.getElem?_setIfInBounds_ne hne]
    exact h.vals t u ht

def notSelect (o : Op) : Bool := match o with | .select .. => false | _ => true

def opsL : Op → List Operand
  | .call c => (match c.callee with | .value f => [f] | .invoke r _ => [r] | .builtin _ => []) ++ c.args.toList
  | .makeFunc _ f c => f.toList ++ c.toList
  | .slice _ x l h m => x :: (l.toList ++ h.toList ++ m.toList)
  | .makeMap _ r => r.toList
  | .build _ ps => ps.toList.map (·.2)
  | .buildSlice _ _ ps => ps.toList.map (·.2)
  | op => op.operands.toList

theorem mem_opsL {op : Op} {x : Operand} (h : x ∈ op.operands) : x ∈ opsL op := by
  cases op <;> simp only [Op.operands, opsL, Call.operands] at h ⊢ <;> first
    | (simp at h; done)
    | (simpa using h)
    | (rename_i c; cases hc : c.callee <;> simp [hc] at h ⊢ <;> exact h)

/-- What an operation looks at is live. -/
def opsOK (E : Env) (o : Oper) : Bool := notSelect o.op && (opsL o.op).all E.has

theorem opsOK_exec {N : Nat} {E : Env} {a : Act} (h : Sat N E a) {o : Oper} (ho : opsOK E o = true) : execOp a.eval o = execOp E.ev o := by
  simp only [opsOK, Bool.and_eq_true] at ho
  refine execOp_congr o (fun cs b e => by rw [e] at ho; simp [notSelect] at ho) fun x hx => h.eval ?_
  exact List.all_eq_true.1 ho.2 x (mem_opsL hx)

/-- Does the operation's guard let it run? -/
def wantedE (ops : Array Oper) (E : Env) (o : Oper) : Option Bool :=
  match o.guard with
  | none => some true
  | some (j, want) =>
    match (ops[j]?).bind (·.dst) with
    | none => none
    | some d => match Env.get E d with
      | some (.bool b) => some (b == want)
      | some _ => some false
      | none => none

theorem wantedE_spec {N : Nat} {ops : Array Oper} {E : Env} {a : Act} (h : Sat N E a) {o : Oper} {b : Bool} (hw : wantedE ops E o = some b) :
    Region.wanted o (yielded ops a.tmps) = b := by
  unfold wantedE at hw
  unfold Region.wanted
  cases hg : o.guard with
  | none => simp only [hg] at hw ⊢; exact Option.some.inj hw
  | some gw =>
    obtain ⟨j, want⟩ := gw
    simp only [hg] at hw ⊢
    unfold yielded
    cases hd : (ops[j]?).bind (·.dst) with
    | none => simp [hd] at hw
    | some d =>
      simp only [hd] at hw
      cases hv : Env.get E d with
      | none => simp [hv] at hw
      | some v =>
        simp only [hv] at hw
        have h1 := h.vals d v hv
        simp only [Option.bind_some, h1]
        cases v <;> first | (simpa using hw) | (simp at hw; simp [hw]; done)

/-- Calls that return. -/
def Ret (P : Program) (f : FuncId) (args : Array Value) (w : World) (R : Value → World → Prop) : Prop :=
  Calls P f args w fun e w' => ∃ v, e = .returned v ∧ R v w'

theorem Ret.mono {P : Program} {f : FuncId} {args : Array Value} {w : World} {R R' : Value → World → Prop} (h : Ret P f args w R) (hr : ∀ v w', R v w' → R' v w') : Ret P f args w R' :=
  Calls.mono h fun _ _ ⟨v, he, hR⟩ => ⟨v, he, hr _ _ hR⟩

section
variable (P : Program) (N : Nat)

def WL (ops : Array Oper) (Q : Exit → Act → World → Prop) (l : List Oper) (E : Env) (w : World) : Prop := ∀ a, Sat N E a → wpList P ops Q l a w
def WC (Q : Exit → Act → World → Prop) (c : Code) (E : Env) (w : World) : Prop := ∀ a, Sat N E a → c.wp P Q a w
def WX (Q : Exit → Act → World → Prop) (e : Exit) (E : Env) (w : World) : Prop := ∀ a, Sat N E a → Q e a w
end

section lists
variable {P : Program} {N : Nat} {ops : Array Oper} {Q : Exit → Act → World → Prop} {l : List Oper} {o : Oper} {E : Env} {w w' : World} {d : Nat} {v : Value}

theorem WL.nil (k : WX N Q .normal E w) : WL P N ops Q [] E w := fun a h => k a h

theorem WL.val (hd : o.dst = some d) (hN : Nat.blt d N = true) (ho : opsOK E o = true) (hw : wantedE ops E o = some true)
    (hrun : (execOp E.ev o).run P w = .ok (.value v) w') (k : WL P N ops Q l ((d, v) :: E) w') : WL P N ops Q (o :: l) E w := by
  intro a h
  have hd' : d < N := Eq.mp Nat.blt_eq hN
  unfold wpList
  rw [if_pos (wantedE_spec h hw)]
  refine .inl ?_
  unfold Oper.wp
  rw [opsOK_exec h ho, hrun, Oper.upon_value, hd]
  exact k _ (h.put hd' v)

theorem WL.eff (hd : o.dst = none) (ho : opsOK E o = true) (hw : wantedE ops E o = some true)
    (hrun : (execOp E.ev o).run P w = .ok .skip w') (k : WL P N ops Q l E w') : WL P N ops Q (o :: l) E w := by
  intro a h
  unfold wpList
  rw [if_pos (wantedE_spec h hw)]
  refine .inl ?_
  unfold Oper.wp
  rw [opsOK_exec h ho, hrun, Oper.upon_skip, hd]
  exact k _ h

theorem WL.skip (hd : o.dst = some d) (hN : Nat.blt d N = true) (hw : wantedE ops E o = some false) (k : WL P N ops Q l ((d, undef) :: E) w) : WL P N ops Q (o :: l) E w := by
  intro a h
  have hd' : d < N := Eq.mp Nat.blt_eq hN
  unfold wpList
  rw [wantedE_spec h hw, hd]
  exact k _ (h.put hd' undef)

/-- an operation without a result is passed over -/
theorem WL.skip0 (hd : o.dst = none) (hw : wantedE ops E o = some false) (k : WL P N ops Q l E w) : WL P N ops Q (o :: l) E w := by
  intro a h
  unfold wpList
  rw [wantedE_spec h hw, hd]
  exact k _ h

theorem WL.call {f : FuncId} {args : Array Value} {R : Value → World → Prop} (hd : o.dst = some d) (hN : Nat.blt d N = true) (ho : opsOK E o = true) (hw : wantedE ops E o = some true)
    (hrun : (execOp E.ev o).run P w = .ok (.enter f args) w') (hc : Ret P f args w' R) (k : ∀ v w'', R v w'' → WL P N ops Q l ((d, v) :: E) w'') : WL P N ops Q (o :: l) E w := by
  intro a h
  have hd' : d < N := Eq.mp Nat.blt_eq hN
  unfold wpList
  rw [if_pos (wantedE_spec h hw)]
  refine .inl ?_
  unfold Oper.wp
  rw [opsOK_exec h ho, hrun, Oper.upon_enter]
  refine Calls.mono hc ?_
  rintro e w'' ⟨v, rfl, hR⟩
  simp only [hd]
  exact k v w'' hR _ (h.put hd' v)

theorem WL.call0 {f : FuncId} {args : Array Value} {R : Value → World → Prop} (hd : o.dst = none) (ho : opsOK E o = true) (hw : wantedE ops E o = some true)
    (hrun : (execOp E.ev o).run P w = .ok (.enter f args) w') (hc : Ret P f args w' R) (k : ∀ v w'', R v w'' → WL P N ops Q l E w'') : WL P N ops Q (o :: l) E w := by
  intro a h
  unfold wpList
  rw [if_pos (wantedE_spec h hw)]
  refine .inl ?_
  unfold Oper.wp
  rw [opsOK_exec h ho, hrun, Oper.upon_enter]
  refine Calls.mono hc ?_
  rintro e w'' ⟨v, rfl, hR⟩
  simp only [hd]
  exact k v w'' hR _ h

/-- a bool in a temporary: both ways -/
theorem WL.cases (t : Nat) {b : Bool} (hg : Env.get E t = some (.bool b)) (ht : b = true → WL P N ops Q l ((t, .bool true) :: E) w) (hf : b = false → WL P N ops Q l ((t, .bool false) :: E) w) :
    WL P N ops Q l E w := by
  intro a h
  cases b with
  | true => exact ht rfl a ⟨h.size, h.defers, fun s v hs => by
      simp only [Env.get] at hs
      split at hs
      · rename_i hb
        have := Nat.eq_of_beq_eq_true hb
        subst this
        injection hs with hs
        subst hs
        exact h.vals _ _ hg
      · exact h.vals s v hs⟩
  | false => exact hf rfl a ⟨h.size, h.defers, fun s v hs => by
      simp only [Env.get] at hs
      split at hs
      · rename_i hb
        have := Nat.eq_of_beq_eq_true hb
        subst this
        injection hs with hs
        subst hs
        exact h.vals _ _ hg
      · exact h.vals s v hs⟩

theorem WL.keep (F : Env) (hs : E.sub F) (k : WL P N ops Q l F w) : WL P N ops Q l E w := fun a h => k a (h.sub hs)
end lists

section code
variable {P : Program} {N : Nat} {Q : Exit → Act → World → Prop} {c x y : Code} {E : Env} {w : World}

theorem WC.keep (F : Env) (hs : E.sub F) (k : WC P N Q c F w) : WC P N Q c E w := fun a h => k a (h.sub hs)
theorem WX.keep {e : Exit} (F : Env) (hs : E.sub F) (k : WX N Q e F w) : WX N Q e E w := fun a h => k a (h.sub hs)
theorem WC.seq (k : WC P N (Exit.then (y.wp P Q) Q) x E w) : WC P N Q (.seq x y) E w := fun a h => wp_seq (k a h)
theorem WC.skip (k : WX N Q .normal E w) : WC P N Q .skip E w := fun a h => wp_skip (k a h)
theorem WC.label {n : Nat} (k : WX N Q .normal E w) : WC P N Q (.label n) E w := fun a h => wp_label (k a h)
theorem WC.ret (k : WX N Q .ret E w) : WC P N Q .ret E w := fun a h => wp_ret (k a h)
theorem WC.exit {id : Nat} (k : WX N Q (.exit id) E w) : WC P N Q (.exit id) E w := fun a h => wp_exit (k a h)
theorem WC.block {id : Nat} (k : WC P N (Exit.inBlock id Q) c E w) : WC P N Q (.block id c) E w := fun a h => wp_block (k a h)
theorem WC.region {id : Nat} {l : List Oper} (k : WL P N l.toArray Q l E w) : WC P N Q (.region id l.toArray false) E w := fun a h => wp_region_lit (k a h)
theorem WC.cond {t : Operand} {b : Bool} (ht : E.has t = true) (hb : E.ev t = .bool b) (k1 : b = true → WC P N Q x E w) (k2 : b = false → WC P N Q y E w) : WC P N Q (.cond t x y) E w :=
  fun a h => wp_cond_split (t := b) (by rw [h.eval ht, hb]) (fun e => k1 e a h) (fun e => k2 e a h)
theorem WC.cond_true {t : Operand} (ht : E.has t = true) (hb : E.ev t = .bool true) (k1 : WC P N Q x E w) : WC P N Q (.cond t x y) E w :=
  fun a h => wp_cond_true (by rw [h.eval ht, hb]) (k1 a h)
theorem WC.cond_false {t : Operand} (ht : E.has t = true) (hb : E.ev t = .bool false) (k1 : WC P N Q y E w) : WC P N Q (.cond t x y) E w :=
  fun a h => wp_cond_false (by rw [h.eval ht, hb]) (k1 a h)

theorem WX.next {k : Code} (h : WC P N Q k E w) : WX N (Exit.then (k.wp P Q) Q) .normal E w := fun a ha => h a ha
theorem WX.thenRet {K : Act → World → Prop} (h : WX N Q .ret E w) : WX N (Exit.then K Q) .ret E w := fun a ha => h a ha
theorem WX.thenExit {K : Act → World → Prop} {id : Nat} (h : WX N Q (.exit id) E w) : WX N (Exit.then K Q) (.exit id) E w := fun a ha => h a ha
theorem WX.blockNormal {id : Nat} (h : WX N Q .normal E w) : WX N (Exit.inBlock id Q) .normal E w := fun a ha => h a ha
theorem WX.blockRet {id : Nat} (h : WX N Q .ret E w) : WX N (Exit.inBlock id Q) .ret E w := fun a ha => h a ha
theorem WX.blockHere {id : Nat} (h : WX N Q .normal E w) : WX N (Exit.inBlock id Q) (.exit id) E w := fun a ha => by simp only [Exit.inBlock, if_true]; exact h a ha
theorem WX.blockPast {id j : Nat} (hj : Nat.beq j id = false) (h : WX N Q (.exit j) E w) : WX N (Exit.inBlock id Q) (.exit j) E w := fun a ha => by
  have : j ≠ id := fun e => by subst e; simp at hj
  simp only [Exit.inBlock, this, if_false]; exact h a ha

/-- a piece by what holds behind it: ways meet again -/
def Meets (N : Nat) (J : Env → World → Prop) : Act → World → Prop := fun a w => ∃ E, Sat N E a ∧ J E w

theorem WC.cut (J : Env → World → Prop) (k1 : WC P N (Exit.then (Meets N J) Q) x E w) (k2 : ∀ E w, J E w → WC P N Q y E w) : WC P N Q (.seq x y) E w :=
  fun a h => wp_seq (Code.wp_mono (fun e a w q => by
    cases e <;> first | exact q | (obtain ⟨E, hE, hJ⟩ := q; exact k2 E w hJ a hE)) (k1 a h))

theorem WX.meet {J : Env → World → Prop} (F : Env) (hs : E.sub F) (hJ : J F w) : WX N (Exit.then (Meets N J) Q) .normal E w := fun a h => ⟨F, h.sub hs, hJ⟩

theorem WC.loop (I : Nat → Env → World → Prop) (n : Nat) (h0 : I n E w)
    (hr : ∀ n E w, I n E w → WC P N (Exit.then (Meets N fun E' w' => ∃ m, m < n ∧ I m E' w') Q) c E w) : WC P N Q (.loop c) E w := by
  intro a h b k cs
  have key : ∀ n E w, I n E w → ∀ a, Sat N E a →
      ∃ e a' w', Q e a' w' ∧ Arrives P (lone (b.at a (.code c :: .inLoop c :: k)) cs w) b k cs e a' w' := by
    intro n
    induction n using Nat.strongRecOn with
    | _ n ih =>
      intro E w hI a ha
      obtain ⟨e, a₁, w₁, hq, harr⟩ := hr n E w hI a ha b (.inLoop c :: k) cs
      cases e with
      | normal =>
        obtain ⟨E', hE', m, hm, hI'⟩ := hq
        obtain ⟨e₂, a₂, w₂, hq₂, harr₂⟩ := ih m hm E' w₁ hI' a₁ hE'
        exact ⟨e₂, a₂, w₂, hq₂, .of_steps (Steps.trans harr (.one step_inLoop)) harr₂⟩
      | exit id => exact ⟨_, a₁, w₁, hq, .pass (x := .inLoop c) rfl (fun _ _ => .inl (by simp)) harr⟩
      | goto l => exact ⟨_, a₁, w₁, hq, .pass (x := .inLoop c) rfl (fun _ _ => .inl (by simp)) harr⟩
      | ret => exact ⟨_, a₁, w₁, hq, .pass (x := .inLoop c) rfl (fun _ _ => .inl (by simp)) harr⟩
      | panic ch => exact ⟨_, a₁, w₁, hq, .pass (x := .inLoop c) rfl (fun _ _ => .inl (by simp)) harr⟩
      | outgrown => exact ⟨_, a₁, w₁, hq, .pass (x := .inLoop c) rfl (fun _ _ => .inl (by simp)) harr⟩
  obtain ⟨e, a', w', hq, harr⟩ := key n E w h0 a h
  exact ⟨e, a', w', hq, .of_steps (.one step_loop) harr⟩
end code
end Go.Proofs.Ytncakfcafkfmfaa

/-
  A region that draws its order, walked in one order: what yields whatever the world is, and what yields wherever S holds, is taken first.
-/
namespace Go.Proofs.Ytncakfcafkfmfaa
open Go
set_option linter.unusedSimpArgs false
set_option linter.unusedVariables false

/-- What must be kept behind an operation: of kind 0 it leaves the world; of kind 1 it keeps S; else nothing is asked. -/
def Keeps (S : World → Prop) (k : Nat) (w w' : World) : Prop :=
  match k with
  | 0 => w' = w
  | 1 => S w'
  | _ => True

section
variable {P : Program} {ops : Array Oper} {Q : Exit → Act → World → Prop} {S : World → Prop} {kind : Nat → Nat}

/-- Whatever order is picked from here on, and what is asked is kept behind every operation. -/
def wpAnyM (P : Program) (ops : Array Oper) (Q : Exit → Act → World → Prop) (S : World → Prop) (kind : Nat → Nat) : Nat → Array Bool → Act → World → Prop
  | 0, listed, a, w => Region.ready .any ops listed = [] ∧ Q .normal a w
  | fuel + 1, listed, a, w =>
    (Region.ready .any ops listed = [] → Q .normal a w) ∧
    ∀ i ∈ Region.ready .any ops listed, wpOp P ops Q i (fun a' w' => Keeps S (kind i) w w' ∧ wpAnyM P ops Q S kind fuel (listed.setIfInBounds i true) a' w') a w

theorem wpAny_of_M : ∀ (fuel : Nat) (listed : Array Bool) (a : Act) (w : World), wpAnyM P ops Q S kind fuel listed a w → wpAny P .any ops Q fuel listed a w
  | 0, _, _, _, h => h
  | fuel + 1, _, _, _, h => ⟨h.1, fun i hi => wpOp_mono (fun a' w' h' => wpAny_of_M fuel _ a' w' h'.2) (h.2 i hi)⟩

/-- Listed operations have all that they wait for listed. -/
def Closed (ops : Array Oper) (listed : Array Bool) : Prop :=
  listed.size = ops.size ∧ ∀ j oj, ops[j]? = some oj → listed.getD j false = true → ∀ e ∈ oj.after, Region.binds .any e = true → listed.getD e.on false = true

theorem Closed.set {listed : Array Bool} {i : Nat} (h : Closed ops listed) (hi : i ∈ Region.ready .any ops listed) : Closed ops (listed.setIfInBounds i true) := by
  obtain ⟨_, oi, hoi, hall⟩ := mem_ready.1 hi
  refine ⟨by simp [h.1], fun j oj hj hl e he hb => ?_⟩
  by_cases hij : i = j
  · subst hij
    have : oj = oi := Option.some.inj (hj.symm.trans hoi)
    subst this
    exact getD_set_true (hall e he hb)
  · rw [getD_set_ne false hij] at hl
    exact getD_set_true (h.2 j oj hj hl e he hb)

theorem closed_start : Closed ops (Array.replicate ops.size false) := ⟨by simp, fun j oj _ hl => by
  exfalso
  by_cases h : j < ops.size <;> simp [h] at hl⟩

/-- Operation j waits for i, by however many steps. -/
def waitsB (ops : Array Oper) (i : Nat) : Nat → Nat → Bool
  | 0, _ => false
  | f + 1, j => match ops[j]? with
    | some oj => oj.after.any fun e => Region.binds .any e && (e.on == i || waitsB ops i f e.on)
    | none => false

theorem waits_listed {listed : Array Bool} (hc : Closed ops listed) {i : Nat} : ∀ f j, waitsB ops i f j = true → listed.getD j false = true → listed.getD i false = true
  | 0, _, h, _ => by simp [waitsB] at h
  | f + 1, j, h, hl => by
    simp only [waitsB] at h
    split at h
    · rename_i oj hj
      obtain ⟨e, he, hb⟩ := Array.any_eq_true'.1 h
      simp only [Bool.and_eq_true, Bool.or_eq_true, beq_iff_eq] at hb
      have h1 := hc.2 j oj hj hl e he hb.1
      rcases hb.2 with h2 | h2
      · rw [← h2]; exact h1
      · exact waits_listed hc f e.on h2 h1
    · cases h

theorem waits_ready {listed : Array Bool} (hc : Closed ops listed) {i j f : Nat} (h : waitsB ops i f j = true) (hr : j ∈ Region.ready .any ops listed) : listed.getD i false = true := by
  obtain ⟨_, oj, hoj, hall⟩ := mem_ready.1 hr
  cases f with
  | zero => simp [waitsB] at h
  | succ f =>
    simp only [waitsB, hoj] at h
    obtain ⟨e, he, hb⟩ := Array.any_eq_true'.1 h
    simp only [Bool.and_eq_true, Bool.or_eq_true, beq_iff_eq] at hb
    have h1 := hall e he hb.1
    rcases hb.2 with h2 | h2
    · rw [← h2]; exact h1
    · exact waits_listed hc f e.on h2 h1

theorem getD_false_of_true {listed : Array Bool} {i : Nat} (h : listed.getD i true = false) : listed.getD i false = false := by
  rcases Nat.lt_or_ge i listed.size with h' | h'
  · simp [h'] at h ⊢; exact h
  · simp [Array.getElem?_eq_none h'] at h

theorem keeps_zero {w : World} {k : Nat} (hk : k = 0) : Keeps S k w w := by subst hk; rfl

theorem wpAnyM_held {i : Nat} {oi : Oper} {v : Value} (hi : ops[i]? = some oi) (hsel : ∀ (j : Nat) (o : Oper) cs b, ops[j]? = some o → o.op ≠ .select cs b)
    (hQ : ∀ c a w, Q (.panic c) (a.put oi.dst v) w → Q (.panic c) a w) (hlate : ∀ j oj, ops[j]? = some oj → 1 < kind j → ∃ f, waitsB ops i f j = true) (hki : kind i = 0) :
    ∀ (fuel : Nat) (listed : Array Bool) (a : Act) (w : World), Closed ops listed →
      (∀ j oj, ops[j]? = some oj → j ≠ i → listed.getD j true = false → (∀ e ∈ oj.after, Region.binds .any e = true → e.on ≠ i) → oi.apart ops oj = true) →
      i ∈ Region.ready .any ops listed → YieldsIf P ops S oi v a → S w →
      wpAnyM P ops Q S kind fuel (listed.setIfInBounds i true) (a.put oi.dst v) w → wpAnyM P ops Q S kind (fuel + 1) listed a w := by
  intro fuel
  induction fuel with
  | zero =>
    intro listed a w hc _ hr hy hS H
    refine ⟨fun h => (by rw [h] at hr; cases hr), fun j hj => ?_⟩
    by_cases hji : j = i
    · subst hji; exact hy.wpOp hi hS ⟨keeps_zero hki, H⟩
    · have := ready_mono hj hji
      rw [H.1] at this
      cases this
  | succ fuel ih =>
    intro listed a w hc hfree hr hy hS H
    refine ⟨fun h => (by rw [h] at hr; cases hr), fun j hj => ?_⟩
    by_cases hji : j = i
    · subst hji; exact hy.wpOp hi hS ⟨keeps_zero hki, H⟩
    · have h1 := H.2 j (ready_mono hj hji)
      obtain ⟨hjun, oj, hoj, hall⟩ := mem_ready.1 hj
      have hun := getD_false_of_true (mem_ready.1 hr).1
      have hnl : ¬ 1 < kind j := fun hl => by
        obtain ⟨f, hf⟩ := hlate j oj hoj hl
        rw [waits_ready hc hf hj] at hun
        cases hun
      have hnot : ∀ e ∈ oj.after, Region.binds .any e = true → e.on ≠ i := fun e he hb heq => by
        have h1 := hall e he hb
        rw [heq, hun] at h1
        cases h1
      have h2 := wpOp_putIf hoj (hfree j oj hoj hji hjun hnot) (fun cs b => hsel i oi cs b hi) (fun cs b => hsel j oj cs b hoj) hQ hy h1
      have hfree' : ∀ k ok, ops[k]? = some ok → k ≠ i → (listed.setIfInBounds j true).getD k true = false →
          (∀ e ∈ ok.after, Region.binds .any e = true → e.on ≠ i) → oi.apart ops ok = true := fun k ok hk hki hun hno => by
        refine hfree k ok hk hki ?_ hno
        by_cases hjk : j = k
        · subst hjk; exact hjun
        · rw [getD_set_ne true hjk] at hun; exact hun
      refine wpOp_mono (fun a' w' h3 => ?_) h2
      have hS' : S w' := by
        have h4 := h3.2.1
        generalize hk : kind j = k at h4 hnl
        match k, h4 with
        | 0, h4 => simp only [Keeps] at h4; rw [h4]; exact hS
        | 1, h4 => exact h4
        | n + 2, _ => exact absurd (by omega) hnl
      refine ⟨h3.2.1, ih (listed.setIfInBounds j true) a' w' (hc.set hj) hfree' (ready_mono hr (Ne.symm hji)) h3.1 hS' ?_⟩
      rw [Array.setIfInBounds_comm _ _ hji]
      exact h3.2.2

/-- The same for what yields whatever the world is: S plays no part. -/
theorem wpAnyM_calm {i : Nat} {oi : Oper} {v : Value} (hi : ops[i]? = some oi) (hsel : ∀ (j : Nat) (o : Oper) cs b, ops[j]? = some o → o.op ≠ .select cs b)
    (hQ : ∀ c a w, Q (.panic c) (a.put oi.dst v) w → Q (.panic c) a w) (hki : kind i = 0) :
    ∀ (fuel : Nat) (listed : Array Bool) (a : Act) (w : World),
      (∀ j oj, ops[j]? = some oj → j ≠ i → listed.getD j true = false → (∀ e ∈ oj.after, Region.binds .any e = true → e.on ≠ i) → oi.apart ops oj = true) →
      i ∈ Region.ready .any ops listed → Yields P ops oi v a →
      wpAnyM P ops Q S kind fuel (listed.setIfInBounds i true) (a.put oi.dst v) w → wpAnyM P ops Q S kind (fuel + 1) listed a w := by
  intro fuel
  induction fuel with
  | zero =>
    intro listed a w _ hr hy H
    refine ⟨fun h => (by rw [h] at hr; cases hr), fun j hj => ?_⟩
    by_cases hji : j = i
    · subst hji; exact hy.wpOp hi ⟨keeps_zero hki, H⟩
    · have := ready_mono hj hji
      rw [H.1] at this
      cases this
  | succ fuel ih =>
    intro listed a w hfree hr hy H
    refine ⟨fun h => (by rw [h] at hr; cases hr), fun j hj => ?_⟩
    by_cases hji : j = i
    · subst hji; exact hy.wpOp hi ⟨keeps_zero hki, H⟩
    · have h1 := H.2 j (ready_mono hj hji)
      obtain ⟨hjun, oj, hoj, hall⟩ := mem_ready.1 hj
      have hun := getD_false_of_true (mem_ready.1 hr).1
      have hnot : ∀ e ∈ oj.after, Region.binds .any e = true → e.on ≠ i := fun e he hb heq => by
        have h1 := hall e he hb
        rw [heq, hun] at h1
        cases h1
      have h2 := wpOp_put hoj (hfree j oj hoj hji hjun hnot) (fun cs b => hsel i oi cs b hi) (fun cs b => hsel j oj cs b hoj) hQ hy h1
      have hfree' : ∀ k ok, ops[k]? = some ok → k ≠ i → (listed.setIfInBounds j true).getD k true = false →
          (∀ e ∈ ok.after, Region.binds .any e = true → e.on ≠ i) → oi.apart ops ok = true := fun k ok hk hki hun hno => by
        refine hfree k ok hk hki ?_ hno
        by_cases hjk : j = k
        · subst hjk; exact hjun
        · rw [getD_set_ne true hjk] at hun; exact hun
      refine wpOp_mono (fun a' w' h3 => ⟨h3.2.1, ih (listed.setIfInBounds j true) a' w' hfree' (ready_mono hr (Ne.symm hji)) h3.1 ?_⟩) h2
      rw [Array.setIfInBounds_comm _ _ hji]
      exact h3.2.2
end

/-- An order (a tree, where two operations with an effect may come up). -/
inductive Ord where
  | done
  | calm (i : Nat) (r : Ord)
  | held (i : Nat) (r : Ord)
  | one (i : Nat) (r : Ord)
  | two (i j : Nat) (r s : Ord)

section
variable (P : Program) (ops : Array Oper) (Q : Exit → Act → World → Prop) (S : World → Prop) (kind : Nat → Nat)

def wpOrd : Ord → Act → World → Prop
  | .done, a, w => Q .normal a w
  | .calm i r, a, w => ∃ o v, ops[i]? = some o ∧ Yields P ops o v a ∧ wpOrd r (a.put o.dst v) w
  | .held i r, a, w => S w ∧ ∃ o v, ops[i]? = some o ∧ YieldsIf P ops S o v a ∧ wpOrd r (a.put o.dst v) w
  | .one i r, a, w => wpOp P ops Q i (fun a' w' => Keeps S (kind i) w w' ∧ wpOrd r a' w') a w
  | .two i j r s, a, w => wpOp P ops Q i (fun a' w' => Keeps S (kind i) w w' ∧ wpOrd r a' w') a w ∧ wpOp P ops Q j (fun a' w' => Keeps S (kind j) w w' ∧ wpOrd s a' w') a w
end

def Ord.steps : Ord → Nat
  | .done => 0
  | .calm _ r => r.steps + 1
  | .held _ r => r.steps + 1
  | .one _ r => r.steps + 1
  | .two _ _ r _ => r.steps + 1

/-- Is it an order of the region? (n: so many are to come.) -/
def ordOK (ops : Array Oper) (kind : Nat → Nat) : Ord → Nat → Array Bool → Bool
  | .done, n, L => (n == 0) && (Region.ready .any ops L).isEmpty
  | .calm i r, n, L => (n != 0) && (kind i == 0) && (Region.ready .any ops L).contains i && Region.free .any ops L i && ordOK ops kind r (n - 1) (L.setIfInBounds i true)
  | .held i r, n, L => (n != 0) && (kind i == 0) && (Region.ready .any ops L).contains i && Region.free .any ops L i && ((List.range ops.size).all fun j => Nat.ble (kind j) 1 || waitsB ops i ops.size j) && ordOK ops kind r (n - 1) (L.setIfInBounds i true)
  | .one i r, n, L => (n != 0) && (Region.ready .any ops L == [i]) && ordOK ops kind r (n - 1) (L.setIfInBounds i true)
  | .two i j r s, n, L => (n != 0) && (Region.ready .any ops L == [i, j]) && ordOK ops kind r (n - 1) (L.setIfInBounds i true) && ordOK ops kind s (n - 1) (L.setIfInBounds j true)

theorem wpOrd_any {P : Program} {ops : Array Oper} {Q : Exit → Act → World → Prop} {S : World → Prop} {kind : Nat → Nat} (hs : Region.noSelect ops = true)
    (hQ : ∀ c a d v w, Q (.panic c) (Act.put a d v) w → Q (.panic c) a w) :
    ∀ (r : Ord) (n : Nat) (L : Array Bool) (a : Act) (w : World), Closed ops L → ordOK ops kind r n L = true → wpOrd P ops Q S kind r a w → wpAnyM P ops Q S kind n L a w
  | .done, n, L, a, w, _, hB, h => by
    simp only [ordOK, Bool.and_eq_true, beq_iff_eq, List.isEmpty_iff] at hB
    obtain ⟨rfl, h2⟩ := hB
    exact ⟨h2, h⟩
  | .calm i r, n, L, a, w, hc, hB, h => by
    simp only [ordOK, Bool.and_eq_true, bne_iff_ne, ne_eq, beq_iff_eq] at hB
    obtain ⟨⟨⟨⟨h0, h1⟩, h2⟩, h3⟩, h4⟩ := hB
    obtain ⟨m, rfl⟩ : ∃ m, n = m + 1 := ⟨n - 1, by omega⟩
    obtain ⟨o, v, ho, hy, hr⟩ := h
    have hi : i ∈ Region.ready .any ops L := by simpa using h2
    exact wpAnyM_calm ho (Region.noSelect_spec hs) (fun c a w => hQ c a _ _ w) h1 m L a w (Region.free_spec ho h3) hi hy
      (wpOrd_any hs hQ r m _ _ w (hc.set hi) (by simpa using h4) hr)
  | .held i r, n, L, a, w, hc, hB, h => by
    simp only [ordOK, Bool.and_eq_true, bne_iff_ne, ne_eq, beq_iff_eq] at hB
    obtain ⟨⟨⟨⟨⟨h0, h1⟩, h2⟩, h3⟩, h5⟩, h4⟩ := hB
    obtain ⟨m, rfl⟩ : ∃ m, n = m + 1 := ⟨n - 1, by omega⟩
    obtain ⟨hS, o, v, ho, hy, hr⟩ := h
    have hi : i ∈ Region.ready .any ops L := by simpa using h2
    refine wpAnyM_held ho (Region.noSelect_spec hs) (fun c a w => hQ c a _ _ w) ?_ h1 m L a w hc (Region.free_spec ho h3) hi hy hS
      (wpOrd_any hs hQ r m _ _ w (hc.set hi) (by simpa using h4) hr)
    intro j oj hoj hk
    have h6 := List.all_eq_true.1 h5 j (List.mem_range.2 (Array.getElem?_eq_some_iff.1 hoj).1)
    simp only [Bool.or_eq_true] at h6
    rcases h6 with h6 | h6
    · have := Nat.le_of_ble_eq_true h6; omega
    · exact ⟨_, h6⟩
  | .one i r, n, L, a, w, hc, hB, h => by
    simp only [ordOK, Bool.and_eq_true, bne_iff_ne, ne_eq, beq_iff_eq] at hB
    obtain ⟨⟨h0, h1⟩, h2⟩ := hB
    obtain ⟨m, rfl⟩ : ∃ m, n = m + 1 := ⟨n - 1, by omega⟩
    refine ⟨fun h3 => (by rw [h1] at h3; cases h3), fun j hj => ?_⟩
    have hj' := hj
    rw [h1] at hj'
    obtain rfl : j = i := by simpa using hj'
    exact wpOp_mono (fun a' w' h3 => ⟨h3.1, wpOrd_any hs hQ r m _ a' w' (hc.set hj) (by simpa using h2) h3.2⟩) h
  | .two i k r s, n, L, a, w, hc, hB, h => by
    simp only [ordOK, Bool.and_eq_true, bne_iff_ne, ne_eq, beq_iff_eq] at hB
    obtain ⟨⟨⟨h0, h1⟩, h2⟩, h3⟩ := hB
    obtain ⟨m, rfl⟩ : ∃ m, n = m + 1 := ⟨n - 1, by omega⟩
    refine ⟨fun h4 => (by rw [h1] at h4; cases h4), fun j hj => ?_⟩
    have hj' := hj
    rw [h1] at hj'
    have : j = i ∨ j = k := by simpa using hj'
    rcases this with rfl | rfl
    · exact wpOp_mono (fun a' w' h4 => ⟨h4.1, wpOrd_any hs hQ r m _ a' w' (hc.set hj) (by simpa using h2) h4.2⟩) h.1
    · exact wpOp_mono (fun a' w' h4 => ⟨h4.1, wpOrd_any hs hQ s m _ a' w' (hc.set hj) (by simpa using h3) h4.2⟩) h.2

/-- the whole check, for the kernel -/
def ordB (ops : Array Oper) (kind : Nat → Nat) (r : Ord) : Bool := Region.noSelect ops && ordOK ops kind r ops.size (Array.replicate ops.size false)

section
variable {P : Program} {N : Nat} {ops : Array Oper} {Q : Exit → Act → World → Prop} {S : World → Prop} {kind : Nat → Nat} {E : Env} {w w' : World} {o : Oper} {d i j : Nat} {v : Value} {r s : Ord}

def WN (P : Program) (N : Nat) (ops : Array Oper) (Q : Exit → Act → World → Prop) (S : World → Prop) (kind : Nat → Nat) (r : Ord) (E : Env) (w : World) : Prop := ∀ a, Sat N E a → wpOrd P ops Q S kind r a w

theorem WC.draws {id : Nat} {l : List Oper} (S : World → Prop) (kind : Nat → Nat) (r : Ord) (hm : P.follows .mixedOrders = true) (hB : ordB l.toArray kind r = true)
    (hQ : ∀ c a d v w, Q (.panic c) (Act.put a d v) w → Q (.panic c) a w) (k : WN P N l.toArray Q S kind r E w.drew) : WC P N Q (.region id l.toArray true) E w := by
  intro a h
  simp only [ordB, Bool.and_eq_true] at hB
  refine wp_region_any hm (wpAny_of_M (S := S) (kind := kind) _ _ _ _ ?_)
  exact wpOrd_any hB.1 hQ r _ _ _ _ closed_start hB.2 (k a h)

/-- what holds behind a panic asks nothing of the temporaries -/
def Deaf (Q : Exit → Act → World → Prop) : Prop := ∀ c a d v w, Q (.panic c) (Act.put a d v) w → Q (.panic c) a w
theorem Deaf.block {id : Nat} {Q : Exit → Act → World → Prop} (h : Deaf Q) : Deaf (Exit.inBlock id Q) := fun c a d v w hq => h c a d v w hq
theorem Deaf.then {X : Act → World → Prop} {Q : Exit → Act → World → Prop} (h : Deaf Q) : Deaf (Exit.then X Q) := fun c a d v w hq => h c a d v w hq
theorem Deaf.body {P : Program} {fn : Func} {R : Ending → World → Prop} : Deaf (bodyPost P fn R) := fun c a d v w hq => by cases d <;> exact hq

/-- the same, the world behind the draw under a name of its own -/
theorem WC.draws' {id : Nat} {l : List Oper} (S : World → World → Prop) (kind : Nat → Nat) (r : Ord) (hm : P.follows .mixedOrders = true) (hB : ordB l.toArray kind r = true)
    (hQ : Deaf Q)
    (k : ∀ w', w'.os = w.os ∧ w'.tape = w.tape ∧ w'.output = w.output ∧ w'.heap = w.heap → WN P N l.toArray Q (S w') kind r E w') : WC P N Q (.region id l.toArray true) E w :=
  WC.draws (S w.drew) kind r hm hB hQ (k _ ⟨rfl, rfl, rfl, rfl⟩)

theorem WN.done (k : WX N Q .normal E w) : WN P N ops Q S kind .done E w := fun a h => k a h

theorem WN.keep (F : Env) (hs : E.sub F) (k : WN P N ops Q S kind r F w) : WN P N ops Q S kind r E w := fun a h => k a (h.sub hs)

theorem WN.calm (o : Oper) (hi : ops[i]? = some o) (hd : o.dst = some d) (hN : Nat.blt d N = true) (ho : opsOK E o = true) (hw : wantedE ops E o = some true)
    (hrun : ∀ w, (execOp E.ev o).run P w = .ok (.value v) w) (k : WN P N ops Q S kind r ((d, v) :: E) w) : WN P N ops Q S kind (.calm i r) E w := by
  intro a h
  have hd' : d < N := Eq.mp Nat.blt_eq hN
  refine ⟨o, v, hi, .inl ⟨wantedE_spec h hw, fun w => by rw [opsOK_exec h ho]; exact hrun w⟩, ?_⟩
  rw [hd]
  exact k _ (h.put hd' v)

theorem WN.skip (o : Oper) (hi : ops[i]? = some o) (hd : o.dst = some d) (hN : Nat.blt d N = true) (hw : wantedE ops E o = some false)
    (k : WN P N ops Q S kind r ((d, undef) :: E) w) : WN P N ops Q S kind (.calm i r) E w := by
  intro a h
  have hd' : d < N := Eq.mp Nat.blt_eq hN
  refine ⟨o, undef, hi, .inr ⟨wantedE_spec h hw, rfl⟩, ?_⟩
  rw [hd]
  exact k _ (h.put hd' undef)

theorem WN.held (o : Oper) (hi : ops[i]? = some o) (hd : o.dst = some d) (hN : Nat.blt d N = true) (ho : opsOK E o = true) (hw : wantedE ops E o = some true) (hS : S w)
    (hrun : ∀ w, S w → (execOp E.ev o).run P w = .ok (.value v) w) (k : WN P N ops Q S kind r ((d, v) :: E) w) : WN P N ops Q S kind (.held i r) E w := by
  intro a h
  have hd' : d < N := Eq.mp Nat.blt_eq hN
  refine ⟨hS, o, v, hi, .inl ⟨wantedE_spec h hw, fun w hw => by rw [opsOK_exec h ho]; exact hrun w hw⟩, ?_⟩
  rw [hd]
  exact k _ (h.put hd' v)

theorem WN.heldSkip (o : Oper) (hi : ops[i]? = some o) (hd : o.dst = some d) (hN : Nat.blt d N = true) (hw : wantedE ops E o = some false) (hS : S w)
    (k : WN P N ops Q S kind r ((d, undef) :: E) w) : WN P N ops Q S kind (.held i r) E w := by
  intro a h
  have hd' : d < N := Eq.mp Nat.blt_eq hN
  refine ⟨hS, o, undef, hi, .inr ⟨wantedE_spec h hw, rfl⟩, ?_⟩
  rw [hd]
  exact k _ (h.put hd' undef)

theorem WN.cases (t : Nat) {b : Bool} (hg : Env.get E t = some (.bool b)) (ht : b = true → WN P N ops Q S kind r ((t, .bool true) :: E) w) (hf : b = false → WN P N ops Q S kind r ((t, .bool false) :: E) w) :
    WN P N ops Q S kind r E w := by
  intro a h
  cases b with
  | true => exact ht rfl a ⟨h.size, h.defers, fun s v hs => by
      simp only [Env.get] at hs
      split at hs
      · rename_i hb
        have := Nat.eq_of_beq_eq_true hb
        subst this
        injection hs with hs
        subst hs
        exact h.vals _ _ hg
      · exact h.vals s v hs⟩
  | false => exact hf rfl a ⟨h.size, h.defers, fun s v hs => by
      simp only [Env.get] at hs
      split at hs
      · rename_i hb
        have := Nat.eq_of_beq_eq_true hb
        subst this
        injection hs with hs
        subst hs
        exact h.vals _ _ hg
      · exact h.vals s v hs⟩

/-- one operation, as a step of its own -/
def WO (P : Program) (N : Nat) (ops : Array Oper) (Q : Exit → Act → World → Prop) (i : Nat) (K : Env → World → Prop) (E : Env) (w : World) : Prop :=
  ∀ (K' : Act → World → Prop), (∀ E' w' a', K E' w' → Sat N E' a' → K' a' w') → ∀ a, Sat N E a → wpOp P ops Q i K' a w

theorem WN.one (k : WO P N ops Q i (fun E' w' => Keeps S (kind i) w w' ∧ WN P N ops Q S kind r E' w') E w) : WN P N ops Q S kind (.one i r) E w :=
  fun a h => k _ (fun _ _ a' hK hs => ⟨hK.1, hK.2 a' hs⟩) a h

theorem WN.two (k1 : WO P N ops Q i (fun E' w' => Keeps S (kind i) w w' ∧ WN P N ops Q S kind r E' w') E w)
    (k2 : WO P N ops Q j (fun E' w' => Keeps S (kind j) w w' ∧ WN P N ops Q S kind s E' w') E w) : WN P N ops Q S kind (.two i j r s) E w :=
  fun a h => ⟨k1 _ (fun _ _ a' hK hs => ⟨hK.1, hK.2 a' hs⟩) a h, k2 _ (fun _ _ a' hK hs => ⟨hK.1, hK.2 a' hs⟩) a h⟩

variable {K : Env → World → Prop}

theorem WO.val (o : Oper) (hi : ops[i]? = some o) (hd : o.dst = some d) (hN : Nat.blt d N = true) (ho : opsOK E o = true) (hw : wantedE ops E o = some true)
    (hrun : (execOp E.ev o).run P w = .ok (.value v) w') (k : K ((d, v) :: E) w') : WO P N ops Q i K E w := by
  intro K' hK a h
  have hd' : d < N := Eq.mp Nat.blt_eq hN
  unfold wpOp
  simp only [hi]
  rw [if_pos (wantedE_spec h hw)]
  refine .inl ?_
  unfold Oper.wp
  rw [opsOK_exec h ho, hrun, Oper.upon_value, hd]
  exact hK _ _ _ k (h.put hd' v)

theorem WO.eff (o : Oper) (hi : ops[i]? = some o) (hd : o.dst = none) (ho : opsOK E o = true) (hw : wantedE ops E o = some true)
    (hrun : (execOp E.ev o).run P w = .ok .skip w') (k : K E w') : WO P N ops Q i K E w := by
  intro K' hK a h
  unfold wpOp
  simp only [hi]
  rw [if_pos (wantedE_spec h hw)]
  refine .inl ?_
  unfold Oper.wp
  rw [opsOK_exec h ho, hrun, Oper.upon_skip, hd]
  exact hK _ _ _ k h

theorem WO.skip (o : Oper) (hi : ops[i]? = some o) (hd : o.dst = some d) (hN : Nat.blt d N = true) (hw : wantedE ops E o = some false)
    (k : K ((d, undef) :: E) w) : WO P N ops Q i K E w := by
  intro K' hK a h
  have hd' : d < N := Eq.mp Nat.blt_eq hN
  unfold wpOp
  simp only [hi]
  rw [wantedE_spec h hw, hd]
  exact hK _ _ _ k (h.put hd' undef)

theorem WO.call (o : Oper) {f : FuncId} {args : Array Value} {R : Value → World → Prop} (hi : ops[i]? = some o) (hd : o.dst = some d) (hN : Nat.blt d N = true) (ho : opsOK E o = true) (hw : wantedE ops E o = some true)
    (hrun : (execOp E.ev o).run P w = .ok (.enter f args) w') (hc : Ret P f args w' R) (k : ∀ v w'', R v w'' → K ((d, v) :: E) w'') : WO P N ops Q i K E w := by
  intro K' hK a h
  have hd' : d < N := Eq.mp Nat.blt_eq hN
  unfold wpOp
  simp only [hi]
  rw [if_pos (wantedE_spec h hw)]
  refine .inl ?_
  unfold Oper.wp
  rw [opsOK_exec h ho, hrun, Oper.upon_enter]
  refine Calls.mono hc ?_
  rintro e w'' ⟨v, rfl, hR⟩
  simp only [hd]
  exact hK _ _ _ (k v w'' hR) (h.put hd' v)
end
end Go.Proofs.Ytncakfcafkfmfaa

/-
  The operations' runs, one law each: numbers, bools, addresses, loads and stores, slices, calls; entry and return.
-/
namespace Go.Proofs.Ytncakfcafkfmfaa
open Go
set_option linter.unusedSimpArgs false
set_option linter.unusedVariables false

theorem ev_t {E : Env} {t : Nat} {v : Value} (h : Env.get E t = some v) : Env.ev E (.tmp t) = v := by simp [Env.ev, h]
theorem ev_c {E : Env} {c : Value} : Env.ev E (.const c) = c := rfl
theorem ev_f {E : Env} {f : FuncId} : Env.ev E (.func f) = .func (.func f) #[] #[] := rfl
theorem ev_g {E : Env} {g : Nat} : Env.ev E (.global g) = .pointer (some ⟨g, 0, none⟩) := rfl

section
variable {P : Program} {ρ : Operand → Value} {o : Oper} {w : World} {x y z : Operand} {t u : TypeId} {k k' : IntKind} {a b : Int}

theorem r_move {v : Value} (ho : o.op = .move x) (hx : ρ x = v) : (execOp ρ o).run P w = .ok (.value v) w := by simp [execOp, ho, hx, go_sem]
theorem r_assign {v : Value} (ho : o.op = .assign x) (hx : ρ x = v) : (execOp ρ o).run P w = .ok (.value v) w := by simp [execOp, ho, hx, go_sem]
theorem r_pickT {v : Value} (ho : o.op = .pick x y z) (hx : ρ x = .bool true) (hy : ρ y = v) : (execOp ρ o).run P w = .ok (.value v) w := by simp [execOp, ho, hx, hy, asBool, go_sem]
theorem r_pickF {v : Value} (ho : o.op = .pick x y z) (hx : ρ x = .bool false) (hz : ρ z = v) : (execOp ρ o).run P w = .ok (.value v) w := by simp [execOp, ho, hx, hz, asBool, go_sem]

theorem r_add (ho : o.op = .binOp .add t x y u) (hx : ρ x = .int k a) (hy : ρ y = .int k b) : (execOp ρ o).run P w = .ok (.value (.int k (k.wrap (a + b)))) w := by
  simp [execOp, ho, hx, hy, binOp, Op.intArith, go_sem]
theorem r_sub (ho : o.op = .binOp .sub t x y u) (hx : ρ x = .int k a) (hy : ρ y = .int k b) : (execOp ρ o).run P w = .ok (.value (.int k (k.wrap (a - b)))) w := by
  simp [execOp, ho, hx, hy, binOp, Op.intArith, go_sem]
theorem r_mul (ho : o.op = .binOp .mul t x y u) (hx : ρ x = .int k a) (hy : ρ y = .int k b) : (execOp ρ o).run P w = .ok (.value (.int k (k.wrap (a * b)))) w := by
  simp [execOp, ho, hx, hy, binOp, Op.intArith, go_sem]

theorem wrap_i64_in {n : Int} (h1 : -9223372036854775808 ≤ n) (h2 : n ≤ 9223372036854775807) : IntKind.i64.wrap n = n := by
  simp only [IntKind.wrap, IntKind.signed, IntKind.bits, Bool.true_and]
  split <;> (rename_i h; simp only [ge_iff_le, decide_eq_true_eq] at h; omega)
theorem wrap_u64_in {n : Int} (h1 : 0 ≤ n) (h2 : n ≤ 18446744073709551615) : IntKind.u64.wrap n = n := by
  simp only [IntKind.wrap, IntKind.signed, IntKind.bits, Bool.false_and, Bool.false_eq_true, if_false]
  omega
theorem wrap_u32_in {n : Int} (h1 : 0 ≤ n) (h2 : n ≤ 4294967295) : IntKind.u32.wrap n = n := by
  simp only [IntKind.wrap, IntKind.signed, IntKind.bits, Bool.false_and, Bool.false_eq_true, if_false]
  omega
theorem wrap_u8_in {n : Int} (h1 : 0 ≤ n) (h2 : n ≤ 255) : IntKind.u8.wrap n = n := by
  simp only [IntKind.wrap, IntKind.signed, IntKind.bits, Bool.false_and, Bool.false_eq_true, if_false]
  omega

/-- numbers that the kind holds -/
def inK : IntKind → Int → Prop
  | .i64, n => -9223372036854775808 ≤ n ∧ n ≤ 9223372036854775807
  | .u64, n => 0 ≤ n ∧ n ≤ 18446744073709551615
  | .i32, n => -2147483648 ≤ n ∧ n ≤ 2147483647
  | .u32, n => 0 ≤ n ∧ n ≤ 4294967295
  | .i16, n => -32768 ≤ n ∧ n ≤ 32767
  | .u16, n => 0 ≤ n ∧ n ≤ 65535
  | .i8, n => -128 ≤ n ∧ n ≤ 127
  | .u8, n => 0 ≤ n ∧ n ≤ 255
theorem wrap_in {n : Int} (h : inK k n) : k.wrap n = n := by
  cases k <;> simp only [inK] at h <;> simp only [IntKind.wrap, IntKind.signed, IntKind.bits, Bool.true_and, Bool.false_and, Bool.false_eq_true, if_false] <;>
    first
    | omega
    | (split <;> (rename_i h'; simp only [ge_iff_le, decide_eq_true_eq] at h'; omega))

theorem r_addN (ho : o.op = .binOp .add t x y u) (hx : ρ x = .int k a) (hy : ρ y = .int k b) (h : inK k (a + b)) : (execOp ρ o).run P w = .ok (.value (.int k (a + b))) w := by
  rw [r_add ho hx hy, wrap_in h]
theorem r_subN (ho : o.op = .binOp .sub t x y u) (hx : ρ x = .int k a) (hy : ρ y = .int k b) (h : inK k (a - b)) : (execOp ρ o).run P w = .ok (.value (.int k (a - b))) w := by
  rw [r_sub ho hx hy, wrap_in h]
theorem r_mulN (ho : o.op = .binOp .mul t x y u) (hx : ρ x = .int k a) (hy : ρ y = .int k b) (h : inK k (a * b)) : (execOp ρ o).run P w = .ok (.value (.int k (a * b))) w := by
  rw [r_mul ho hx hy, wrap_in h]

theorem r_lss (ho : o.op = .binOp .lss t x y u) (hx : ρ x = .int k a) (hy : ρ y = .int k b) : (execOp ρ o).run P w = .ok (.value (.bool (decide (a < b)))) w := by
  simp [execOp, ho, hx, hy, binOp, Op.intCmp, go_sem]
theorem r_leq (ho : o.op = .binOp .leq t x y u) (hx : ρ x = .int k a) (hy : ρ y = .int k b) : (execOp ρ o).run P w = .ok (.value (.bool (decide (a ≤ b)))) w := by
  simp [execOp, ho, hx, hy, binOp, Op.intCmp, go_sem]
theorem r_gtr (ho : o.op = .binOp .gtr t x y u) (hx : ρ x = .int k a) (hy : ρ y = .int k b) : (execOp ρ o).run P w = .ok (.value (.bool (decide (b < a)))) w := by
  simp [execOp, ho, hx, hy, binOp, Op.intCmp, go_sem]
theorem r_geq (ho : o.op = .binOp .geq t x y u) (hx : ρ x = .int k a) (hy : ρ y = .int k b) : (execOp ρ o).run P w = .ok (.value (.bool (decide (b ≤ a)))) w := by
  simp [execOp, ho, hx, hy, binOp, Op.intCmp, go_sem]
theorem r_eql (ho : o.op = .binOp .eql t x y u) (hx : ρ x = .int k a) (hy : ρ y = .int k b) : (execOp ρ o).run P w = .ok (.value (.bool (decide (a = b)))) w := by
  simp [execOp, ho, hx, hy, binOp, Op.intCmp, go_sem]; rfl
theorem r_neq (ho : o.op = .binOp .neq t x y u) (hx : ρ x = .int k a) (hy : ρ y = .int k b) : (execOp ρ o).run P w = .ok (.value (.bool (decide (a ≠ b)))) w := by
  simp [execOp, ho, hx, hy, binOp, Op.intCmp, go_sem]; rfl

theorem r_and (ho : o.op = .binOp .and t x y u) (hx : ρ x = .int k a) (hy : ρ y = .int k b) : (execOp ρ o).run P w = .ok (.value (.int k (bits .and k a b))) w := by
  simp [execOp, ho, hx, hy, binOp, go_sem]
theorem r_or (ho : o.op = .binOp .or t x y u) (hx : ρ x = .int k a) (hy : ρ y = .int k b) : (execOp ρ o).run P w = .ok (.value (.int k (bits .or k a b))) w := by
  simp [execOp, ho, hx, hy, binOp, go_sem]
theorem r_xor (ho : o.op = .binOp .xor t x y u) (hx : ρ x = .int k a) (hy : ρ y = .int k b) : (execOp ρ o).run P w = .ok (.value (.int k (bits .xor k a b))) w := by
  simp [execOp, ho, hx, hy, binOp, go_sem]
theorem r_andNot (ho : o.op = .binOp .andNot t x y u) (hx : ρ x = .int k a) (hy : ρ y = .int k b) : (execOp ρ o).run P w = .ok (.value (.int k (bits .andNot k a b))) w := by
  simp [execOp, ho, hx, hy, binOp, go_sem]
theorem r_quo (ho : o.op = .binOp .quo t x y u) (hx : ρ x = .int k a) (hy : ρ y = .int k b) (hb : b ≠ 0) : (execOp ρ o).run P w = .ok (.value (.int k (k.wrap (a.tdiv b)))) w := by
  simp [execOp, ho, hx, hy, binOp, hb, go_sem]
theorem r_rem (ho : o.op = .binOp .rem t x y u) (hx : ρ x = .int k a) (hy : ρ y = .int k b) (hb : b ≠ 0) : (execOp ρ o).run P w = .ok (.value (.int k (a.tmod b))) w := by
  simp [execOp, ho, hx, hy, binOp, hb, go_sem]
theorem r_shl (ho : o.op = .binOp .shl t x y u) (hx : ρ x = .int k a) (hy : ρ y = .int k' b) (h0 : 0 ≤ b) (h1 : b ≤ k.bits) : (execOp ρ o).run P w = .ok (.value (.int k (k.wrap (a * 2 ^ b.toNat)))) w := by
  simp [execOp, ho, hx, hy, binOp, shift_shl k k' a b h0 h1, go_sem]
theorem r_shr (ho : o.op = .binOp .shr t x y u) (hx : ρ x = .int k a) (hy : ρ y = .int k' b) (h0 : 0 ≤ b) (h1 : b ≤ k.bits) : (execOp ρ o).run P w = .ok (.value (.int k (a / 2 ^ b.toNat))) w := by
  simp [execOp, ho, hx, hy, binOp, shift_shr k k' a b h0 h1, go_sem]

theorem r_not {c : Bool} (ho : o.op = .unOp .not t x) (hx : ρ x = .bool c) : (execOp ρ o).run P w = .ok (.value (.bool (!c))) w := by
  simp [execOp, ho, hx, Op.unary, go_sem]
theorem r_neg (ho : o.op = .unOp .neg t x) (hx : ρ x = .int k a) : (execOp ρ o).run P w = .ok (.value (.int k (k.wrap (-a)))) w := by
  simp [execOp, ho, hx, Op.unary, go_sem]

theorem r_conv (ho : o.op = .convert t u x) (hx : ρ x = .int k' a) (hs : (P.underlying t).isSome = true) (hd : P.underlying u = some (.int k)) : (execOp ρ o).run P w = .ok (.value (.int k (k.wrap a))) w := by
  obtain ⟨d, hd'⟩ := Option.isSome_iff_exists.1 hs
  simp [execOp, ho, hx, convert, run_underlying hd', run_underlying hd, Conv.intToInt, go_sem]
theorem r_convN (ho : o.op = .convert t u x) (hx : ρ x = .int k' a) (hs : (P.underlying t).isSome = true) (hd : P.underlying u = some (.int k)) (h : inK k a) : (execOp ρ o).run P w = .ok (.value (.int k a)) w := by
  rw [r_conv ho hx hs hd, wrap_in h]

theorem r_nilCheck {p : Addr} (ho : o.op = .nilCheck x) (hx : ρ x = .pointer (some p)) : (execOp ρ o).run P w = .ok (.value (.pointer (some p))) w := by
  simp [execOp, ho, hx, go_sem]
theorem r_eqlPtrNil {p : Option Addr} (ho : o.op = .binOp .eql t x y u) (hx : ρ x = .pointer p) (hy : ρ y = .pointer none) (h : P.underlying t = some (.pointer (P.pointee t))) : (execOp ρ o).run P w = .ok (.value (.bool p.isNone)) w := by
  simp [execOp, ho, hx, hy, run_eql_pointer_nil (P := P) w t p h, go_sem]
theorem r_neqPtrNil {p : Option Addr} (ho : o.op = .binOp .neq t x y u) (hx : ρ x = .pointer p) (hy : ρ y = .pointer none) (h : P.underlying t = some (.pointer (P.pointee t))) : (execOp ρ o).run P w = .ok (.value (.bool p.isSome)) w := by
  simp [execOp, ho, hx, hy, run_neq_pointer_nil (P := P) w t p h, go_sem]
end
end Go.Proofs.Ytncakfcafkfmfaa

/-
  Memory: blocks known whole, what a step may change, rows that are read, rows that are owned; the operations on them.
-/
namespace Go.Proofs.Ytncakfcafkfmfaa
open Go
set_option linter.unusedSimpArgs false
set_option linter.unusedVariables false

/-- A block known whole; nothing of it is frozen. -/
def Blk (w : World) (b : Nat) (cs : Array Value) (T : TypeId) : Prop := w.heap[b]? = some (.cells cs T (0, 0))

/-- Of the blocks that were there only those of S may have changed. -/
structure Upd (S : Nat → Prop) (w w' : World) : Prop where
  os : w'.os = w.os
  tape : w'.tape = w.tape
  output : w'.output = w.output
  size : w.heap.size ≤ w'.heap.size
  block : ∀ k, k < w.heap.size → ¬ S k → w'.heap[k]? = w.heap[k]?

/-- No block. -/
def No : Nat → Prop := fun _ => False
/-- One block. -/
def At (b : Nat) : Nat → Prop := fun k => k = b
/-- Blocks from B on. -/
def From (B : Nat) : Nat → Prop := fun k => B ≤ k

theorem Upd.refl (S : Nat → Prop) (w : World) : Upd S w w := ⟨rfl, rfl, rfl, Nat.le_refl _, fun _ _ _ => rfl⟩
theorem Upd.mono {S S' : Nat → Prop} {w w' : World} (h : Upd S w w') (hs : ∀ k, k < w.heap.size → S k → S' k) : Upd S' w w' :=
  ⟨h.os, h.tape, h.output, h.size, fun k hk hn => h.block k hk fun hS => hn (hs k hk hS)⟩
theorem Upd.trans {S S' : Nat → Prop} {w w1 w2 : World} (h : Upd S w w1) (h' : Upd S' w1 w2) (hs : ∀ k, k < w.heap.size → S' k → S k) : Upd S w w2 :=
  ⟨h'.os.trans h.os, h'.tape.trans h.tape, h'.output.trans h.output, Nat.le_trans h.size h'.size, fun k hk hn =>
    (h'.block k (Nat.lt_of_lt_of_le hk h.size) fun hS => hn (hs k hk hS)).trans (h.block k hk hn)⟩
theorem Upd.trans_same {S : Nat → Prop} {w w1 w2 : World} (h : Upd S w w1) (h' : Upd S w1 w2) : Upd S w w2 := h.trans h' fun _ _ h => h
theorem Upd.no {S : Nat → Prop} {w w' : World} (h : Upd No w w') : Upd S w w' := h.mono fun _ _ h => h.elim
theorem Upd.drew (S : Nat → Prop) (w : World) : Upd S w w.drew := ⟨rfl, rfl, rfl, Nat.le_refl _, fun _ _ _ => rfl⟩
theorem Upd.alloc (S : Nat → Prop) (w : World) (o : Obj) : Upd S w (w.alloc o) := ⟨rfl, rfl, rfl, by simp, fun k hk _ => Go.RowKit.Below.heap_alloc w o k hk⟩
theorem Upd.setCell (w : World) (p : Addr) (v : Value) : Upd (At p.block) w (w.setCell p v) :=
  ⟨rfl, rfl, rfl, by simp, fun k _ hn => Go.RowKit.Below.heap_setCell w p v k hn⟩
theorem Upd.below {B : Nat} {S : Nat → Prop} {w w' : World} (h : Upd S w w') (hB : B ≤ w.heap.size) (hs : ∀ k, S k → B ≤ k) : Go.RowKit.Below B w w' :=
  ⟨h.os, h.tape, h.output, h.size, fun k hk => h.block k (by omega) fun hS => by have := hs k hS; omega⟩

theorem Upd.of_draw {w w' : World} (h : w'.os = w.os ∧ w'.tape = w.tape ∧ w'.output = w.output ∧ w'.heap = w.heap) : Upd No w w' :=
  ⟨h.1, h.2.1, h.2.2.1, by rw [h.2.2.2]; exact Nat.le_refl _, fun k _ _ => by rw [h.2.2.2]⟩

theorem cell?_of_eq {w w' : World} {b : Nat} (h : w'.heap[b]? = w.heap[b]?) (o : Nat) (s : Option Nat) : w'.cell? ⟨b, o, s⟩ = w.cell? ⟨b, o, s⟩ := by simp [World.cell?, h]

theorem Blk.cell {w : World} {b : Nat} {cs : Array Value} {T : TypeId} (h : Blk w b cs T) {o : Nat} {v : Value} (hv : cs[o]? = some v) : w.cell? ⟨b, o, none⟩ = some v := by
  unfold Blk at h
  simp [World.cell?, h, hv]
theorem Blk.free {w : World} {b : Nat} {cs : Array Value} {T : TypeId} (h : Blk w b cs T) (o : Nat) : w.frozen? ⟨b, o, none⟩ = false := by
  unfold Blk at h
  simp [World.frozen?, h]
theorem Blk.lt {w : World} {b : Nat} {cs : Array Value} {T : TypeId} (h : Blk w b cs T) : b < w.heap.size := by
  rcases Nat.lt_or_ge b w.heap.size with h' | h'
  · exact h'
  · unfold Blk at h; simp [Array.getElem?_eq_none h'] at h
theorem Blk.upd {S : Nat → Prop} {w w' : World} {b : Nat} {cs : Array Value} {T : TypeId} (h : Blk w b cs T) (hu : Upd S w w') (hn : ¬ S b) : Blk w' b cs T :=
  (hu.block b h.lt hn).trans h
theorem Blk.alloc_new (w : World) (cs : Array Value) (T : TypeId) : Blk (w.alloc (.cells cs T)) w.heap.size cs T := heap_alloc_new w _
theorem Blk.drew {w : World} {b : Nat} {cs : Array Value} {T : TypeId} (h : Blk w b cs T) : Blk w.drew b cs T := h
theorem Blk.set {w : World} {b : Nat} {cs : Array Value} {T : TypeId} (h : Blk w b cs T) (o : Nat) (v : Value) : Blk (w.setCell ⟨b, o, none⟩ v) b (cs.setIfInBounds o v) T := by
  have hlt := h.lt
  unfold Blk at h ⊢
  have h' : w.heap[b] = .cells cs T (0, 0) := by simpa [Array.getElem?_eq_getElem hlt] using h
  show (w.heap.modify b _)[b]? = _
  rw [Array.getElem?_eq_getElem (by simpa using hlt), Array.getElem_modify_self, h']
  rfl
theorem Blk.ne {w : World} {b b' : Nat} {cs cs' : Array Value} {T T' : TypeId} (h : Blk w b cs T) (h' : Blk w b' cs' T') (ht : T ≠ T') : b ≠ b' := by
  rintro rfl
  unfold Blk at h h'
  rw [h] at h'
  injection h' with h'
  injection h' with _ h'
  exact ht h'

/-- A type whose values take one cell. -/
def flatB (P : Program) (t : TypeId) : Bool := match P.underlying t with
  | some (.struct _) | some (.array _ _) | none => false
  | _ => true
def aggB (P : Program) (t : TypeId) : Bool := match P.underlying t with
  | some (.struct _) | some (.array _ _) => true
  | _ => false
def sizeIs (P : Program) (t : TypeId) (n : Nat) : Bool := match P.info? t with
  | some i => i.size == n
  | none => false
/-- the offset of a field whose type takes some cells -/
def fieldOff (P : Program) (s : TypeId) (f : Nat) : Option Nat := match P.underlying s with
  | some (.struct fs) => match fs[f]? with
    | some x => match P.info? x.type with
      | some i => if i.size = 0 then none else some x.offset
      | none => none
    | none => none
  | _ => none
def sliceElem (P : Program) (t : TypeId) : Option TypeId := match P.underlying t with
  | some (.slice e) => some e
  | _ => none

section
variable {P : Program} {ρ : Operand → Value} {o : Oper} {w : World} {x y z : Operand} {t u e : TypeId} {k k' : IntKind} {a b : Int}

theorem run_isAgg_flat (h : flatB P t = true) : (isAgg t).run P w = .ok false w := by
  unfold flatB at h
  cases hu : P.underlying t with
  | none => simp [hu] at h
  | some d => rw [hu] at h; cases d <;> simp at h <;> simp [isAgg, run_underlying hu]
theorem run_isAgg_agg (h : aggB P t = true) : (isAgg t).run P w = .ok true w := by
  unfold aggB at h
  cases hu : P.underlying t with
  | none => simp [hu] at h
  | some d => rw [hu] at h; cases d <;> simp at h <;> simp [isAgg, run_underlying hu]
theorem run_sizeOf {n : Nat} (h : sizeIs P t n = true) : (sizeOf t).run P w = .ok n w := by
  unfold sizeIs at h
  cases hi : P.info? t with
  | none => simp [hi] at h
  | some i => rw [hi] at h; simp at h; simp [sizeOf, typeInfo, hi, h]

theorem run_load_cell {p : Addr} {v : Value} (h : w.cell? p = some v) : (load p).run P w = .ok v w := by simp [h]

theorem r_load {p : Addr} {v : Value} (ho : o.op = .load t x) (hx : ρ x = .pointer (some p)) (ht : flatB P t = true) (hc : w.cell? p = some v) : (execOp ρ o).run P w = .ok (.value v) w := by
  simp [execOp, ho, hx, Instr.loadAt, Instr.sureAddr, loadVar, run_isAgg_flat ht, hc, go_sem]

/-- the cells from an address on -/
def CellsAt (w : World) (p : Addr) (vs : List Value) : Prop := ∀ j v, vs[j]? = some v → w.cell? (p.add j) = some v

theorem r_loadAgg {p : Addr} {vs : List Value} (ho : o.op = .load t x) (hx : ρ x = .pointer (some p)) (ht : aggB P t = true) (hn : sizeIs P t vs.length = true) (hc : CellsAt w p vs) : (execOp ρ o).run P w = .ok (.value (.agg vs.toArray)) w := by
  have hl := run_loadCells_list (P := P) w p vs hc
  simp only [loadCells] at hl
  simp [execOp, ho, hx, Instr.loadAt, Instr.sureAddr, loadVar, run_isAgg_agg ht, run_sizeOf hn, hl, go_sem]

theorem r_field {p : Addr} {f n : Nat} (ho : o.op = .fieldAddr t x f) (hx : ρ x = .pointer (some p)) (hf : fieldOff P t f = some n) : (execOp ρ o).run P w = .ok (.value (.pointer (some (p.add n)))) w := by
  unfold fieldOff at hf
  cases hu : P.underlying t with
  | none => simp [hu] at hf
  | some d =>
    rw [hu] at hf
    cases d <;> simp at hf
    rename_i fs
    cases hg : fs[f]? with
    | none => simp [hg] at hf
    | some q =>
      simp [hg] at hf
      cases hi : P.info? q.type with
      | none => simp [hi] at hf
      | some i =>
        simp [hi] at hf
        obtain ⟨h0, h1⟩ := hf
        simp [execOp, ho, hx, Instr.fieldAt, run_underlying hu, hg, Instr.sureAddr, fieldPlace, sizeOf, typeInfo, hi, h0, h1, go_sem]

theorem r_fieldAt {g off f n : Nat} (ho : o.op = .fieldAddr t x f) (hx : ρ x = .pointer (some ⟨g, off, none⟩)) (hf : fieldOff P t f = some n) : (execOp ρ o).run P w = .ok (.value (.pointer (some ⟨g, off + n, none⟩))) w := by
  rw [r_field ho hx hf, Addr.add_lit]
theorem r_field0 {g f n : Nat} (ho : o.op = .fieldAddr t x f) (hx : ρ x = .pointer (some ⟨g, 0, none⟩)) (hf : fieldOff P t f = some n) : (execOp ρ o).run P w = .ok (.value (.pointer (some ⟨g, n, none⟩))) w := by
  rw [r_field ho hx hf, Addr.add_lit, Nat.zero_add]

theorem r_indexAddr {g off len cap sz : Nat} {i : Int} (ho : o.op = .indexAddr t x y) (hx : ρ x = .slice (some ⟨g, off, none⟩) len cap) (hy : ρ y = .int k i) (hu : sliceElem P t = some e) (hz : sizeIs P e sz = true) (h0 : 0 ≤ i) (h1 : i < len) :
    (execOp ρ o).run P w = .ok (.value (.pointer (some ⟨g, off + i.toNat * sz, none⟩))) w := by
  unfold sliceElem at hu
  cases hd : P.underlying t with
  | none => simp [hd] at hu
  | some d =>
    rw [hd] at hu
    cases d <;> simp at hu
    subst hu
    have hadd : (⟨g, off, none⟩ : Addr).add (i.toNat * sz) = ⟨g, off + i.toNat * sz, none⟩ := Addr.add_lit _ _ _
    simp [execOp, ho, hx, hy, Instr.indexAt, run_underlying hd, asIntOf, h0, h1, run_sizeOf hz, hadd, go_sem]

theorem r_lenSlice {A : Option Addr} {len cap : Nat} {ts : Array TypeId} (ho : o.op = .call { callee := .builtin .len, args := #[x], argTypes := #[t] }) (hx : ρ x = .slice A len cap) (hu : sliceElem P t = some e) :
    (execOp ρ o).run P w = .ok (.value (.int .i64 len)) w := by
  unfold sliceElem at hu
  cases hd : P.underlying t with
  | none => simp [hd] at hu
  | some d =>
    rw [hd] at hu
    cases d <;> simp at hu
    simp [execOp, ho, resolve, invoke, builtin, hx, Builtin.len_, run_underlying hd, goInt]

theorem r_lenString {s : ByteArray} (ho : o.op = .call { callee := .builtin .len, args := #[x], argTypes := #[t] }) (hx : ρ x = .string s) (hu : P.underlying t = some .string) :
    (execOp ρ o).run P w = .ok (.value (.int .i64 s.size)) w := by
  simp [execOp, ho, resolve, invoke, builtin, hx, Builtin.len_, run_underlying hu, goInt]

theorem run_store_cell {p : Addr} {v u : Value} (hc : w.cell? p = some u) (hf : w.frozen? p = false) (h1 : v.oneCell' = true) : (store p v).run P w = .ok () (w.setCell p v) := by
  rw [run_store P w p v .plain h1]
  simp [hc, hf]

theorem oneCell_cells {v : Value} (h : v.oneCell' = true) : v.cells = #[v] := by cases v <;> first | rfl | simp [Value.oneCell'] at h

theorem r_store {g off : Nat} {v : Value} {cs : Array Value} {T : TypeId} (ho : o.op = .store t x y) (hx : ρ x = .pointer (some ⟨g, off, none⟩)) (hy : ρ y = v) (hz : sizeIs P t 1 = true) (hb : Blk w g cs T) (hlt : Nat.blt off cs.size = true) (h1 : v.oneCell' = true) :
    (execOp ρ o).run P w = .ok .skip (w.setCell ⟨g, off, none⟩ v) := by
  have hlt' : off < cs.size := Eq.mp Nat.blt_eq hlt
  have hc := hb.cell (o := off) (v := cs[off]) (by simp [hlt'])
  have hf := hb.free off
  have hst := run_store_cell (P := P) hc hf h1
  cases v <;> first
    | (simp [Value.oneCell'] at h1; done)
    | (simp [execOp, ho, hx, hy, Instr.storeAt, Instr.sureAddr, storeVar, run_sizeOf hz, storeCells, Addr.add_zero', hc, hf, go_sem]; done)
    | (simp [execOp, ho, hx, hy, Instr.storeAt, Instr.sureAddr, storeVar, run_sizeOf hz, storeCells, Addr.add_zero', hst, go_sem]; done)

/-- A call of a Go function with a body. -/
def hasBody (P : Program) (f : FuncId) : Bool := match P.funcs[f]? with
  | some fn => !(fn.name == "runtime.NumGoroutine") && fn.body.isSome
  | none => false
theorem run_callFunc_body {f : FuncId} (h : hasBody P f = true) (args : Array Value) : (callFunc f args).run P w = .ok (.enter f args) w := by
  unfold hasBody at h
  cases hf : P.funcs[f]? with
  | none => simp [hf] at h
  | some fn =>
    rw [hf] at h
    simp only [Bool.and_eq_true, Bool.not_eq_true', Option.isSome_iff_exists] at h
    obtain ⟨h1, c, h2⟩ := h
    simp [callFunc, hf, h2] at h1 ⊢
    simp [h1]

theorem r_call {f : FuncId} {xs : Array Operand} {ts : Array TypeId} {args : Array Value} (ho : o.op = .call { callee := .value (.func f), args := xs, argTypes := ts }) (hf : hasBody P f = true) (hρ : ρ (.func f) = .func (.func f) #[] #[]) (hargs : xs.map ρ = args) :
    (execOp ρ o).run P w = .ok (.enter f args) w := by
  simp [execOp, ho, resolve, Deferred.ofValue, hρ, invoke, hargs, run_callFunc_body hf]
end
end Go.Proofs.Ytncakfcafkfmfaa

/-
  One operation as a step that goes on behind a continuation; rows that are owned and rows that are read; append, copy, make, slicing.
-/
namespace Go.Proofs.Ytncakfcafkfmfaa
open Go
set_option linter.unusedSimpArgs false
set_option linter.unusedVariables false

/-- One operation; K: what is to hold behind it. -/
def SO (P : Program) (N : Nat) (ops : Array Oper) (Q : Exit → Act → World → Prop) (o : Oper) (K : Env → World → Prop) (E : Env) (w : World) : Prop :=
  ∀ K' : Act → World → Prop, (∀ E' w' a', K E' w' → Sat N E' a' → K' a' w') → ∀ a, Sat N E a →
    if Region.wanted o (yielded ops a.tmps) then o.wp P a w K' Q ∨ (o.asks P a w ∧ LetsOut Q) else K' (a.put o.dst undef) w

section
variable {P : Program} {N : Nat} {ops : Array Oper} {Q : Exit → Act → World → Prop} {S : World → Prop} {kind : Nat → Nat} {l : List Oper} {o : Oper} {E : Env} {w w' : World} {d i : Nat} {v : Value} {r : Ord} {K : Env → World → Prop}

theorem WL.cons (h : SO P N ops Q o (WL P N ops Q l) E w) : WL P N ops Q (o :: l) E w := fun a ha => by
  unfold wpList
  exact h (wpList P ops Q l) (fun E' w' a' hK hs => hK a' hs) a ha

theorem WN.step (o : Oper) (hi : ops[i]? = some o) (h : SO P N ops Q o (fun E' w' => Keeps S (kind i) w w' ∧ WN P N ops Q S kind r E' w') E w) : WN P N ops Q S kind (.one i r) E w :=
  WN.one fun K' hK a ha => by
    unfold wpOp
    simp only [hi]
    exact h K' hK a ha

theorem WN.fork {j : Nat} {s : Ord} (o o' : Oper) (hi : ops[i]? = some o) (hj : ops[j]? = some o') (h : SO P N ops Q o (fun E' w' => Keeps S (kind i) w w' ∧ WN P N ops Q S kind r E' w') E w)
    (h' : SO P N ops Q o' (fun E' w' => Keeps S (kind j) w w' ∧ WN P N ops Q S kind s E' w') E w) : WN P N ops Q S kind (.two i j r s) E w :=
  WN.two (fun K' hK a ha => by
    unfold wpOp
    simp only [hi]
    exact h K' hK a ha) (fun K' hK a ha => by
    unfold wpOp
    simp only [hj]
    exact h' K' hK a ha)

theorem SO.val (hd : o.dst = some d) (hN : Nat.blt d N = true) (ho : opsOK E o = true) (hw : wantedE ops E o = some true)
    (hrun : (execOp E.ev o).run P w = .ok (.value v) w') (k : K ((d, v) :: E) w') : SO P N ops Q o K E w := by
  intro K' hK a h
  have hd' : d < N := Eq.mp Nat.blt_eq hN
  rw [if_pos (wantedE_spec h hw)]
  refine .inl ?_
  unfold Oper.wp
  rw [opsOK_exec h ho, hrun, Oper.upon_value, hd]
  exact hK _ _ _ k (h.put hd' v)

theorem SO.eff (hd : o.dst = none) (ho : opsOK E o = true) (hw : wantedE ops E o = some true)
    (hrun : (execOp E.ev o).run P w = .ok .skip w') (k : K E w') : SO P N ops Q o K E w := by
  intro K' hK a h
  rw [if_pos (wantedE_spec h hw)]
  refine .inl ?_
  unfold Oper.wp
  rw [opsOK_exec h ho, hrun, Oper.upon_skip, hd]
  exact hK _ _ _ k h

theorem SO.skip (hd : o.dst = some d) (hN : Nat.blt d N = true) (hw : wantedE ops E o = some false) (k : K ((d, undef) :: E) w) : SO P N ops Q o K E w := by
  intro K' hK a h
  have hd' : d < N := Eq.mp Nat.blt_eq hN
  rw [if_neg (by rw [wantedE_spec h hw]; simp), hd]
  exact hK _ _ _ k (h.put hd' undef)

theorem SO.skip0 (hd : o.dst = none) (hw : wantedE ops E o = some false) (k : K E w) : SO P N ops Q o K E w := by
  intro K' hK a h
  rw [if_neg (by rw [wantedE_spec h hw]; simp), hd]
  exact hK _ _ _ k h

theorem SO.enter {f : FuncId} {args : Array Value} {R : Value → World → Prop} (hd : o.dst = some d) (hN : Nat.blt d N = true) (ho : opsOK E o = true) (hw : wantedE ops E o = some true)
    (hrun : (execOp E.ev o).run P w = .ok (.enter f args) w') (hc : Ret P f args w' R) (k : ∀ v w'', R v w'' → K ((d, v) :: E) w'') : SO P N ops Q o K E w := by
  intro K' hK a h
  have hd' : d < N := Eq.mp Nat.blt_eq hN
  rw [if_pos (wantedE_spec h hw)]
  refine .inl ?_
  unfold Oper.wp
  rw [opsOK_exec h ho, hrun, Oper.upon_enter]
  refine Calls.mono hc ?_
  rintro e w'' ⟨v, rfl, hR⟩
  simp only [hd]
  exact hK _ _ _ (k v w'' hR) (h.put hd' v)

/-- what operands hold -/
def evs (E : Env) : List Operand → List Value → Prop
  | [], [] => True
  | x :: l, v :: vs => Env.ev E x = v ∧ evs E l vs
  | _, _ => False
theorem evs_map {E : Env} : ∀ {l : List Operand} {vs : List Value}, evs E l vs → l.map (Env.ev E) = vs
  | [], [], _ => rfl
  | x :: l, v :: vs, h => by simp [h.1, evs_map h.2]

theorem SO.call {f : FuncId} {xs : List Operand} {ts : Array TypeId} {vs : List Value} {R : Value → World → Prop} (hc : Ret P f vs.toArray w R)
    (hop : o.op = .call { callee := .value (.func f), args := xs.toArray, argTypes := ts }) (hb : hasBody P f = true) (hvs : evs E xs vs)
    (hd : o.dst = some d) (hN : Nat.blt d N = true) (ho : opsOK E o = true) (hw : wantedE ops E o = some true) (k : ∀ v w'', R v w'' → K ((d, v) :: E) w'') : SO P N ops Q o K E w :=
  SO.enter hd hN ho hw (r_call hop hb rfl (by rw [List.map_toArray, evs_map hvs])) hc k

theorem SO.store {x y : Operand} {t : TypeId} {g off : Nat} {cs : Array Value} {T : TypeId} (hop : o.op = .store t x y) (hx : Env.ev E x = .pointer (some ⟨g, off, none⟩)) (hy : Env.ev E y = v) (hz : sizeIs P t 1 = true) (hb : Blk w g cs T)
    (hlt : Nat.blt off cs.size = true) (h1 : v.oneCell' = true) (hd : o.dst = none) (ho : opsOK E o = true) (hw : wantedE ops E o = some true)
    (k : ∀ w', Upd (At g) w w' → Blk w' g (cs.setIfInBounds off v) T → w'.heap.size = w.heap.size → K E w') : SO P N ops Q o K E w :=
  SO.eff hd ho hw (r_store hop hx hy hz hb hlt h1) (k _ (Upd.setCell w ⟨g, off, none⟩ v) (hb.set off v) (World.size_setCell _ _ _))

/-- a new row with what is written out -/
theorem run_buildSlice {e : TypeId} {z : Value} {sz n : Nat} {t : TypeId} {parts : Array (Nat × Value)} {cs : Array Value} (ht : P.underlying t = some (.slice e)) (hz : sizeIs P e sz = true) (hzero : (P.info? e).bind (·.zero) = some z) (hn : n * sz ≤ 16777216)
    (hf : Instr.fill (fun i => some (i * sz, sz)) ((Array.range (n * sz)).map (z.cells[· % z.cells.size]!)) parts.toList = some cs) :
    (Instr.buildSlice t n parts).run P w = .ok (.slice (some ⟨w.heap.size, 0, none⟩) n n) (w.alloc (.cells cs e)) := by
  unfold sizeIs at hz
  cases hi : P.info? e with
  | none => simp [hi] at hz
  | some i =>
    rw [hi] at hz
    simp only [beq_iff_eq] at hz
    subst hz
    simp only [hi, Option.bind_some] at hzero
    by_cases h0 : n * i.size = 0
    · rw [h0] at hf
      simp only [Array.range_zero', Array.map_empty] at hf
      simp [Instr.buildSlice, run_underlying ht, sizeOf, typeInfo, hi, h0, Array.range_zero', hf, newRow]
    · have h2 : ¬ (2 ^ 24 < n * i.size) := by omega
      have h0' : ¬ (n = 0 ∨ i.size = 0) := by rw [← Nat.mul_eq_zero]; exact h0
      simp [Instr.buildSlice, run_underlying ht, sizeOf, typeInfo, hi, h0', h2, zeroValue, hzero, hf, newRow]
      exact fun h => absurd h h0

theorem SO.alloc {cs : Array Value} {T : TypeId} (hd : o.dst = some d) (hN : Nat.blt d N = true) (ho : opsOK E o = true) (hw : wantedE ops E o = some true)
    (hrun : (execOp E.ev o).run P w = .ok (.value v) (w.alloc (.cells cs T)))
    (k : ∀ w', Upd No w w' → Blk w' w.heap.size cs T → w'.heap.size = w.heap.size + 1 → K ((d, v) :: E) w') : SO P N ops Q o K E w :=
  SO.val hd hN ho hw hrun (k _ (Upd.alloc _ _ _) (Blk.alloc_new _ _ _) (World.size_alloc _ _))
end

/-- The type of a slice, its elements', how many cells and bytes these take, and their zero. -/
structure RowT (P : Program) (t e : TypeId) (sz by_ : Nat) (z : Value) : Prop where
  und : P.underlying t = some (.slice e)
  info : (P.info? e).map (fun i => (i.zero, i.size, i.bytes)) = some (some z, sz, by_)
  cells : z.cells.size = sz
  pos : 0 < sz

theorem RowT.parts {P : Program} {t e : TypeId} {sz by_ : Nat} {z : Value} (h : RowT P t e sz by_ z) : ∃ i, P.info? e = some i ∧ i.zero = some z ∧ i.size = sz ∧ i.bytes = by_ := by
  have h1 := h.info
  cases hi : P.info? e with
  | none => rw [hi] at h1; cases h1
  | some i =>
    rw [hi] at h1
    simp only [Option.map_some, Option.some.injEq, Prod.mk.injEq] at h1
    exact ⟨i, rfl, h1.1, h1.2.1, h1.2.2⟩
theorem RowT.sizeIs {P : Program} {t e : TypeId} {sz by_ : Nat} {z : Value} (h : RowT P t e sz by_ z) : sizeIs P e sz = true := by
  obtain ⟨i, hi, _, hs, _⟩ := h.parts
  simp [Go.Proofs.Ytncakfcafkfmfaa.sizeIs, hi, hs]

/-- F, and the blocks that are new. -/
def Grow (F : Nat → Prop) (w w' : World) : Nat → Prop := fun k => F k ∨ (w.heap.size ≤ k ∧ k < w'.heap.size)

/-- The blocks that are new. -/
def New (w w' : World) : Nat → Prop := fun k => w.heap.size ≤ k ∧ k < w'.heap.size

/-- The slice value v, of n elements, owns the cells xs; its block is one of F. -/
def Own (w : World) (F : Nat → Prop) (T : TypeId) (sz : Nat) (v : Value) (n : Nat) (xs : List Value) : Prop :=
  w.ownsRow 0 T sz v n xs ∧ ∀ k, v.ownBlock = some k → F k

/-- The slice value v, of n elements, reads as the cells xs; its block is one of F. -/
def Rd (w : World) (F : Nat → Prop) (v : Value) (n sz : Nat) (xs : List Value) : Prop :=
  ∃ A c, v = .slice A n c ∧ n ≤ c ∧ n ≤ 140737488355328 ∧ xs.length = n * sz ∧
    (n ≠ 0 → ∃ b off, A = some ⟨b, off, none⟩ ∧ F b ∧ b < w.heap.size ∧ ∀ j u, xs[j]? = some u → w.cell? ⟨b, off + j, none⟩ = some u)

section
variable {P : Program} {w w' : World} {F F' S : Nat → Prop} {T : TypeId} {sz n : Nat} {v : Value} {xs : List Value}

theorem Own.nil (w : World) (F : Nat → Prop) (T : TypeId) (sz : Nat) : Own w F T sz (.slice none 0 0) 0 [] := ⟨World.ownsRow_nil _ _ _ _, fun k h => by simp [Value.ownBlock] at h⟩
theorem Own.mono (h : Own w F T sz v n xs) (hF : ∀ k, F k → F' k) : Own w F' T sz v n xs := ⟨h.1, fun k hk => hF k (h.2 k hk)⟩
theorem Own.lt (h : Own w F T sz v n xs) : ∀ k, v.ownBlock = some k → k < w.heap.size := fun k hk => (h.1.lt k hk).2
theorem Own.upd (h : Own w F T sz v n xs) (hu : Upd S w w') (hn : ∀ k, F k → k < w.heap.size → ¬ S k) : Own w' F T sz v n xs := by
  refine ⟨⟨h.1.1, ?_⟩, h.2⟩
  rcases h.1.2 with hh | ⟨g, cap, cur, rfl, hb, hg, rest⟩
  · exact .inl hh
  · exact .inr ⟨g, cap, cur, rfl, hb, (hu.block g (Array.getElem?_eq_some_iff.1 hg).1 (hn g (h.2 g rfl) (Array.getElem?_eq_some_iff.1 hg).1)).trans hg, rest⟩
theorem Own.len (h : Own w F T sz v n xs) : xs.length = n * sz := h.1.1
theorem Own.drew (h : Own w F T sz v n xs) : Own w.drew F T sz v n xs := h
theorem Own.form (h : Own w F T sz v n xs) : ∃ A c, v = .slice A n c ∧ n ≤ c := by
  rcases h.1.2 with ⟨rfl, rfl⟩ | ⟨g, cap, cur, rfl, _, _, hc, _⟩
  · exact ⟨_, _, rfl, Nat.le_refl _⟩
  · exact ⟨_, _, rfl, hc⟩
/-- a block that is a row's whole -/
theorem Own.of_blk {b : Nat} {cs : Array Value} (h : Blk w b cs T) (hF : F b) (hn : cs.size = n * sz) (hm : n ≤ maxLen) : Own w F T sz (.slice (some ⟨b, 0, none⟩) n n) n cs.toList := by
  refine ⟨⟨by simp [hn], .inr ⟨b, n, cs, rfl, Nat.zero_le _, h, Nat.le_refl _, hm, hn, ?_⟩⟩, fun k hk => ?_⟩
  · rw [← hn]; exact List.take_of_length_le (by simp)
  · simp [Value.ownBlock] at hk; subst hk; exact hF

theorem Own.rd (h : Own w F T sz v n xs) (hm : n ≤ 140737488355328) : Rd w F v n sz xs := by
  rcases h.1.2 with ⟨rfl, rfl⟩ | ⟨g, cap, cur, rfl, _, hg, hc, _⟩
  · exact ⟨_, _, rfl, Nat.le_refl _, hm, h.1.1, fun h0 => absurd rfl h0⟩
  · refine ⟨_, _, rfl, hc, hm, h.1.1, fun _ => ⟨g, 0, rfl, h.2 g rfl, (Array.getElem?_eq_some_iff.1 hg).1, fun j u hu => ?_⟩⟩
    have := h.1.cells (g := g) rfl j u hu
    rwa [Addr.add_lit] at this

theorem Rd.mono (h : Rd w F v n sz xs) (hF : ∀ k, F k → F' k) : Rd w F' v n sz xs := by
  obtain ⟨A, c, hv, h1, h2, h3, h4⟩ := h
  refine ⟨A, c, hv, h1, h2, h3, fun h0 => ?_⟩
  obtain ⟨b, off, hA, hb, hl, hc⟩ := h4 h0
  exact ⟨b, off, hA, hF b hb, hl, hc⟩
theorem Rd.upd (h : Rd w F v n sz xs) (hu : Upd S w w') (hn : ∀ k, F k → k < w.heap.size → ¬ S k) : Rd w' F v n sz xs := by
  obtain ⟨A, c, hv, h1, h2, h3, h4⟩ := h
  refine ⟨A, c, hv, h1, h2, h3, fun h0 => ?_⟩
  obtain ⟨b, off, hA, hb, hl, hc⟩ := h4 h0
  exact ⟨b, off, hA, hb, Nat.lt_of_lt_of_le hl hu.size, fun j u hj => (cell?_of_eq (hu.block b hl (hn b hb hl)) _ _).trans (hc j u hj)⟩
/-- the footprint lies among the blocks that are there -/
theorem Rd.bound (h : Rd w F v n sz xs) : Rd w (fun k => F k ∧ k < w.heap.size) v n sz xs := by
  obtain ⟨A, c, hv, h1, h2, h3, h4⟩ := h
  refine ⟨A, c, hv, h1, h2, h3, fun h0 => ?_⟩
  obtain ⟨b, off, hA, hb, hl, hc⟩ := h4 h0
  exact ⟨b, off, hA, ⟨hb, hl⟩, hl, hc⟩
theorem Own.bound (h : Own w F T sz v n xs) : Own w (fun k => F k ∧ k < w.heap.size) T sz v n xs := ⟨h.1, fun k hk => ⟨h.2 k hk, (h.1.lt k hk).2⟩⟩
theorem Rd.drew (h : Rd w F v n sz xs) : Rd w.drew F v n sz xs := h
theorem Rd.len (h : Rd w F v n sz xs) : xs.length = n * sz := by obtain ⟨_, _, _, _, _, h, _⟩ := h; exact h
theorem Rd.le (h : Rd w F v n sz xs) : n ≤ 140737488355328 := by obtain ⟨_, _, _, _, h, _⟩ := h; exact h
theorem Rd.nil (w : World) (F : Nat → Prop) (sz : Nat) : Rd w F (.slice none 0 0) 0 sz [] := ⟨_, _, rfl, Nat.le_refl _, by omega, by simp, fun h => absurd rfl h⟩

/-- what append reads -/
theorem Rd.src (h : Rd w F v n sz xs) (hsz : 0 < sz) : (n = 0 ∧ xs = [] ∧ ∃ A c, v = .slice A 0 c) ∨ (∃ ad c, v = .slice (some ad) n c ∧ ∀ j u, xs[j]? = some u → w.cell? (ad.add j) = some u) := by
  obtain ⟨A, c, hv, h1, h2, h3, h4⟩ := h
  by_cases h0 : n = 0
  · subst h0; exact .inl ⟨rfl, List.eq_nil_of_length_eq_zero (by simpa using h3), A, c, hv⟩
  · obtain ⟨b, off, rfl, _, _, hc⟩ := h4 h0
    refine .inr ⟨_, c, hv, fun j u hj => ?_⟩
    rw [Addr.add_lit]; exact hc j u hj

theorem run_append_Own {t e : TypeId} {by_ : Nat} {z : Value} (ht : RowT P t e sz by_ z) (ty : TypeId) {v2 : Value} {m : Nat} {news : List Value} {F2 : Nat → Prop}
    (hown : Own w F e sz v n xs) (hsrc : Rd w F2 v2 m sz news) (h1 : ∀ u ∈ news, u.oneCell' = true) (h63 : n + m ≤ maxLen) (hbytes : (n + m) * by_ ≤ 140737488355328) :
    ∃ v' w', (Builtin.append_ #[t, t] ty #[v, v2]).run P w = .ok v' w' ∧ Own w' (Grow F w w') e sz v' (n + m) (xs ++ news) ∧ Upd F w w' := by
  obtain ⟨i, hi, hz, hs, hb⟩ := ht.parts
  have fin : ∀ {v' w'}, w'.ownsRow 0 e sz v' (n + m) (xs ++ news) → w.grownBy w' v.ownBlock → (v'.ownBlock = v.ownBlock ∨ ∀ k, v'.ownBlock = some k → w.heap.size ≤ k) → Own w' (Grow F w w') e sz v' (n + m) (xs ++ news) ∧ Upd F w w' := by
    intro v' w' h2 h3 h4
    refine ⟨⟨h2, fun k hk => ?_⟩, ⟨h3.os, h3.tape, h3.output, h3.size, fun k hk hn => h3.block k hk fun e => hn (hown.2 k e.symm)⟩⟩
    rcases h4 with h4 | h4
    · exact .inl (hown.2 k (h4 ▸ hk))
    · exact .inr ⟨h4 k hk, (h2.lt k hk).2⟩
  rcases hsrc.src ht.pos with ⟨rfl, rfl, A, c, rfl⟩ | ⟨ad, c, rfl, hcells⟩
  · -- nothing is appended
    refine ⟨v, w, ?_, ?_, Upd.refl _ _⟩
    · obtain ⟨A', c', rfl, hle⟩ := hown.form
      have hA : (Builtin.firstCells i.size 0 (.slice A 0 c)).run P w = .ok #[] w := by
        cases A with
        | none => simp [Builtin.firstCells]
        | some a => simp [Builtin.firstCells, loadCells, loadCellsFrom]
      cases A' with
      | none => simp [Builtin.append_, run_underlying ht.und, sizeOf, typeInfo, hi, Builtin.lenOf, hle, hA]
      | some a => simp [Builtin.append_, run_underlying ht.und, sizeOf, typeInfo, hi, Builtin.lenOf, hle, hA, storeCells]
    · simpa using hown.mono (F' := Grow F w w) (fun k hk => .inl hk)
  · have hl := hsrc.len
    by_cases hnil : v.ownBlock = none
    · have hn0 : v = .slice none 0 0 ∧ n = 0 := by
        rcases hown.1.2 with h | ⟨g, cap, cur, rfl, _⟩
        · exact h
        · simp [Value.ownBlock] at hnil
      obtain ⟨rfl, rfl⟩ := hn0
      have hxs : xs = [] := List.eq_nil_of_length_eq_zero (by simpa using hown.len)
      subst hxs
      obtain ⟨v', w', hr, h2, h3, _⟩ := run_append_own (P := P) w w.heap.size t ty e i z sz by_ ht.und hi hz hs hb ht.cells ht.pos (.slice none 0 0) 0 [] (World.ownsRow_nil _ _ _ _) ad m c news hl hcells h1 h63 hbytes (Nat.le_refl _)
      refine ⟨v', w', hr, fin ⟨h2.1, ?_⟩ h3 (.inr fun k hk => (h2.lt k hk).1)⟩
      rcases h2.2 with h | ⟨g, cap, cur, hv, _, rest⟩
      · exact .inl h
      · exact .inr ⟨g, cap, cur, hv, Nat.zero_le _, rest⟩
    · rcases hown.1.2 with ⟨rfl, _⟩ | ⟨g, cap, cur, hv, hbg, hg, hnc, hcm, hcs, htake⟩
      · simp [Value.ownBlock] at hnil
      · by_cases hroom : n + m ≤ cap
        · obtain ⟨v', w', hr, h2, h3, _⟩ := run_append_own (P := P) w 0 t ty e i z sz by_ ht.und hi hz hs hb ht.cells ht.pos v n xs hown.1 ad m c news hl hcells h1 h63 hbytes (Nat.zero_le _)
          refine ⟨v', w', hr, fin h2 h3 (.inl ?_)⟩
          subst hv
          have hsz : i.size = sz := hs
          have hr2 := run_append_room (P := P) w t ty e i ht.und hi g n cap cur hg ad m c news (by rw [hsz]; exact hl) hcells h1 hroom (by rw [hsz, hl, hcs, ← Nat.add_mul]; exact Nat.mul_le_mul_right _ hroom)
          rw [hr2] at hr
          injection hr with hr _
          subst hr
          rfl
        · subst hv
          obtain ⟨v', w', hr, h2, h3⟩ := run_append_arg_grows (P := P) w t ty e i z sz by_ ht.und hi hz hs hb ht.cells ht.pos ⟨g, 0, none⟩ n cap xs hown.len (fun j u hu => hown.1.cells (g := g) rfl j u hu) ad m c news hl hcells (by omega) h63 hbytes
          refine ⟨v', w', hr, fin ⟨h2.1, ?_⟩ ⟨h3.os, h3.tape, h3.output, h3.size, fun k hk _ => h3.block k hk (by simp)⟩ (.inr fun k hk => (h2.lt k hk).1)⟩
          rcases h2.2 with h | ⟨g, cap, cur, hv, _, rest⟩
          · exact .inl h
          · exact .inr ⟨g, cap, cur, hv, Nat.zero_le _, rest⟩
end

section
variable {P : Program} {N : Nat} {ops : Array Oper} {Q : Exit → Act → World → Prop} {o : Oper} {E : Env} {w : World} {d : Nat} {v v2 : Value} {K : Env → World → Prop} {F F2 : Nat → Prop} {sz n m : Nat} {xs news : List Value}

theorem SO.append {x y : Operand} {t e : TypeId} {by_ : Nat} {z : Value} (hown : Own w F e sz v n xs) (hsrc : Rd w F2 v2 m sz news) (ht : RowT P t e sz by_ z) (h1 : ∀ u ∈ news, u.oneCell' = true) (h63 : n + m ≤ maxLen) (hbytes : (n + m) * by_ ≤ 140737488355328)
    (hop : o.op = .call { callee := .builtin .append, args := #[x, y], argTypes := #[t, t] }) (hx : Env.ev E x = v) (hy : Env.ev E y = v2)
    (hd : o.dst = some d) (hN : Nat.blt d N = true) (ho : opsOK E o = true) (hw : wantedE ops E o = some true)
    (k : ∀ v' w', Own w' (Grow F w w') e sz v' (n + m) (xs ++ news) → Upd F w w' → K ((d, v') :: E) w') : SO P N ops Q o K E w := by
  obtain ⟨v', w', hr, h2, h3⟩ := run_append_Own (P := P) (ty := o.type) ht hown hsrc h1 h63 hbytes
  refine SO.val (v := v') (w' := w') hd hN ho hw ?_ (k v' w' h2 h3)
  unfold execOp
  simp only [hop, resolve, invoke, builtin, Sem.run_bind, Sem.run_pure, Result.andThen_ok, List.map_toArray, List.map_cons, List.map_nil, hx, hy, hr]
end
end Go.Proofs.Ytncakfcafkfmfaa

/-
  Entry and return; slicing; strings.
-/
namespace Go.Proofs.Ytncakfcafkfmfaa
open Go
set_option linter.unusedSimpArgs false
set_option linter.unusedVariables false

section
variable {P : Program} {N : Nat} {E : Env} {w : World} {fn : Func} {R : Value → World → Prop} {v : Value}

/-- the parameters -/
def argEnv : Nat → List Value → Env
  | _, [] => []
  | i, v :: l => (i, v) :: argEnv (i + 1) l

theorem argEnv_get : ∀ (l : List Value) (i t : Nat) (v : Value), Env.get (argEnv i l) t = some v → i ≤ t ∧ l[t - i]? = some v
  | [], _, _, _, h => by simp [argEnv, Env.get] at h
  | u :: l, i, t, v, h => by
    simp only [argEnv, Env.get] at h
    split at h
    · rename_i hb
      have := Nat.eq_of_beq_eq_true hb
      subst this
      injection h with h
      subst h
      simp
    · rename_i hb
      have := argEnv_get l (i + 1) t v h
      refine ⟨by omega, ?_⟩
      rw [show t - i = (t - (i + 1)) + 1 by omega]
      simpa using this.2

theorem enter {f : FuncId} {c : Code} {vs : List Value} {R : Ending → World → Prop} (hf : P.funcs[f]? = some fn) (hb : fn.body = some c) (hN : fn.ntmps = N) (hle : Nat.ble vs.length N = true)
    (k : WC P N (bodyPost P fn R) c (argEnv 0 vs) w) : Calls P f vs.toArray w R := by
  have hle' : vs.length ≤ N := Nat.le_of_ble_eq_true hle
  refine calls_of_wp hf hb (k _ ⟨by simp [hN]; omega, rfl, fun t v ht => ?_⟩)
  have := (argEnv_get vs 0 t v ht).2
  rw [Nat.sub_zero] at this
  have hlt : t < vs.length := (List.getElem?_eq_some_iff.1 this).1
  rw [Array.getElem?_append_left (by simpa using hlt)]
  simpa using this

theorem enterRet {f : FuncId} {c : Code} {vs : List Value} (hf : P.funcs[f]? = some fn) (hb : fn.body = some c) (hN : fn.ntmps = N) (hle : Nat.ble vs.length N = true)
    (k : WC P N (bodyPost P fn fun e w' => ∃ v, e = .returned v ∧ R v w') c (argEnv 0 vs) w) : Ret P f vs.toArray w R := enter hf hb hN hle k

def resE (E : Env) : List ResultVar → List Value → Prop
  | [], [] => True
  | .tmp t :: l, v :: vs => Env.get E t = some v ∧ resE E l vs
  | _, _ => False

def tupleOf : List Value → Value
  | [v] => v
  | l => .tuple l.toArray

theorem resE_run {a : Act} (h : Sat N E a) : ∀ {l : List ResultVar} {vs : List Value}, resE E l vs →
    (l.mapM (m := Sem) fun r => match r with | .tmp t => pure (a.tmps.getD t undef) | .cell b t => do loadVar t (← asAddr (a.tmps.getD b undef))).run P w = .ok vs w
  | [], [], _ => by simp [go_sem]
  | .tmp t :: l, v :: vs, hr => by
    have h1 := h.vals t v hr.1
    have h2 := resE_run h hr.2
    have h3 : a.tmps[t]?.getD undef = v := by rw [h1]; rfl
    simp only [Array.getD_eq_getD_getElem?] at h2 ⊢
    simp [List.mapM_cons, h2, h3]

theorem results_run {a : Act} (h : Sat N E a) {l : List ResultVar} {vs : List Value} (hl : fn.results = l.toArray) (hr : resE E l vs) : (results fn a.tmps).run P w = .ok (tupleOf vs) w := by
  have h1 := resE_run (P := P) (w := w) h hr
  have hlen : vs.length = l.length := by
    clear h1
    revert vs
    clear hl
    induction l with
    | nil => intro vs hr; cases vs with
      | nil => rfl
      | cons => exact hr.elim
    | cons x l ih => intro vs hr; cases x <;> cases vs <;> first | exact hr.elim | (simp [ih hr.2])
  unfold results
  rw [hl, List.mapM_toArray]
  simp only [Sem.run_bind]
  have h2 : (Sem.run P (List.mapM (m := Sem) (fun x => match x with
    | ResultVar.tmp t => pure (a.tmps[t]?.getD undef)
    | ResultVar.cell b t => do loadVar t (← asAddr (a.tmps[b]?.getD undef))) l) w) = .ok vs w := by
    simpa only [Array.getD_eq_getD_getElem?] using h1
  simp only [Array.getD_eq_getD_getElem?]
  simp
  erw [h2]
  match vs with
  | [] => rfl
  | [v] => rfl
  | a :: b :: r => simp [tupleOf]

theorem WX.retE {l : List ResultVar} {vs : List Value} (hl : fn.results = l.toArray) (hr : resE E l vs) (k : R (tupleOf vs) w) :
    WX N (bodyPost P fn fun e w' => ∃ v, e = .returned v ∧ R v w') .ret E w := fun a h => ⟨h.defers, _, results_run h hl hr, _, rfl, k⟩
theorem WX.retE1 {t : Nat} {v : Value} (hl : fn.results = #[.tmp t]) (hr : Env.get E t = some v) (k : R v w) :
    WX N (bodyPost P fn fun e w' => ∃ v, e = .returned v ∧ R v w') .ret E w := WX.retE (l := [.tmp t]) (vs := [v]) hl ⟨hr, trivial⟩ k
theorem WX.retE2 {t u : Nat} {v v' : Value} (hl : fn.results = #[.tmp t, .tmp u]) (hr : Env.get E t = some v) (hr' : Env.get E u = some v') (k : R (.tuple #[v, v']) w) :
    WX N (bodyPost P fn fun e w' => ∃ v, e = .returned v ∧ R v w') .ret E w := WX.retE (l := [.tmp t, .tmp u]) (vs := [v, v']) hl ⟨hr, hr', trivial⟩ k
theorem le_maxLen {n : Nat} (h : n ≤ 140737488355328) : n ≤ maxLen := by
  have : (140737488355328 : Nat) ≤ maxLen := by decide
  omega
theorem WX.endE {l : List ResultVar} {vs : List Value} (hl : fn.results = l.toArray) (hr : resE E l vs) (k : R (tupleOf vs) w) :
    WX N (bodyPost P fn fun e w' => ∃ v, e = .returned v ∧ R v w') .normal E w := fun a h => ⟨h.defers, _, results_run h hl hr, _, rfl, k⟩
end

section
variable {P : Program} {ρ : Operand → Value} {o : Oper} {w : World} {x y z : Operand} {t u e : TypeId} {k k' : IntKind} {a b : Int} {F : Nat → Prop}

/-- a bound of a slice expression -/
def bnd (ρ : Operand → Value) (x : Option Operand) (dflt r : Nat) : Prop := (x = none ∧ r = dflt) ∨ ∃ y k b, x = some y ∧ ρ y = .int k b ∧ b = (r : Int)
theorem bnd_none {d : Nat} : bnd ρ none d d := .inl ⟨rfl, rfl⟩
theorem bnd_some {d r : Nat} (h : ρ y = .int k b) (hb : b = (r : Int)) : bnd ρ (some y) d r := .inr ⟨y, k, b, rfl, h, hb⟩

def cutA (A : Option Addr) (c l sz : Nat) : Option Addr := if c = l then A else A.map (·.add (l * sz))

theorem run_sliceBound_in {k : IntKind} {b : Int} {r y : Nat} {code : BoundsCode} (hb : b = (r : Int)) (hr : r ≤ y) : (Instr.sliceBound (.int k b) y code).run P w = .ok r w := by
  subst hb
  simp [Instr.sliceBound, asIntOf, hr]

theorem r_slice {A : Option Addr} {n c l h sz : Nat} {lo hi : Option Operand} (ho : o.op = .slice t x lo hi none) (hx : ρ x = .slice A n c) (hu : sliceElem P t = some e) (hz : sizeIs P e sz = true)
    (hlo : bnd ρ lo 0 l) (hhi : bnd ρ hi n h) (h1 : l ≤ h) (h2 : h ≤ n) (h3 : n ≤ c) : (execOp ρ o).run P w = .ok (.value (.slice (cutA A c l sz) (h - l) (c - l))) w := by
  unfold sliceElem at hu
  cases hd : P.underlying t with
  | none => simp [hd] at hu
  | some d =>
    rw [hd] at hu
    cases d <;> simp at hu
    subst hu
    have hc : h ≤ c := by omega
    have hsz := run_sizeOf (P := P) (w := w) hz
    unfold cutA
    rcases hlo with ⟨rfl, rfl⟩ | ⟨y1, k1, b1, rfl, hy1, hb1⟩ <;> rcases hhi with ⟨rfl, rfl⟩ | ⟨y2, k2, b2, rfl, hy2, hb2⟩
    · simp [execOp, ho, hx, Instr.sliceAt, Instr.slice, run_underlying hd, Instr.sliceBounds, hsz]
    · simp [execOp, ho, hx, hy2, Instr.sliceAt, Instr.slice, run_underlying hd, Instr.sliceBounds, hsz, run_sliceBound_in hb2 hc]
    · simp [execOp, ho, hx, hy1, Instr.sliceAt, Instr.slice, run_underlying hd, Instr.sliceBounds, hsz, run_sliceBound_in hb1 h1]
    · simp [execOp, ho, hx, hy1, hy2, Instr.sliceAt, Instr.slice, run_underlying hd, Instr.sliceBounds, hsz, run_sliceBound_in hb1 h1, run_sliceBound_in hb2 hc]

theorem Rd.slice {A : Option Addr} {n c l h sz : Nat} {xs : List Value} (hr : Rd w F (.slice A n c) n sz xs) (h1 : l ≤ h) (h2 : h ≤ n) : Rd w F (.slice (cutA A c l sz) (h - l) (c - l)) (h - l) sz ((xs.drop (l * sz)).take ((h - l) * sz)) := by
  obtain ⟨A', c', hv, hc, hm, hl, hcell⟩ := hr
  injection hv with hA hn hc'
  subst hA hc'
  refine ⟨_, _, rfl, by omega, by omega, ?_, fun h0 => ?_⟩
  · rw [List.length_take, List.length_drop, hl, Nat.sub_mul]
    have : h * sz ≤ n * sz := Nat.mul_le_mul_right _ h2
    omega
  · obtain ⟨b, off, rfl, hF, hlt, hcl⟩ := hcell (by omega)
    refine ⟨b, off + l * sz, ?_, hF, hlt, fun j u hu => ?_⟩
    · unfold cutA
      rw [if_neg (by omega)]
      simp [Addr.add_lit]
    · rw [List.getElem?_take] at hu
      split at hu
      · rw [List.getElem?_drop] at hu
        rw [Nat.add_assoc]
        exact hcl _ u hu
      · cases hu

theorem Rd.open {A : Option Addr} {n c sz : Nat} {xs : List Value} (hr : Rd w F (.slice A n c) n sz xs) (h0 : 0 < n) : ∃ b off, A = some ⟨b, off, none⟩ ∧ F b ∧ b < w.heap.size ∧ ∀ j u, xs[j]? = some u → w.cell? ⟨b, off + j, none⟩ = some u := by
  obtain ⟨A', c', hv, hc, hm, hl, hcell⟩ := hr
  injection hv with hA hn hc'
  subst hA
  exact hcell (by omega)
theorem Rd.cap {A : Option Addr} {n c sz : Nat} {xs : List Value} (hr : Rd w F (.slice A n c) n sz xs) : n ≤ c := by
  obtain ⟨A', c', hv, hc, _⟩ := hr
  injection hv with hA hn hc'
  subst hc'
  exact hc
theorem Rd.cell {b off n c sz q j : Nat} {xs : List Value} {u : Value} (hr : Rd w F (.slice (some ⟨b, off, none⟩) n c) n sz xs) (hq : q = off + j) (hu : xs[j]? = some u) : w.cell? ⟨b, q, none⟩ = some u := by
  subst hq
  obtain ⟨A', c', hv, hc, hm, hl, hcell⟩ := hr
  injection hv with hA hn hc'
  subst hA
  have h0 : n ≠ 0 := fun e => by
    subst e
    have : xs = [] := List.eq_nil_of_length_eq_zero (by simpa using hl)
    subst this
    simp at hu
  obtain ⟨b', off', hA, _, _, hcl⟩ := hcell h0
  injection hA with hA
  injection hA with hA1 hA2
  subst hA1 hA2
  exact hcl j u hu
theorem Rd.slice_form {v : Value} {n sz : Nat} {xs : List Value} (hr : Rd w F v n sz xs) : ∃ A c, v = .slice A n c ∧ n ≤ c := by
  obtain ⟨A, c, hv, hc, _⟩ := hr
  exact ⟨A, c, hv, hc⟩

theorem r_extract {vs : Array Value} {i : Nat} {v : Value} (ho : o.op = .extract x i) (hx : ρ x = .tuple vs) (hv : vs[i]? = some v) : (execOp ρ o).run P w = .ok (.value v) w := by
  simp [execOp, ho, hx, Instr.extract, hv]

/-- bytes -/
def U8 (c : UInt8) : Value := .int .u8 (c.toNat : Int)
theorem U8_one (l : List UInt8) : ∀ u ∈ l.map U8, u.oneCell' = true := fun u hu => by
  obtain ⟨c, _, rfl⟩ := List.mem_map.1 hu
  rfl
theorem U8_inj {a b : UInt8} (h : U8 a = U8 b) : a = b := by
  unfold U8 at h
  injection h with _ h
  exact UInt8.toNat_inj.1 (by omega)
theorem map_U8_inj : ∀ {a b : List UInt8}, a.map U8 = b.map U8 → a = b
  | [], [], _ => rfl
  | [], _ :: _, h => by simp at h
  | _ :: _, [], h => by simp at h
  | x :: a, y :: b, h => by
    simp only [List.map_cons, List.cons.injEq] at h
    rw [U8_inj h.1, map_U8_inj h.2]
theorem Rd.sliceB {A : Option Addr} {n c lo h : Nat} {l : List UInt8} (hr : Rd w F (.slice A n c) n 1 (l.map U8)) (h1 : lo ≤ h) (h2 : h ≤ n) : Rd w F (.slice (cutA A c lo 1) (h - lo) (c - lo)) (h - lo) 1 (((l.drop lo).take (h - lo)).map U8) := by
  have := hr.slice (l := lo) (h := h) h1 h2
  simpa using this
theorem Rd.lenB {v : Value} {n : Nat} {l : List UInt8} (h : Rd w F v n 1 (l.map U8)) : l.length = n := by
  have := h.len
  simpa using this
theorem Rd.of_blk {b n sz : Nat} {cs : Array Value} {T : TypeId} (h : Blk w b cs T) (hF : F b) (hn : cs.size = n * sz) (hm : n ≤ 140737488355328) : Rd w F (.slice (some ⟨b, 0, none⟩) n n) n sz cs.toList :=
  ⟨_, _, rfl, Nat.le_refl _, hm, by simpa using hn, fun _ => ⟨b, 0, rfl, hF, h.lt, fun j u hu => by
    rw [Nat.zero_add]
    exact h.cell (by simpa using hu)⟩⟩
theorem oneCell_one {v : Value} (h : v.oneCell' = true) : ∀ u ∈ (#[v] : Array Value).toList, u.oneCell' = true := fun u hu => by
  simp at hu
  subst hu
  exact h
theorem Grow.trans {F : Nat → Prop} {w w1 w2 : World} (h : w.heap.size ≤ w1.heap.size) (h' : w1.heap.size ≤ w2.heap.size) {k : Nat} (hk : Grow (Grow F w w1) w1 w2 k) : Grow F w w2 k := by
  rcases hk with (hk | hk) | hk
  · exact .inl hk
  · exact .inr ⟨hk.1, by omega⟩
  · exact .inr ⟨by omega, hk.2⟩
theorem Grow.le {F : Nat → Prop} {w w1 w2 : World} (h' : w1.heap.size ≤ w2.heap.size) {k : Nat} (hk : Grow F w w1 k) : Grow F w w2 k := by
  rcases hk with hk | hk
  · exact .inl hk
  · exact .inr ⟨hk.1, by omega⟩
theorem Grow.old {F : Nat → Prop} {w w' : World} {g : Nat} (hg : g < w.heap.size) (hF : ¬ F g) : ¬ Grow F w w' g := fun h => by
  rcases h with h | h
  · exact hF h
  · omega
end
theorem Upd.fresh {S : Nat → Prop} {w w1 w2 : World} (h : Upd No w w1) (h' : Upd S w1 w2) (hS : ∀ k, S k → w.heap.size ≤ k) : Upd No w w2 := h.trans h' fun k hk hk' => by
  have := hS k hk'
  omega
theorem mk_toList (l : List UInt8) : (ByteArray.mk l.toArray).toList = l := by simp [ByteArray.toList_eq]
end Go.Proofs.Ytncakfcafkfmfaa

/-
  More operations: slices against nil, strings, bytes and strings, literals in memory.
-/
namespace Go.Proofs.Ytncakfcafkfmfaa
open Go
set_option linter.unusedSimpArgs false
set_option linter.unusedVariables false

section
variable {P : Program} {ρ : Operand → Value} {o : Oper} {w : World} {x y z : Operand} {t u e : TypeId} {k k' : IntKind} {a b : Int} {F : Nat → Prop}

theorem sliceElem_und (h : sliceElem P t = some e) : P.underlying t = some (.slice e) := by
  unfold sliceElem at h
  cases hd : P.underlying t with
  | none => simp [hd] at h
  | some d => rw [hd] at h; cases d <;> simp at h; subst h; rfl

theorem run_binop_eql_slice_nil {A : Option Addr} {n c : Nat} (h : P.underlying t = some (.slice e)) : (binOp .eql t (.slice A n c) (.slice none 0 0)).run P w = .ok (.bool A.isNone) w := by
  simp only [binOp, Sem.run_bind, run_equal_slice_nil w t e A n c h, Result.andThen_ok, Sem.run_pure]
theorem run_binop_neq_slice_nil {A : Option Addr} {n c : Nat} (h : P.underlying t = some (.slice e)) : (binOp .neq t (.slice A n c) (.slice none 0 0)).run P w = .ok (.bool (!A.isNone)) w := by
  simp only [binOp, Sem.run_bind, run_equal_slice_nil w t e A n c h, Result.andThen_ok, Sem.run_pure]

theorem r_eqlSliceNil {A : Option Addr} {n c : Nat} (ho : o.op = .binOp .eql t x y u) (hx : ρ x = .slice A n c) (hy : ρ y = .slice none 0 0) (h : sliceElem P t = some e) : (execOp ρ o).run P w = .ok (.value (.bool A.isNone)) w := by
  have h1 := run_binop_eql_slice_nil (w := w) (A := A) (n := n) (c := c) (sliceElem_und h)
  simp [execOp, ho, hx, hy, h1, eqGuard]
theorem r_neqSliceNil {A : Option Addr} {n c : Nat} (ho : o.op = .binOp .neq t x y u) (hx : ρ x = .slice A n c) (hy : ρ y = .slice none 0 0) (h : sliceElem P t = some e) : (execOp ρ o).run P w = .ok (.value (.bool (!A.isNone))) w := by
  have h1 := run_binop_neq_slice_nil (w := w) (A := A) (n := n) (c := c) (sliceElem_und h)
  simp [execOp, ho, hx, hy, h1, eqGuard]

theorem r_eqlStr {s s' : ByteArray} (ho : o.op = .binOp .eql t x y u) (hx : ρ x = .string s) (hy : ρ y = .string s') : (execOp ρ o).run P w = .ok (.value (.bool (decide (s.toList = s'.toList)))) w := by
  simp [execOp, ho, hx, hy, go_sem]; rw [Bool.eq_iff_iff]; simp
theorem r_neqStr {s s' : ByteArray} (ho : o.op = .binOp .neq t x y u) (hx : ρ x = .string s) (hy : ρ y = .string s') : (execOp ρ o).run P w = .ok (.value (.bool (decide (s.toList ≠ s'.toList)))) w := by
  simp [execOp, ho, hx, hy, go_sem]; rw [Bool.eq_iff_iff]; simp
theorem r_lssStr {s s' : ByteArray} (ho : o.op = .binOp .lss t x y u) (hx : ρ x = .string s) (hy : ρ y = .string s') : (execOp ρ o).run P w = .ok (.value (.bool (Op.bytesLess s.toList s'.toList))) w := by
  simp [execOp, ho, hx, hy, go_sem]
theorem r_addStr {s s' : ByteArray} (ho : o.op = .binOp .add t x y u) (hx : ρ x = .string s) (hy : ρ y = .string s') (h : s.size + s'.size ≤ 9223372036854775807) : (execOp ρ o).run P w = .ok (.value (.string (s ++ s'))) w := by
  have h1 := run_string_add_sum (P := P) w s s' h
  simp [execOp, ho, hx, hy, binOp, h1, go_sem]

theorem r_com (ho : o.op = .unOp .xor t x) (hx : ρ x = .int k a) : (execOp ρ o).run P w = .ok (.value (.int k (bits .xor k (if k.signed = true then -1 else k.max) a))) w := by
  simp [execOp, ho, hx, Op.unary, go_sem]

theorem r_eqlBool {c d : Bool} (ho : o.op = .binOp .eql t x y u) (hx : ρ x = .bool c) (hy : ρ y = .bool d) (h : P.underlying t = some .bool) : (execOp ρ o).run P w = .ok (.value (.bool (c == d))) w := by
  have h1 := run_eql_bool (P := P) w t c d h
  simp [execOp, ho, hx, hy, h1, eqGuard]
theorem r_neqBool {c d : Bool} (ho : o.op = .binOp .neq t x y u) (hx : ρ x = .bool c) (hy : ρ y = .bool d) (h : P.underlying t = some .bool) : (execOp ρ o).run P w = .ok (.value (.bool (!(c == d)))) w := by
  have h1 : (Op.equal t (.bool c) (.bool d)).run P w = .ok (c == d) w := by
    simp only [Op.equal, Op.maxDepth]
    exact run_equalIn_bool' _ _ _ _ _ h
  simp [execOp, ho, hx, hy, binOp, h1, eqGuard]

/-- bytes as a string -/
theorem r_toStr {v : Value} {n : Nat} {l : List UInt8} (ho : o.op = .convert t u x) (hx : ρ x = v) (hr : Rd w F v n 1 (l.map U8)) (hs : sliceElem P t = some e) (he : P.underlying e = some (.int .u8)) (hd : P.underlying u = some .string) :
    (execOp ρ o).run P w = .ok (.value (.string ⟨l.toArray⟩)) w := by
  have hs' := sliceElem_und hs
  · obtain ⟨A, c, rfl, hc, hm, hl, hcell⟩ := hr
    rw [List.length_map, Nat.mul_one] at hl
    subst hl
    suffices h : (convert t u (.slice A l.length c)).run P w = .ok (.string ⟨l.toArray⟩) w by
      simp [execOp, ho, hx, h]
    by_cases h0 : l.length = 0
    · have : l = [] := List.eq_nil_of_length_eq_zero h0
      subst this
      show (convert t u (.slice A 0 c)).run P w = _
      rw [run_convert_bytes_string w t u e A 0 c hs' he hd]
      cases A with
      | none => rfl
      | some p => simp [Conv.bytesToString, loadCells, loadCellsFrom]; rfl
    · obtain ⟨b, off, rfl, _, _, hcl⟩ := hcell h0
      refine run_convert_bytes_back w t u e _ c l hs' he hd fun j hj => ?_
      rw [Addr.add_lit]
      exact hcl j _ (by simp [hj, U8])
end

section
variable {P : Program} {N : Nat} {ops : Array Oper} {Q : Exit → Act → World → Prop} {o : Oper} {E : Env} {w : World} {d : Nat} {v : Value} {K : Env → World → Prop} {F : Nat → Prop}

/-- where a struct's fields stand: offset and cells -/
def placesOf (P : Program) (t : TypeId) : Option (List (Nat × Nat)) :=
  match P.underlying t with
  | some (.struct fs) => fs.toList.mapM fun f => (P.info? f.type).map fun q => (f.offset, q.size)
  | _ => none
def zeroOf (P : Program) (t : TypeId) : Option Value := (P.info? t).bind (·.zero)
/-- an array's elements -/
def arrayOf (P : Program) (t : TypeId) : Option Nat :=
  match P.underlying t with
  | some (.array _ el) => (P.info? el).map (·.size)
  | _ => none

theorem run_mapM_list {α β : Type} {f : α → Sem β} {g : α → β} : ∀ (l : List α), (∀ x ∈ l, ∀ w, (f x).run P w = .ok (g x) w) → ∀ w, (l.mapM f).run P w = .ok (l.map g) w
  | [], _, w => by simp
  | x :: l, h, w => by
    have h1 := h x (by simp) w
    have h2 := run_mapM_list l (fun y hy => h y (by simp [hy])) w
    simp [List.mapM_cons, h1, h2]

theorem run_zeroValue {t : TypeId} {z : Value} (hz : zeroOf P t = some z) : (zeroValue t).run P w = .ok z w := by
  unfold zeroOf at hz
  cases hi : P.info? t with
  | none => simp [hi] at hz
  | some i => simp only [hi, Option.bind_some] at hz; simp [zeroValue, typeInfo, hi, hz]

theorem mapM_option {α β : Type} {f : α → Option β} : ∀ {l : List α} {r : List β}, l.mapM f = some r → r.length = l.length ∧ ∀ i : Nat, ∀ x, l[i]? = some x → f x = r[i]?
  | [], r, h => by simp at h; subst h; simp
  | a :: l, r, h => by
    simp only [List.mapM_cons, Option.bind_eq_bind, Option.bind_eq_some_iff] at h
    obtain ⟨b, hb, r', hr, h⟩ := h
    simp only [Option.pure_def, Option.some.injEq] at h
    subst h
    have := mapM_option hr
    refine ⟨by simp [this.1], fun i x hx => ?_⟩
    cases i with
    | zero => simp at hx; subst hx; simpa using hb
    | succ i => simpa using this.2 i x (by simpa using hx)

theorem run_build {t : TypeId} {parts : Array (Nat × Value)} {pl : List (Nat × Nat)} {z : Value} {cs : Array Value} (hp : placesOf P t = some pl) (hz : zeroOf P t = some z) (hb : Instr.fill (fun i => pl[i]?) z.cells parts.toList = some cs) :
    (Instr.build t parts).run P w = .ok (.agg cs) w := by
  unfold placesOf at hp
  cases hu : P.underlying t with
  | none => simp [hu] at hp
  | some d =>
    rw [hu] at hp
    cases d <;> simp at hp
    rename_i fs
    have hpl := mapM_option hp
    have hok' : ∀ f ∈ fs.toList, (P.info? f.type).isSome = true := fun f hf => by
      obtain ⟨i, hi, he⟩ := List.getElem_of_mem hf
      have h1 := hpl.2 i f (by rw [List.getElem?_eq_getElem hi, he])
      rw [List.getElem?_eq_getElem (by rw [hpl.1]; exact hi)] at h1
      cases hq : P.info? f.type with
      | none => simp [hq] at h1
      | some q => rfl
    have hm : (fs.mapM (m := Sem) fun f => do pure (f.offset, ← sizeOf f.type)).run P w = .ok (fs.map fun f => (f.offset, ((P.info? f.type).map (·.size)).getD 0)) w := by
      have h1 := run_mapM_list (P := P) (f := fun f : Field => do pure (f.offset, ← sizeOf f.type)) (g := fun f => (f.offset, ((P.info? f.type).map (·.size)).getD 0)) fs.toList (fun f hf w => by
        have := hok' f hf
        obtain ⟨q, hq⟩ := Option.isSome_iff_exists.1 this
        simp [sizeOf, typeInfo, hq]) w
      rw [Array.mapM_eq_mapM_toList]
      simp only [Sem.run_map, h1]
      simp only [Result.andThen_ok]
      exact congrArg (fun q => Result.ok q w) (Array.ext' (by simp))
    have hf : (fun (i : Nat) => (fs.map fun (f : Field) => (f.offset, ((P.info? f.type).map (·.size)).getD 0))[i]?) = (fun i => pl[i]?) := by
      funext i
      rw [Array.getElem?_map]
      cases hg : fs[i]? with
      | none =>
        have : pl.length ≤ i := by rw [hpl.1]; simpa using hg
        rw [List.getElem?_eq_none this]; rfl
      | some f =>
        have h1 := hpl.2 i f (by simpa using hg)
        rw [← h1]
        have : f ∈ fs.toList := by rw [Array.mem_toList_iff]; exact Array.mem_of_getElem? hg
        obtain ⟨q, hq⟩ := Option.isSome_iff_exists.1 (hok' f this)
        simp [hq]
    simp only [Instr.build, Sem.run_bind, run_zeroValue hz, Result.andThen_ok, run_underlying hu, hm, hf]
    simp only [hb]
    rfl

theorem run_buildA {t : TypeId} {parts : Array (Nat × Value)} {sz : Nat} {z : Value} {cs : Array Value} (hp : arrayOf P t = some sz) (hz : zeroOf P t = some z) (hb : Instr.fill (fun i => some (i * sz, sz)) z.cells parts.toList = some cs) :
    (Instr.build t parts).run P w = .ok (.agg cs) w := by
  unfold arrayOf at hp
  cases hu : P.underlying t with
  | none => simp [hu] at hp
  | some d =>
    rw [hu] at hp
    cases d <;> simp at hp
    obtain ⟨q, hq, rfl⟩ := hp
    simp [Instr.build, run_underlying hu, run_zeroValue hz, sizeOf, typeInfo, hq, hb]

def evps (E : Env) : List (Nat × Operand) → List (Nat × Value) → Prop
  | [], [] => True
  | (i, x) :: l, (j, v) :: vs => (i = j ∧ Env.ev E x = v) ∧ evps E l vs
  | _, _ => False
theorem evps_map {E : Env} : ∀ {l : List (Nat × Operand)} {vs : List (Nat × Value)}, evps E l vs → l.map (fun p => (p.1, Env.ev E p.2)) = vs
  | [], [], _ => rfl
  | (i, x) :: l, (j, v) :: vs, h => by simp [h.1.1, h.1.2, evps_map h.2]

theorem r_build {t : TypeId} {ps : Array (Nat × Operand)} {vs : List (Nat × Value)} {pl : List (Nat × Nat)} {z : Value} {cs : Array Value} (ho : o.op = .build t ps) (hv : evps E ps.toList vs) (hp : placesOf P t = some pl) (hz : zeroOf P t = some z) (hb : Instr.fill (fun i => pl[i]?) z.cells vs = some cs) :
    (execOp (Env.ev E) o).run P w = .ok (.value (.agg cs)) w := by
  have h1 : (ps.map fun (p : Nat × Operand) => (p.1, Env.ev E p.2)).toList = vs := by rw [← evps_map hv]; simp
  have h2 := run_build (P := P) (w := w) (parts := ps.map fun (p : Nat × Operand) => (p.1, Env.ev E p.2)) hp hz (by rw [h1]; exact hb)
  simp only [execOp, ho, Sem.run_bind, h2, Result.andThen_ok, Sem.run_pure]
theorem r_buildA {t : TypeId} {ps : Array (Nat × Operand)} {vs : List (Nat × Value)} {sz : Nat} {z : Value} {cs : Array Value} (ho : o.op = .build t ps) (hv : evps E ps.toList vs) (hp : arrayOf P t = some sz) (hz : zeroOf P t = some z) (hb : Instr.fill (fun i => some (i * sz, sz)) z.cells vs = some cs) :
    (execOp (Env.ev E) o).run P w = .ok (.value (.agg cs)) w := by
  have h1 : (ps.map fun (p : Nat × Operand) => (p.1, Env.ev E p.2)).toList = vs := by rw [← evps_map hv]; simp
  have h2 := run_buildA (P := P) (w := w) (parts := ps.map fun (p : Nat × Operand) => (p.1, Env.ev E p.2)) hp hz (by rw [h1]; exact hb)
  simp only [execOp, ho, Sem.run_bind, h2, Result.andThen_ok, Sem.run_pure]

/-- a new row of values that are written out -/
def rowCells (z : Value) (n : Nat) : Array Value := (List.replicate n z.cells.toList).flatten.toArray
theorem rowCells_eq (z : Value) (n sz : Nat) (hz : z.cells.size = sz) (h0 : 0 < sz) : (Array.range (n * sz)).map (z.cells[· % z.cells.size]!) = rowCells z n := by
  apply Array.ext
  · simp [rowCells, hz, List.length_flatten, List.map_replicate, List.sum_replicate_nat]
  · intro i h1 h2
    simp at h1
    simp only [Array.getElem_map, Array.getElem_range, rowCells, List.getElem_toArray]
    have hlt : i % z.cells.size < z.cells.size := Nat.mod_lt _ (by omega)
    rw [getElem!_pos z.cells (i % z.cells.size) hlt]
    have key : ∀ (n i : Nat) (h : i < (List.replicate n z.cells.toList).flatten.length), (List.replicate n z.cells.toList).flatten[i] = z.cells[i % z.cells.size]'(Nat.mod_lt _ (by omega)) := by
      intro n
      induction n with
      | zero => intro i h; simp at h
      | succ n ih =>
        intro i h
        simp only [List.replicate_succ, List.flatten_cons]
        rw [List.getElem_append]
        split
        · rename_i h3
          simp only [Array.getElem_toList]
          congr 1
          exact (Nat.mod_eq_of_lt (by simpa using h3)).symm
        · rename_i h3
          rw [ih]
          congr 1
          simp at h3 ⊢
          rw [← Nat.mod_eq_sub_mod h3]
    exact (key n i (by simpa [rowCells] using h2)).symm

theorem r_buildSlice {t e : TypeId} {by_ sz n : Nat} {z : Value} {ps : Array (Nat × Operand)} {vs : List (Nat × Value)} {cs : Array Value} (ho : o.op = .buildSlice t n ps) (hv : evps E ps.toList vs) (hr : RowT P t e sz by_ z) (hn : Nat.ble (n * sz) 16777216 = true)
    (hb : Instr.fill (fun i => some (i * sz, sz)) (rowCells z n) vs = some cs) : (execOp (Env.ev E) o).run P w = .ok (.value (.slice (some ⟨w.heap.size, 0, none⟩) n n)) (w.alloc (.cells cs e)) := by
  have h1 : (ps.map fun (p : Nat × Operand) => (p.1, Env.ev E p.2)).toList = vs := by rw [← evps_map hv]; simp
  obtain ⟨i, hi, hz, _, _⟩ := hr.parts
  have h2 := run_buildSlice (P := P) (w := w) (z := z) (n := n) (parts := ps.map fun (p : Nat × Operand) => (p.1, Env.ev E p.2)) hr.und hr.sizeIs (by simp [hi, hz]) (Nat.le_of_ble_eq_true hn) (by rw [rowCells_eq z n sz hr.cells hr.pos, h1]; exact hb)
  simp only [execOp, ho, Sem.run_bind, h2, Result.andThen_ok, Sem.run_pure]

theorem fill_one : ∀ (vs : List Value) (i : Nat) (cells : Array Value), (∀ v ∈ vs, v.oneCell' = true) → i + vs.length ≤ cells.size →
    Instr.fill (fun i => some (i * 1, 1)) cells (vs.zipIdx i |>.map fun p => (p.2, p.1)) = some (cells.toList.take i ++ vs ++ cells.toList.drop (i + vs.length)).toArray
  | [], i, cells, _, _ => by simp [Instr.fill]
  | v :: vs, i, cells, h, hl => by
    have hv := oneCell_cells (h v (by simp))
    simp only [List.length_cons] at hl
    have hi : i < cells.size := by omega
    have ih := fill_one vs (i + 1) (cells.setIfInBounds i v) (fun u hu => h u (by simp [hu])) (by simp; omega)
    simp only [List.zipIdx_cons, List.map_cons, Instr.fill, hv]
    have h1 : ¬ (1 ≠ 1 || decide (i * 1 + 1 > cells.size)) = true := by simp; omega
    simp only [List.size_toArray, List.length_cons, List.length_nil, Nat.zero_add]
    rw [if_neg h1]
    have h2 : (#[v].zipIdx.foldl (fun cs (x : Value × Nat) => cs.setIfInBounds (i * 1 + x.2) x.1) cells) = cells.setIfInBounds i v := by simp
    rw [h2, ih]
    congr 2
    simp only [Array.toList_setIfInBounds]
    rw [List.drop_set_of_lt (by omega), show i + 1 + vs.length = i + (vs.length + 1) by omega]
    have h3 : (cells.toList.set i v).take (i + 1) = cells.toList.take i ++ [v] := by
      rw [List.take_succ_eq_append_getElem (by simpa using hi)]
      simp [List.take_set_of_le]
    rw [h3]
    simp

/-- one-cell elements, all written out -/
theorem r_buildSlice1 {t e : TypeId} {by_ n : Nat} {z : Value} {ps : Array (Nat × Operand)} {vs : List Value} (ho : o.op = .buildSlice t n ps) (hv : evs E (ps.toList.map (·.2)) vs) (hi : ps.toList.map (·.1) = List.range n) (hr : RowT P t e 1 by_ z) (hn : Nat.ble n 16777216 = true)
    (h1 : vs.all Value.oneCell' = true) : (execOp (Env.ev E) o).run P w = .ok (.value (.slice (some ⟨w.heap.size, 0, none⟩) n n)) (w.alloc (.cells vs.toArray e)) := by
  have hl : vs.length = n := by
    have h2 := congrArg List.length (evs_map hv)
    have h3 := congrArg List.length hi
    simp at h2 h3
    omega
  have hps : (ps.map fun (p : Nat × Operand) => (p.1, Env.ev E p.2)).toList = (vs.zipIdx 0 |>.map fun p => (p.2, p.1)) := by
    apply List.ext_getElem?
    intro i
    have h2 := evs_map hv
    simp only [Array.toList_map, List.getElem?_map, List.getElem?_zipIdx]
    have h3 : vs[i]? = (ps.toList[i]?).map (fun p => Env.ev E p.2) := by rw [← h2]; simp [Function.comp_def]
    have h4 : (ps.toList[i]?).map (·.1) = (List.range n)[i]? := by rw [← hi]; simp
    cases hp : ps.toList[i]? with
    | none => rw [hp] at h3; simp at h3; simp [h3]
    | some p =>
      rw [hp] at h3 h4
      simp only [Option.map_some] at h3 h4
      have h5 : i < n := by
        rcases Nat.lt_or_ge i n with h | h
        · exact h
        · rw [List.getElem?_eq_none (by simpa using h)] at h4; cases h4
      rw [List.getElem?_range h5] at h4
      injection h4 with h4
      simp [h3, h4]
  obtain ⟨i, hi', hz, _, _⟩ := hr.parts
  have hfill := fill_one vs 0 (rowCells z n) (fun v hv => List.all_eq_true.1 h1 v hv) (by
    have hzc := hr.cells
    simp [rowCells, hzc, List.length_flatten, List.map_replicate, List.sum_replicate_nat, hl])
  have hb : Instr.fill (fun i => some (i * 1, 1)) (rowCells z n) (ps.map fun (p : Nat × Operand) => (p.1, Env.ev E p.2)).toList = some vs.toArray := by
    rw [hps, hfill]
    have hzc := hr.cells
    have : (rowCells z n).toList.drop (0 + vs.length) = [] := List.drop_eq_nil_of_le (by simp [rowCells, hzc, List.length_flatten, List.map_replicate, List.sum_replicate_nat, hl])
    rw [this]
    simp
  have h2 := run_buildSlice (P := P) (w := w) (z := z) (n := n) (sz := 1) (parts := ps.map fun (p : Nat × Operand) => (p.1, Env.ev E p.2)) hr.und hr.sizeIs (by simp [hi', hz]) (by have := Nat.le_of_ble_eq_true hn; omega) (by rw [rowCells_eq z n 1 hr.cells hr.pos]; exact hb)
  simp only [execOp, ho, Sem.run_bind, h2, Result.andThen_ok, Sem.run_pure]

theorem r_boxAgg {ρ : Operand → Value} {t : TypeId} {x : Operand} {cs : Array Value} (ho : o.op = .box t x) (hx : ρ x = .agg cs) : (execOp ρ o).run P w = .ok (.value (.pointer (some ⟨w.heap.size, 0, none⟩))) (w.alloc (.cells cs t)) := by
  simp [execOp, ho, hx, Instr.box, newVar, newRow, Value.cells]
theorem r_box1 {ρ : Operand → Value} {t : TypeId} {x : Operand} (ho : o.op = .box t x) (hx : ρ x = v) (h1 : v.oneCell' = true) : (execOp ρ o).run P w = .ok (.value (.pointer (some ⟨w.heap.size, 0, none⟩))) (w.alloc (.cells #[v] t)) := by
  have := oneCell_cells h1
  simp only [execOp, ho, hx, Instr.box, newVar, newRow, this]
  simp
theorem r_alloc {ρ : Operand → Value} {t : TypeId} {z : Value} (ho : o.op = .alloc t) (hz : zeroOf P t = some z) : (execOp ρ o).run P w = .ok (.value (.pointer (some ⟨w.heap.size, 0, none⟩))) (w.alloc (.cells z.cells t)) := by
  simp [execOp, ho, Instr.alloc, run_zeroValue hz, newVar, newRow]

/-- a string's bytes, in memory of their own -/
theorem SO.toBytes {x : Operand} {t u e : TypeId} {s : ByteArray} (ho' : o.op = .convert t u x) (hx : Env.ev E x = .string s) (ht : P.underlying t = some .string) (hu : sliceElem P u = some e) (he : P.underlying e = some (.int .u8)) (hm : s.size ≤ 140737488355328)
    (hd : o.dst = some d) (hN : Nat.blt d N = true) (ho : opsOK E o = true) (hw : wantedE ops E o = some true)
    (k : ∀ A c w', Rd w' (New w w') (.slice A s.size c) s.size 1 (s.toList.map U8) → Upd No w w' → K ((d, .slice A s.size c) :: E) w') : SO P N ops Q o K E w := by
  have hu' := sliceElem_und hu
  have hrun := run_bytes_of_string (P := P) w t u e s ht hu' he
  have hrun2 : (execOp (Env.ev E) o).run P w = .ok (.value (.slice (some ⟨w.heap.size, 0, none⟩) s.size (grownCap w s.size 0 e)))
      (w.drew.alloc (.cells (bytesRow s (grownCap w s.size 0 e)) e ((bytesRow s (grownCap w s.size 0 e)).size, (bytesRow s (grownCap w s.size 0 e)).size + 1))) := by
    simp only [execOp, ho', hx, Sem.run_bind, hrun, Result.andThen_ok, Sem.run_pure]
  refine SO.val hd hN ho hw hrun2 (k _ _ _ ?_ ?_)
  · have hlen : s.size ≤ grownCap w s.size 0 e := grownCap_ge _ _ _ _
    refine ⟨_, _, rfl, hlen, hm, by simp [ByteArray.toList_eq], fun _ => ⟨_, 0, rfl, ⟨Nat.le_refl _, by simp⟩, by simp, fun j u hj => ?_⟩⟩
    have hj' : j < s.size := by
      have := (List.getElem?_eq_some_iff.1 hj).1
      simpa [ByteArray.toList_eq] using this
    rw [Nat.zero_add]
    have hh : (w.drew.alloc (.cells (bytesRow s (grownCap w s.size 0 e)) e ((bytesRow s (grownCap w s.size 0 e)).size, (bytesRow s (grownCap w s.size 0 e)).size + 1))).cell? ⟨w.heap.size, j, none⟩ = (bytesRow s (grownCap w s.size 0 e))[j]? := by
      have hp : (w.drew.alloc (.cells (bytesRow s (grownCap w s.size 0 e)) e ((bytesRow s (grownCap w s.size 0 e)).size, (bytesRow s (grownCap w s.size 0 e)).size + 1))).heap[w.heap.size]? = some (.cells (bytesRow s (grownCap w s.size 0 e)) e ((bytesRow s (grownCap w s.size 0 e)).size, (bytesRow s (grownCap w s.size 0 e)).size + 1)) := heap_alloc_new w.drew _
      unfold World.cell?
      rw [hp]
      rfl
    rw [hh]
    simp only [ByteArray.toList_eq, List.getElem?_map] at hj
    simp only [bytesRow]
    rw [Array.getElem?_append_left (by simpa using hj')]
    simp only [Array.getElem?_map]
    have hd' : s.data[j]? = some s.data[j] := by rw [Array.getElem?_eq_getElem]
    have hd2 : s.data.toList[j]? = some s.data[j] := by simp
    rw [hd2] at hj
    rw [hd']
    simpa [U8] using hj
  · exact ⟨rfl, rfl, rfl, by simp, fun k hk _ => Go.RowKit.Below.heap_alloc w.drew _ k hk⟩
end
/-! a conversion of a slice to its own type: its row's mark -/
section
variable {P : Program} {o : Oper} {w : World} {x : Operand} {t e : TypeId} {N d : Nat} {ops : Array Oper} {Q : Exit → Act → World → Prop} {K : Env → World → Prop} {E : Env}

theorem heap_freeze {b n : Nat} {cs : Array Value} {T : TypeId} {z : Nat × Nat} (h : w.heap[b]? = some (.cells cs T z)) : ∃ z', (w.freeze ⟨b, n, none⟩ 1).heap[b]? = some (.cells cs T z') := by
  obtain ⟨lo, hi⟩ := z
  refine ⟨if lo == hi then (n, n + 1) else (min lo n, max hi (n + 1)), ?_⟩
  simp only [World.freeze]
  rw [if_neg (by omega)]
  simp [Array.getElem?_modify, h]

theorem Upd.freeze (w : World) (a : Addr) (n : Nat) : Upd (At a.block) w (w.freeze a n) := by
  unfold World.freeze
  split
  · exact Upd.refl _ _
  · refine ⟨rfl, rfl, rfl, by simp, fun k hk hS => ?_⟩
    have hne : ¬ a.block = k := fun h => hS h.symm
    simp [Array.getElem?_modify, hne]

theorem Rd.of_heap {F : Nat → Prop} {b n sz : Nat} {cs : Array Value} {T : TypeId} {z : Nat × Nat} (h : w.heap[b]? = some (.cells cs T z)) (hF : F b) (hn : cs.size = n * sz) (hm : n ≤ 140737488355328) : Rd w F (.slice (some ⟨b, 0, none⟩) n n) n sz cs.toList := by
  have hlt : b < w.heap.size := by
    rcases Nat.lt_or_ge b w.heap.size with h' | h'
    · exact h'
    · rw [Array.getElem?_eq_none h'] at h; cases h
  refine ⟨_, _, rfl, Nat.le_refl _, hm, by simp [hn], fun _ => ⟨b, 0, rfl, hF, hlt, fun j u hj => ?_⟩⟩
  rw [Array.getElem?_toList] at hj
  simp [World.cell?, h, hj]

theorem SO.convSS {b n c : Nat} {cs : Array Value} {T : TypeId} {z : Nat × Nat} (ho' : o.op = .convert t t x) (hx : Env.ev E x = .slice (some ⟨b, 0, none⟩) n c) (hu : sliceElem P t = some e) (he : P.underlying e = some (.int .u8)) (hb : w.heap[b]? = some (.cells cs T z))
    (hd : o.dst = some d) (hN : Nat.blt d N = true) (ho : opsOK E o = true) (hw : wantedE ops E o = some true)
    (k : ∀ w' z', Upd (At b) w w' → w'.heap[b]? = some (.cells cs T z') → w'.heap.size = w.heap.size → K ((d, .slice (some ⟨b, 0, none⟩) n c) :: E) w') : SO P N ops Q o K E w := by
  have hu' := sliceElem_und hu
  have hsh : w.shape? b = some (T, cs.size) := by simp [World.shape?, hb]
  have hrun : (execOp (Env.ev E) o).run P w = .ok (.value (.slice (some ⟨b, 0, none⟩) n c)) (w.freeze ⟨b, cs.size, none⟩ 1) := by
    simp [execOp, ho', hx, convert, run_underlying hu', run_underlying he, markStringish, shape, freeze, hsh, Sem.run]
  obtain ⟨z', hz'⟩ := heap_freeze (n := cs.size) hb
  exact SO.val hd hN ho hw hrun (k _ z' (Upd.freeze w ⟨b, cs.size, none⟩ 1) hz' (by simp [World.freeze]))
end
theorem Own.open {w : World} {F : Nat → Prop} {T : TypeId} {sz n : Nat} {v : Value} {xs : List Value} (h : Own w F T sz v n xs) (h0 : 0 < n) :
    ∃ g cap cur, v = .slice (some ⟨g, 0, none⟩) n cap ∧ Blk w g cur T ∧ F g ∧ n ≤ cap ∧ cap ≤ maxLen ∧ cur.size = cap * sz ∧ cur.toList.take (n * sz) = xs := by
  rcases h.1.2 with ⟨rfl, rfl⟩ | ⟨g, cap, cur, rfl, _, hg, hc, hm, hs, hx⟩
  · omega
  · exact ⟨g, cap, cur, rfl, hg, h.2 g rfl, hc, hm, hs, hx⟩
theorem Own.shut {w : World} {F : Nat → Prop} {T : TypeId} {sz n g cap : Nat} {cur : Array Value} (hb : Blk w g cur T) (hF : F g) (h1 : n ≤ cap) (h2 : cap ≤ maxLen) (h3 : cur.size = cap * sz) :
    Own w F T sz (.slice (some ⟨g, 0, none⟩) n cap) n (cur.toList.take (n * sz)) := by
  have hle : n * sz ≤ cap * sz := Nat.mul_le_mul_right _ h1
  refine ⟨⟨by rw [List.length_take, Array.length_toList, h3, Nat.min_eq_left hle], .inr ⟨g, cap, cur, rfl, Nat.zero_le _, hb, h1, h2, h3, rfl⟩⟩, fun k hk => ?_⟩
  simp only [Value.ownBlock, Option.some.injEq] at hk
  subst hk
  exact hF
/-! facts carried on, the side proof found by itself -/
theorem Blk.updA {w w' : World} {S : Nat → Prop} {b : Nat} {cs : Array Value} {T : TypeId} (h : Blk w b cs T) (hu : Upd S w w') (hn : ¬ S b := by first | exact (fun h => h) | with_reducible assumption | (simp only [At]; omega) | (simp only [At, New, Grow, From, No]; omega)) : Blk w' b cs T := h.upd hu hn
theorem Own.updA {w w' : World} {F S : Nat → Prop} {T : TypeId} {sz n : Nat} {v : Value} {xs : List Value} (h : Own w F T sz v n xs) (hu : Upd S w w') (hn : ∀ k, F k → k < w.heap.size → ¬ S k := by first | exact (fun _ _ _ h => h) | with_reducible assumption | (intro k hk hl hS; simp only [At] at hS; subst hS; contradiction) | (intro k hk hl hS; simp only [At] at hS; subst hS; exact Grow.old (by omega) (by assumption) hk) | (intro k hk hl hS; (try simp only [At, From, No, Grow, New] at hk hS); omega)) : Own w' F T sz v n xs := h.upd hu hn
theorem Rd.updA {w w' : World} {F S : Nat → Prop} {sz n : Nat} {v : Value} {xs : List Value} (h : Rd w F v n sz xs) (hu : Upd S w w') (hn : ∀ k, F k → k < w.heap.size → ¬ S k := by first | exact (fun _ _ _ h => h) | with_reducible assumption | (intro k hk hl hS; simp only [At] at hS; subst hS; contradiction) | (intro k hk hl hS; simp only [At] at hS; subst hS; exact Grow.old (by omega) (by assumption) hk) | (intro k hk hl hS; (try simp only [At, From, No, Grow, New] at hk hS); omega)) : Rd w' F v n sz xs := h.upd hu hn
theorem Upd.transA {S S' : Nat → Prop} {w w1 w2 : World} (h : Upd S w w1) (h' : Upd S' w1 w2) (hs : ∀ k, k < w.heap.size → S' k → S k := by first | exact (fun _ _ h => h) | exact (fun _ _ h => h.elim) | (intro k hl hk; (try simp only [At, New, Grow, From, No] at hk ⊢); omega)) : Upd S w w2 := h.trans h' hs
end Go.Proofs.Ytncakfcafkfmfaa

/-
  From a walk that returns true and leaves what was there to the row's statement.
-/
namespace Go.Proofs.Ytncakfcafkfmfaa
open Go Go.ChangeShapes Go.WideShapes Go.ChangeAt Go.RowKit
set_option linter.unusedSimpArgs false
set_option linter.unusedVariables false

theorem own_none : ownKnob Try.prog.godebug = none := by kernel_rfl
theorem laid_out : laidOutB Try.prog = true := by kernel_rfl

theorem trodAll_below {H : Type} {enc : TypeId × Value → H} {P : Program} (hl : laidOutB P = true) {W W' : World} (hb : Below W.heap.size W W') {sp : Nat → Bool} :
    ∀ {ts : List TypeId} {vs : List Value} {ds : List (DataW H)} {ps : List MemPlace}, (ts.all fun t => P.readableRec t && decide (t < P.types.size)) = true →
      DataW.TrodAll enc P W 0 (fun _ => true) true ts vs ds ps → (∀ x ∈ ps, x.block < W.heap.size) → (∀ x ∈ ps, sp x.block = true) → DataW.TrodAll enc P W' 0 sp true ts vs ds ps
  | [], [], [], _, _, h, _, _ => h
  | [], [], _ :: _, _, _, h, _, _ => h.elim
  | [], _ :: _, _, _, _, h, _, _ => h.elim
  | _ :: _, [], _, _, _, h, _, _ => h.elim
  | _ :: _, _ :: _, [], _, _, h, _, _ => h.elim
  | t :: ts, v :: vs, d :: ds, _, hr, ⟨p, q, h1, h2, e⟩, hlt, hs => by
    simp only [List.all_cons, Bool.and_eq_true, decide_eq_true_eq] at hr
    refine ⟨p, q, ?_, ?_, e⟩
    · exact WideElems.Trod_stays hl hr.1.1 hr.1.2 h1 (fun x hx => hb.same (hlt x (by rw [e]; simp [hx]))) (fun x hx => hs x (by rw [e]; simp [hx]))
    · exact trodAll_below hl hb hr.2 h2 (fun x hx => hlt x (by rw [e]; simp [hx])) (fun x hx => hs x (by rw [e]; simp [hx]))

theorem trodAll_length {H : Type} {enc : TypeId × Value → H} {P : Program} {w : World} {b : Nat} {sp : Nat → Bool} {hd : Bool} :
    ∀ {ts : List TypeId} {vs : List Value} {ds : List (DataW H)} {ps : List MemPlace}, DataW.TrodAll enc P w b sp hd ts vs ds ps → ds.length = ts.length
  | [], [], [], _, _ => rfl
  | [], [], _ :: _, _, h => h.elim
  | [], _ :: _, _, _, h => h.elim
  | _ :: _, [], _, _, h => h.elim
  | _ :: _, _ :: _, [], _, h => h.elim
  | _ :: _, _ :: _, _ :: _, _, ⟨_, _, _, h2, _⟩ => by simp [trodAll_length h2]

set_option maxRecDepth 100000 in
theorem law_returns {H : Type} {enc : TypeId × Value → H} {os : Os} {f : FuncId} {fn : Func} {s : ChangeSpec} {tb : TypeId} {conds : List PathCond} (started : os.Started)
    (hfn : Try.prog.funcs[f]? = some fn) (noInit : Try.prog.inits.idxOf? f = none) (hv : s.vars = [])
    (hspec : ∀ ds : List (DataW H), ds.length = fn.params.toList.length → s.fn H ds = { results := [.lit (.bool true)], args := ds })
    (hres : fn.resultTypes = #[tb]) (htb : Try.prog.underlying tb = some .bool)
    (hrd : (fn.params.toList.all fun t => Try.prog.readableRec t && decide (t < Try.prog.types.size)) = true)
    (witness : ∃ (w : World) (tape : Tape) (i : Input), w.os = os ∧ (w.forCall tape i).Shaped Try.checked.prog ∧ i.vars = [] ∧ Input.okWide Try.checked.prog (w.forCall tape i) .any w.heap.size f i ∧
      s.pre6 enc Try.checked.prog fn conds false (w.forCall tape i).memory i.args ∧ ({} : Assume).holds Try.checked.prog (lone (Frame.enter Try.checked.prog f i.args .normal) [] (w.forCall tape i)))
    (walk : ∀ (W : World) (base : Nat) (args : Array Value) (ds : List (DataW H)) (ps : List MemPlace),
      (∀ (j : Nat) t v, fn.params[j]? = some t → args[j]? = some v → Value.okWide Try.prog W .any base t v) →
      DataW.TrodAll enc Try.prog W 0 (fun _ => true) true fn.params.toList args.toList ds ps →
      conds.all (PathCond.test Try.prog ⟨fn.params.toList, ds, [], []⟩) = true →
      (DataW.weightsEach Try.prog fn.params.toList ds).all (· ≤ reachBytes) = true →
      Ret Try.prog f args W fun v W' => v = .bool true ∧ Upd No W W') :
    ReturnsInHanded {} Try.checked os f .any (s.pre6 enc Try.prog fn conds false) (s.post enc Try.prog fn false true false false) := by
  refine returnsInHanded_of_change_shaped (C := Try.checked) own_none started noInit hfn witness ?_
  intro W base args ds gs before hval hW hcnd hwt _ _
  have hW' := hW
  obtain ⟨p, q, hA, hV, rfl, hz, hnd⟩ := hW
  have hvt : s.plain.varTypes Try.checked.prog = [] := by simp [ChangeSpec.plain, DataSpec.varTypes, hv]
  have hV0 := hV
  rw [hv] at hV
  obtain ⟨rfl, rfl⟩ := trodVars_none hV
  simp only [hvt, List.append_nil] at hwt hcnd hW' hz
  have hA' : DataW.TrodAll enc Try.prog W 0 (fun _ => true) true fn.params.toList args.toList ds p := hA
  refine Calls.mono (walk W base args ds p hval hA' hcnd hwt) ?_
  rintro e W' ⟨v, rfl, rfl, hu⟩
  have hb : Below W.heap.size W W' := hu.below (Nat.le_refl _) (fun _ h => h.elim)
  have hlt : ∀ x ∈ p, x.block < W.heap.size := hA'.lt
  have hsf := hspec ds (trodAll_length hA')
  have harg : ∀ sp : Nat → Bool, (∀ x ∈ p, sp x.block = true) → DataW.TrodAll enc Try.prog W' 0 sp true fn.params.toList args.toList ds p := fun sp hs => trodAll_below laid_out hb hrd hA' hlt hs
  have hr1 : ∀ (b : Nat) (sp : Nat → Bool) (hd : Bool), DataW.TrodAll enc Try.prog W' b sp hd fn.resultTypes.toList ((Value.bool true).resultList fn.resultTypes.size) [.lit (.bool true)] [] := fun b sp hd => by
    rw [hres]
    exact trodAll_cons_mk (p' := []) (shut_bool htb _) trodAll_mk0
  have hvars : ∀ sp : Nat → Bool, DataW.TrodVars enc Try.prog W' sp s.vars [] [] := fun sp => by
    rw [hv]; exact rfl
  refine ⟨_, rfl, ds, [], p, [], p, [], hW', ?_, ?_, ?_, World.keptBut_mono (fun _ f => f.elim) (hb.frame fun _ => False), fun h => by cases h⟩
  · rw [List.append_nil, hsf]; exact hr1 _ _ _
  · rw [List.append_nil, hsf]; exact harg _ (fun x hx => by simpa using hlt x hx)
  · rw [List.append_nil, hsf]; exact hvars _
end Go.Proofs.Ytncakfcafkfmfaa

/-
  Arguments opened: bytes.
-/
namespace Go.Proofs.Ytncakfcafkfmfaa
open Go Go.ChangeShapes Go.WideShapes Go.ChangeAt Go.RowKit Go.Deep
set_option linter.unusedSimpArgs false
set_option linter.unusedVariables false

theorem okWide_slice {P : Program} {W : World} {base : Nat} {t e : TypeId} {v : Value} (ht : P.underlying t = some (.slice e)) (hv : Value.okWide P W .any base t v) :
    v = .slice none 0 0 ∨ ∃ b off len cap, v = .slice (some ⟨b, off, none⟩) len cap ∧ len ≤ cap := by
  cases v with
  | slice A len cap =>
    cases A with
    | none =>
      cases len <;> cases cap <;> first | exact .inl rfl | (exfalso; simp [Value.okWide, ht, Cell.okWide, Cell.ok] at hv)
    | some a =>
      obtain ⟨b, off, sp⟩ := a
      simp only [Value.okWide, ht, Cell.okWide, Cell.ok] at hv
      have := hv.2.2.2.1
      simp only at this
      subst this
      exact .inr ⟨b, off, len, cap, rfl, hv.1⟩
  | _ => exfalso; simp [Value.okWide, ht, Cell.okWide, Cell.ok] at hv

theorem cell_lt {w : World} {b off : Nat} {v : Value} (h : w.cell? ⟨b, off, none⟩ = some v) : b < w.heap.size := by
  rcases Nat.lt_or_ge b w.heap.size with h1 | h1
  · exact h1
  · simp [World.cell?, Array.getElem?_eq_none h1] at h

/-- a byte, off a value -/
def byteOf : Value → UInt8
  | .int _ z => UInt8.ofNat z.toNat
  | _ => 0

theorem open_bytes {H : Type} {enc : TypeId × Value → H} {P : Program} {W : World} {base : Nat} {v : Value} {d : DataW H} {ps : List MemPlace} {t e : TypeId} (ht : P.underlying t = some (.slice e)) (he : P.underlying e = some (.int .u8))
    (hc : P.cellsOf e = 1) (hby : P.bytesOf e = 1) (hv : Value.okWide P W .any base t v) (h : DataW.Trod enc P W 0 (fun _ => true) true t v d ps) (hw : (d.weights P t).all (· ≤ reachBytes) = true) :
    ∃ l : List UInt8, Rd W (fun k => k < W.heap.size) v l.length 1 (l.map U8) ∧ l.length ≤ 140737488351232 := by
  obtain ⟨fuel, h⟩ := h
  rcases okWide_slice ht hv with rfl | ⟨b, off, len, cap, rfl, hle⟩
  · exact ⟨[], Rd.nil _ _ _, by simp⟩
  · rcases open_slice1 ht hc h with ⟨hcs, _⟩ | ⟨a, len', cap', m, n, V, D, Pl, hcs, _, hl, hm, hmm, hx, hcell⟩
    · simp [Value.cells] at hcs
    · simp only [Value.cells, List.cons.injEq, Value.slice.injEq, and_true, Option.some.injEq] at hcs
      obtain ⟨rfl, rfl, rfl⟩ := hcs
      simp only [if_true] at hmm
      subst hmm
      have hd : d = .slice ((List.range len).map D) ((List.range (m - len)).map fun j => D (len + j)) := by
        injection hx
      have hsz : len ≤ 140737488351232 := by
        subst hd
        simp only [DataW.weights, ht, List.all_cons, Bool.and_eq_true, decide_eq_true_eq, List.length_map, List.length_range, hby] at hw
        have h1 := hw.1
        have h2 : reachBytes = 140737488351232 := rfl
        omega
      have hV : ∀ i, i < len → W.cell? ⟨b, off + i, none⟩ = some (U8 (byteOf (V i))) := fun i hi => by
        obtain ⟨h1, h2⟩ := hcell i (by omega)
        obtain ⟨z, hz, _, hwf⟩ := DataW.trod_int he h2
        have hVi : V i = .int .u8 z := by simpa using hz
        have hbd := bounds_u8 hwf
        have : Value.int .u8 z = U8 (byteOf (.int .u8 z)) := by
          simp only [U8, byteOf, UInt8.toNat_ofNat']
          congr 1
          omega
        rw [hVi, ← this, ← hVi]
        simpa [Addr.add_lit] using h1
      refine ⟨(List.range len).map fun i => byteOf (V i), ⟨some ⟨b, off, none⟩, m, by simp, by simpa using hle, by simp; omega, by simp, fun h0 => ⟨b, off, rfl, ?_, ?_, fun j u hj => ?_⟩⟩, by simpa using hsz⟩
      · exact cell_lt (hV 0 (by simp at h0; omega))
      · exact cell_lt (hV 0 (by simp at h0; omega))
      · simp only [List.getElem?_map] at hj
        rcases Nat.lt_or_ge j len with h1 | h1
        · rw [List.getElem?_range h1] at hj
          simp only [Option.map_some, Option.some.injEq] at hj
          rw [← hj]
          exact hV j h1
        · rw [List.getElem?_eq_none (by simpa using h1)] at hj
          simp at hj
end Go.Proofs.Ytncakfcafkfmfaa

/-
  More operations: a string's byte.
-/
namespace Go.Proofs.Ytncakfcafkfmfaa
open Go
set_option linter.unusedSimpArgs false
set_option linter.unusedVariables false

theorem byteArray_get? (s : ByteArray) (j : Nat) : s[j]? = s.toList[j]? := by
  by_cases h : j < s.size
  · have h1 : s[j]? = some s[j] := getElem?_pos s j h
    rw [h1, ByteArray.toList_eq]
    have h2 : j < s.data.size := h
    rw [Array.getElem?_toList, Array.getElem?_eq_getElem h2]
    rfl
  · have h1 : s[j]? = none := getElem?_neg s j h
    have h2 : ¬ j < s.data.size := h
    rw [h1, ByteArray.toList_eq]
    simp
    omega

section
variable {P : Program} {ρ : Operand → Value} {o : Oper} {w : World} {x y : Operand} {t : TypeId} {k : IntKind}
theorem r_indexStr {s : ByteArray} {i : Int} {j : Nat} {c : UInt8} (ho : o.op = .index t x y) (hx : ρ x = .string s) (hy : ρ y = .int k i) (ht : P.underlying t = some .string) (hi : i = (j : Int)) (hc : s.toList[j]? = some c) :
    (execOp ρ o).run P w = .ok (.value (.int .u8 (c.toNat : Int))) w := by
  subst hi
  have h1 : s[j]? = some c := by rw [byteArray_get?]; exact hc
  simp [execOp, ho, hx, hy, Instr.index, asIntOf, run_underlying ht, h1]
theorem r_quoN {a b : Int} {u : TypeId} (ho : o.op = .binOp .quo t x y u) (hx : ρ x = .int k a) (hy : ρ y = .int k b) (ha : 0 ≤ a) (hb : 0 < b) (hk : inK k (a / b)) : (execOp ρ o).run P w = .ok (.value (.int k (a / b))) w := by
  rw [r_quo ho hx hy (by omega), Int.tdiv_eq_ediv_of_nonneg ha, wrap_in hk]
theorem r_remN {a b : Int} {u : TypeId} (ho : o.op = .binOp .rem t x y u) (hx : ρ x = .int k a) (hy : ρ y = .int k b) (ha : 0 ≤ a) (hb : 0 < b) : (execOp ρ o).run P w = .ok (.value (.int k (a % b))) w := by
  rw [r_rem ho hx hy (by omega), Int.tmod_eq_emod_of_nonneg ha]
end
end Go.Proofs.Ytncakfcafkfmfaa

/-
  Whole numbers as float64: sums, differences and products that stay below 2^53 are exact. No program in sight.
-/
namespace Go.Proofs.Ytncakfcafkfmfaa
open Go Ieee
set_option linter.unusedSimpArgs false
set_option linter.unusedVariables false

/-- the datum is the whole number a -/
def IsI (d : Datum) (a : Int) : Prop := ∃ (s : Bool) (m k : Nat), d = .number s m (-(k : Int)) ∧ m = a.natAbs * 2 ^ k ∧ (a ≠ 0 → s = decide (a < 0))

theorem signed_of {s : Bool} {m k u : Nat} {a : Int} (hm : m = a.natAbs * 2 ^ k) (hs : a ≠ 0 → s = decide (a < 0)) : signed s m u = a * 2 ^ (k + u) := by
  have h1 : ((m <<< u : Nat) : Int) = (a.natAbs : Int) * 2 ^ (k + u) := by
    rw [Nat.shiftLeft_eq, hm, Nat.mul_assoc, ← Nat.pow_add]
    push_cast
    rfl
  unfold signed
  rw [h1]
  by_cases h0 : a = 0
  · subst h0
    simp
  · have := hs h0
    subst this
    by_cases h : a < 0
    · rw [if_pos (by simpa using h)]
      have : (a.natAbs : Int) = -a := by omega
      rw [this, Int.neg_mul, Int.neg_neg]
    · rw [if_neg (by simpa using h)]
      have : (a.natAbs : Int) = a := by omega
      rw [this]

theorem pow_pos_int (k : Nat) : (0 : Int) < 2 ^ k := Int.pow_pos (by omega)

theorem sum_isI {d d' : Datum} {a b : Int} (h : IsI d a) (h' : IsI d' b) : ∃ r, d.sum d' = some r ∧ IsI r (a + b) := by
  obtain ⟨s, m, k, rfl, hm, hs⟩ := h
  obtain ⟨t, n, l, rfl, hn, ht⟩ := h'
  refine ⟨_, rfl, ?_⟩
  have hb : min (-(k : Int)) (-(l : Int)) = -((max k l : Nat) : Int) := by omega
  rw [hb]
  have e1 : (-(k : Int) - -((max k l : Nat) : Int)).toNat = max k l - k := by omega
  have e2 : (-(l : Int) - -((max k l : Nat) : Int)).toNat = max k l - l := by omega
  have f1 := signed_of (u := max k l - k) hm hs
  have f2 := signed_of (u := max k l - l) hn ht
  rw [show k + (max k l - k) = max k l by omega] at f1
  rw [show l + (max k l - l) = max k l by omega] at f2
  rw [e1, e2, f1, f2, ← Int.add_mul]
  generalize max k l = q
  have hp := pow_pos_int q
  refine ⟨_, _, q, rfl, ?_, fun hne => ?_⟩
  · rw [Int.natAbs_mul, Int.natAbs_pow]
    rfl
  · rw [if_neg (by
      intro h0
      rcases Int.mul_eq_zero.1 h0 with h1 | h1
      · exact hne h1
      · omega)]
    refine decide_eq_decide.2 ?_
    constructor
    · intro h1
      rcases Int.lt_or_le (a + b) 0 with h2 | h2
      · exact h2
      · have := Int.mul_nonneg h2 (Int.le_of_lt hp)
        omega
    · intro h1
      exact Int.mul_neg_of_neg_of_pos h1 hp

theorem product_isI {d d' : Datum} {a b : Int} (h : IsI d a) (h' : IsI d' b) : ∃ r, d.product d' = some r ∧ IsI r (a * b) := by
  obtain ⟨s, m, k, rfl, hm, hs⟩ := h
  obtain ⟨t, n, l, rfl, hn, ht⟩ := h'
  refine ⟨_, rfl, _, _, k + l, by rw [show (-(k : Int) + -(l : Int)) = -((k + l : Nat) : Int) by omega], ?_, fun hne => ?_⟩
  · rw [hm, hn, Int.natAbs_mul, Nat.pow_add]
    rw [Nat.mul_assoc, Nat.mul_left_comm (2 ^ k), ← Nat.mul_assoc]
  · have ha : a ≠ 0 := fun h => hne (by rw [h, Int.zero_mul])
    have hb : b ≠ 0 := fun h => hne (by rw [h, Int.mul_zero])
    rw [hs ha, ht hb]
    rcases Int.lt_or_le a 0 with h1 | h1 <;> rcases Int.lt_or_le b 0 with h2 | h2
    · have := Int.mul_pos_of_neg_of_neg h1 h2
      rw [decide_eq_true h1, decide_eq_true h2, decide_eq_false (by omega)]
      rfl
    · have := Int.mul_neg_of_neg_of_pos h1 (show 0 < b by omega)
      rw [decide_eq_true h1, decide_eq_false (by omega : ¬ b < 0), decide_eq_true this]
      rfl
    · have := Int.mul_neg_of_pos_of_neg (show 0 < a by omega) h2
      rw [decide_eq_false (by omega : ¬ a < 0), decide_eq_true h2, decide_eq_true this]
      rfl
    · have := Int.mul_nonneg h1 h2
      rw [decide_eq_false (by omega : ¬ a < 0), decide_eq_false (by omega : ¬ b < 0), decide_eq_false (by omega)]
      rfl

theorem opposite_isI {d : Datum} {a : Int} (h : IsI d a) : IsI d.opposite (-a) := by
  obtain ⟨s, m, k, rfl, hm, hs⟩ := h
  refine ⟨!s, m, k, rfl, by rw [Int.natAbs_neg]; exact hm, fun hne => ?_⟩
  have ha : a ≠ 0 := fun h => hne (by rw [h]; rfl)
  rw [hs ha]
  by_cases h : a < 0
  · rw [decide_eq_true h, decide_eq_false (by omega)]
    rfl
  · rw [decide_eq_false h, decide_eq_true (by omega)]
    rfl

theorem isI_zero (s : Bool) (k : Nat) : IsI (.number s 0 (-(k : Int))) 0 := ⟨s, 0, k, rfl, by simp, fun h => absurd rfl h⟩

theorem cut_zero (s : Bool) (n : Nat) : Toward.even.cut s n 0 = n := by
  simp [Toward.cut, Nat.mod_one]

theorem cut_pow (s : Bool) (way : Toward) {K q : Nat} (hK : K ≠ 0) (hw : way = .even ∨ way = .zero) : way.cut s (K * 2 ^ q) q = K := by
  have hp : 0 < 2 ^ q := Nat.pow_pos (by omega)
  have hlog : q ≤ (K * 2 ^ q).log2 := by
    have hne : K * 2 ^ q ≠ 0 := Nat.mul_ne_zero hK (by omega)
    rw [Nat.le_log2 hne]
    exact Nat.le_mul_of_pos_left _ (by omega)
  have hmin : min q ((K * 2 ^ q).log2 + 2) = q := by omega
  unfold Toward.cut
  rw [hmin, Nat.shiftLeft_eq, Nat.one_mul]
  have h1 : K * 2 ^ q / 2 ^ q = K := Nat.mul_div_cancel _ hp
  have h2 : K * 2 ^ q % 2 ^ q = 0 := Nat.mul_mod_left _ _
  rcases hw with rfl | rfl
  · simp [h1, h2]
  · simp [h1, h2]

theorem read_word {s : Bool} {E K : Nat} (h1 : 4503599627370496 ≤ K) (h2 : K < 9007199254740992) (h3 : E ≤ 1100) :
    double.read (double.word s (min (E * double.binade + K) double.infRung)) = .number s K (-1074 + (E : Int)) := by
  have hb : double.binade = 4503599627370496 := by decide
  have hi : double.infRung = 9218868437227405312 := by decide
  have hw : double.signWeight = 9223372036854775808 := by decide
  have hl : double.leastPlace = -1074 := by decide
  rw [hb, hi]
  have hmin : min (E * 4503599627370496 + K) 9218868437227405312 = E * 4503599627370496 + K := by omega
  rw [hmin]
  unfold Format.read Format.word
  rw [hb, hi, hw, hl]
  cases s
  · simp only [Bool.false_eq_true, if_false]
    rw [show (E * 4503599627370496 + K) % 9223372036854775808 = E * 4503599627370496 + K by omega, if_neg (by omega), if_pos (by omega), show ((E * 4503599627370496 + K) / 9223372036854775808 % 2 == 1) = false by rw [beq_eq_false_iff_ne]; omega,
      show 4503599627370496 + (E * 4503599627370496 + K) % 4503599627370496 = K by omega, show (E * 4503599627370496 + K) / 4503599627370496 - 1 = E by omega]
  · simp only [if_true]
    rw [show (9223372036854775808 + (E * 4503599627370496 + K)) % 9223372036854775808 = E * 4503599627370496 + K by omega, if_neg (by omega), if_pos (by omega), show ((9223372036854775808 + (E * 4503599627370496 + K)) / 9223372036854775808 % 2 == 1) = true by rw [beq_iff_eq]; omega,
      show 4503599627370496 + (E * 4503599627370496 + K) % 4503599627370496 = K by omega, show (E * 4503599627370496 + K) / 4503599627370496 - 1 = E by omega]

theorem read_write {d : Datum} {a : Int} (h : IsI d a) (hb : a.natAbs < 9007199254740992) : IsI (double.read (double.write d)) a := by
  obtain ⟨s, m, k, rfl, hm, hs⟩ := h
  show IsI (double.read (double.nearest s m (-(k : Int)))) a
  by_cases h0 : a = 0
  · subst h0
    have hm0 : m = 0 := by simpa using hm
    subst hm0
    unfold Format.nearest
    rw [if_pos rfl]
    have h1 : ∀ s : Bool, double.read (double.word s 0) = .number s 0 (-((1074 : Nat) : Int)) := by decide
    rw [h1]
    exact isI_zero s 1074
  · have hN : a.natAbs ≠ 0 := by omega
    generalize hNN : a.natAbs = N at hm hb hN
    obtain ⟨L, hL⟩ : ∃ L, L = N.log2 := ⟨_, rfl⟩
    have hlo : 2 ^ L ≤ N := by rw [hL]; exact Nat.log2_self_le hN
    have hhi : N < 2 ^ (L + 1) := by rw [hL]; exact Nat.lt_log2_self
    have hL52 : L ≤ 52 := by
      rcases Nat.lt_or_ge 52 L with h1 | h1
      · have : 2 ^ 53 ≤ 2 ^ L := Nat.pow_le_pow_right (by omega) h1
        have h53 : (2 : Nat) ^ 53 = 9007199254740992 := by decide
        omega
      · exact h1
    have hmne : m ≠ 0 := by rw [hm]; exact Nat.mul_ne_zero hN (by have := Nat.two_pow_pos k; omega)
    have hlog : m.log2 = L + k := by
      rw [Nat.log2_eq_iff hmne, hm]
      constructor
      · rw [Nat.pow_add]; exact Nat.mul_le_mul_right _ hlo
      · rw [show L + k + 1 = (L + 1) + k by omega, Nat.pow_add _ (L + 1)]
        exact Nat.mul_lt_mul_of_pos_right hhi (Nat.two_pow_pos k)
    unfold Format.nearest
    rw [if_neg hmne]
    have hfb : ((double.fractionBits : Nat) : Int) = 52 := rfl
    have hlp : double.leastPlace = -1074 := by decide
    have hlast : max (-(k : Int) + (m.log2 : Int) - (double.fractionBits : Int)) double.leastPlace = (L : Int) - 52 := by
      rw [hlog, hfb, hlp]
      omega
    simp only [hlast]
    have hkept : Toward.even.cut s (m <<< (-(k : Int) - ((L : Int) - 52)).toNat) (((L : Int) - 52) - -(k : Int)).toNat = N * 2 ^ (52 - L) := by
      rcases Nat.le_total k (52 - L) with h1 | h1
      · rw [show (((L : Int) - 52) - -(k : Int)).toNat = 0 by omega, cut_zero, show (-(k : Int) - ((L : Int) - 52)).toNat = 52 - L - k by omega, Nat.shiftLeft_eq, hm, Nat.mul_assoc, ← Nat.pow_add, show k + (52 - L - k) = 52 - L by omega]
      · rw [show (-(k : Int) - ((L : Int) - 52)).toNat = 0 by omega, Nat.shiftLeft_zero, show (((L : Int) - 52) - -(k : Int)).toNat = k - (52 - L) by omega]
        have : m = N * 2 ^ (52 - L) * 2 ^ (k - (52 - L)) := by rw [hm, Nat.mul_assoc, ← Nat.pow_add, show 52 - L + (k - (52 - L)) = k by omega]
        rw [this]
        exact cut_pow s .even (Nat.mul_ne_zero hN (by have := Nat.two_pow_pos (52 - L); omega)) (.inl rfl)
    have hK1 : 4503599627370496 ≤ N * 2 ^ (52 - L) := by
      have h1 : 2 ^ L * 2 ^ (52 - L) ≤ N * 2 ^ (52 - L) := Nat.mul_le_mul_right _ hlo
      rw [← Nat.pow_add, show L + (52 - L) = 52 by omega] at h1
      exact h1
    have hK2 : N * 2 ^ (52 - L) < 9007199254740992 := by
      have h1 : N * 2 ^ (52 - L) < 2 ^ (L + 1) * 2 ^ (52 - L) := Nat.mul_lt_mul_of_pos_right hhi (Nat.two_pow_pos _)
      rw [← Nat.pow_add, show L + 1 + (52 - L) = 53 by omega] at h1
      exact h1
    rw [hkept, hlp, show ((L : Int) - 52 - -1074).toNat = L + 1022 by omega, read_word hK1 hK2 (by omega)]
    refine ⟨s, _, 52 - L, by rw [show (-1074 : Int) + ((L + 1022 : Nat) : Int) = -((52 - L : Nat) : Int) by omega], by rw [hNN], hs⟩

/-- the bits are those of the whole number a -/
def FI (b : Nat) (a : Int) : Prop := IsI (double.read b) a

theorem add_FI {x y : Nat} {a b : Int} (hx : FI x a) (hy : FI y b) (h : (a + b).natAbs < 9007199254740992) : ∃ r, floatBits .add .f64 x y = some r ∧ FI r (a + b) := by
  obtain ⟨d, h1, h2⟩ := sum_isI hx hy
  refine ⟨double.write d, ?_, read_write h2 h⟩
  show ((double.read x).sum (double.read y)).map double.write = _
  rw [h1]
  rfl
theorem sub_FI {x y : Nat} {a b : Int} (hx : FI x a) (hy : FI y b) (h : (a - b).natAbs < 9007199254740992) : ∃ r, floatBits .sub .f64 x y = some r ∧ FI r (a - b) := by
  obtain ⟨d, h1, h2⟩ := sum_isI hx (opposite_isI hy)
  rw [← Int.sub_eq_add_neg] at h2
  refine ⟨double.write d, ?_, read_write h2 h⟩
  show ((double.read x).sum (double.read y).opposite).map double.write = _
  rw [h1]
  rfl
theorem mul_FI {x y : Nat} {a b : Int} (hx : FI x a) (hy : FI y b) (h : (a * b).natAbs < 9007199254740992) : ∃ r, floatBits .mul .f64 x y = some r ∧ FI r (a * b) := by
  obtain ⟨d, h1, h2⟩ := product_isI hx hy
  refine ⟨double.write d, ?_, read_write h2 h⟩
  show ((double.read x).product (double.read y)).map double.write = _
  rw [h1]
  rfl
theorem ofInt_FI {a : Int} (h : a.natAbs < 9007199254740992) : FI (floatOfInt .f64 a) a := by
  have h1 : IsI (.number (decide (a < 0)) a.natAbs 0) a := ⟨_, _, 0, rfl, by simp, fun _ => rfl⟩
  exact read_write h1 h
theorem toInt_FI {b : Nat} {a : Int} (h : FI b a) : (double.read b).toInt .zero = some a := by
  obtain ⟨s, m, k, hd, hm, hs⟩ := h
  rw [hd]
  have h1 := signed_of (u := 0) hm hs
  simp only [Datum.toInt, Datum.integral]
  have e1 : (-(k : Int)).toNat = 0 := by omega
  have e2 : (- -(k : Int)).toNat = k := by omega
  rw [e1, e2, Nat.shiftLeft_zero]
  have hcut : Toward.zero.cut s m k = a.natAbs := by
    by_cases h0 : a = 0
    · subst h0
      have hm0 : m = 0 := by simpa using hm
      subst hm0
      simp [Toward.cut]
    · rw [hm]
      exact cut_pow s .zero (by omega) (.inr rfl)
  rw [hcut]
  have := signed_of (s := s) (m := a.natAbs) (k := 0) (u := 0) (a := a) (by simp) hs
  rw [this]
  simp
theorem zero_FI : FI 0 0 := by
  have h1 : double.read 0 = .number false 0 (-((1074 : Nat) : Int)) := by decide
  show IsI (double.read 0) 0
  rw [h1]
  exact isI_zero false 1074
theorem one_FI : FI 4607182418800017408 1 := ⟨false, 4503599627370496, 52, by decide, by decide, fun _ => by decide⟩

/-- a product of complex numbers of whole parts -/
theorem cMul_FI {x y u v : Nat} {a b c d : Int} (hx : FI x a) (hy : FI y b) (hu : FI u c) (hv : FI v d)
    (h1 : (a * c).natAbs < 9007199254740992) (h2 : (b * d).natAbs < 9007199254740992) (h3 : (a * c - b * d).natAbs < 9007199254740992)
    (h4 : (a * d).natAbs < 9007199254740992) (h5 : (b * c).natAbs < 9007199254740992) (h6 : (a * d + b * c).natAbs < 9007199254740992) :
    ∃ re im, cMulBits x y u v = some (re, im) ∧ FI re (a * c - b * d) ∧ FI im (a * d + b * c) := by
  obtain ⟨r1, e1, f1⟩ := mul_FI hx hu h1
  obtain ⟨r2, e2, f2⟩ := mul_FI hy hv h2
  obtain ⟨r3, e3, f3⟩ := sub_FI f1 f2 h3
  obtain ⟨r4, e4, f4⟩ := mul_FI hx hv h4
  obtain ⟨r5, e5, f5⟩ := mul_FI hy hu h5
  obtain ⟨r6, e6, f6⟩ := add_FI f4 f5 h6
  refine ⟨r3, r6, ?_, f3, f6⟩
  simp [cMulBits, e1, e2, e3, e4, e5, e6]
theorem cSum_FI {x y u v : Nat} {a b c d : Int} (hx : FI x a) (hy : FI y b) (hu : FI u c) (hv : FI v d)
    (h1 : (a + c).natAbs < 9007199254740992) (h2 : (b + d).natAbs < 9007199254740992) :
    ∃ re im, cSumBits .add .f64 x y u v = some (re, im) ∧ FI re (a + c) ∧ FI im (b + d) := by
  obtain ⟨r1, e1, f1⟩ := add_FI hx hu h1
  obtain ⟨r2, e2, f2⟩ := add_FI hy hv h2
  exact ⟨r1, r2, by simp [cSumBits, e1, e2], f1, f2⟩
end Go.Proofs.Ytncakfcafkfmfaa

/-
  More operations: complex numbers, floats, structs of two cells, a result that lies in a cell.
-/
namespace Go.Proofs.Ytncakfcafkfmfaa
open Go
set_option linter.unusedSimpArgs false
set_option linter.unusedVariables false

section
variable {P : Program} {ρ : Operand → Value} {o : Oper} {w : World} {x y : Operand} {t u : TypeId} {k : IntKind}

theorem r_cmul {a b c d re im : Nat} (ho : o.op = .binOp .mul t x y u) (hx : ρ x = .complex .f64 a b) (hy : ρ y = .complex .f64 c d) (h : cMulBits a b c d = some (re, im)) : (execOp ρ o).run P w = .ok (.value (.complex .f64 re im)) w := by
  have h1 := run_complex_mul (P := P) w t a b c d re im h
  simp [execOp, ho, hx, hy, h1, eqGuard]
theorem r_cadd {a b c d re im : Nat} (ho : o.op = .binOp .add t x y u) (hx : ρ x = .complex .f64 a b) (hy : ρ y = .complex .f64 c d) (h : cSumBits .add .f64 a b c d = some (re, im)) : (execOp ρ o).run P w = .ok (.value (.complex .f64 re im)) w := by
  have h1 := run_complex_sum (P := P) w .add (.inl rfl) t .f64 a b c d re im h
  simp [execOp, ho, hx, hy, h1, eqGuard]
theorem r_ceql {a b c d : Nat} (ho : o.op = .binOp .eql t x y u) (hx : ρ x = .complex .f64 a b) (hy : ρ y = .complex .f64 c d) :
    (execOp ρ o).run P w = .ok (.value (.bool ((FloatKind.f64.format.order a c == some .eq) && (FloatKind.f64.format.order b d == some .eq)))) w := by
  have h1 := run_eql_complex (P := P) w t .f64 a b c d
  simp only [execOp, ho, hx, hy, Sem.run_bind, h1, Result.andThen_ok, Sem.run_pure, eqGuard]
  simp [h1, go_sem]
theorem r_itof {a : Int} (ho : o.op = .convert t u x) (hx : ρ x = .int k a) (hs : (P.underlying t).isSome = true) (hd : P.underlying u = some (.float .f64)) : (execOp ρ o).run P w = .ok (.value (.float .f64 (floatOfInt .f64 a))) w := by
  have h1 := run_convert_int_float (P := P) w t u k .f64 a hs hd
  simp only [execOp, ho, hx, Sem.run_bind, h1, Result.andThen_ok, Sem.run_pure]
theorem r_ftoi {b : Nat} {a : Int} (ho : o.op = .convert t u x) (hx : ρ x = .float .f64 b) (hs : (P.underlying t).isSome = true) (hd : P.underlying u = some (.int .i64)) (h : FI b a) (ha : a.natAbs < 9007199254740992) : (execOp ρ o).run P w = .ok (.value (.int .i64 a)) w := by
  have hv : floatToIntVal .f64 b .i64 = some a := by
    have h1 : (FloatKind.f64.decode b).toInt .zero = some a := toInt_FI h
    unfold floatToIntVal
    rw [h1]
    simp only [IntKind.min, IntKind.max, IntKind.signed, IntKind.bits]
    exact if_pos (by constructor <;> simp <;> omega)
  have h1 := run_convert_float_int (P := P) w t u .f64 .i64 b a hs hd hv
  simp only [execOp, ho, hx, Sem.run_bind, h1, Result.andThen_ok, Sem.run_pure]

theorem r_complexB {a b : Nat} {ts : Array TypeId} (ho : o.op = .call { callee := .builtin .complex, args := #[x, y], argTypes := ts }) (hx : ρ x = .float .f64 a) (hy : ρ y = .float .f64 b) : (execOp ρ o).run P w = .ok (.value (.complex .f64 a b)) w := by
  simp [execOp, ho, resolve, invoke, builtin, hx, hy, run_complex]
theorem r_realB {a b : Nat} {ts : Array TypeId} (ho : o.op = .call { callee := .builtin .real, args := #[x], argTypes := ts }) (hx : ρ x = .complex .f64 a b) : (execOp ρ o).run P w = .ok (.value (.float .f64 a)) w := by
  simp [execOp, ho, resolve, invoke, builtin, hx, run_real]
theorem r_imagB {a b : Nat} {ts : Array TypeId} (ho : o.op = .call { callee := .builtin .imag, args := #[x], argTypes := ts }) (hx : ρ x = .complex .f64 a b) : (execOp ρ o).run P w = .ok (.value (.float .f64 b)) w := by
  simp [execOp, ho, resolve, invoke, builtin, hx, run_imag]

theorem r_store2 {g off : Nat} {v0 v1 : Value} {cs : Array Value} {T : TypeId} (ho : o.op = .store t x y) (hx : ρ x = .pointer (some ⟨g, off, none⟩)) (hy : ρ y = .agg #[v0, v1]) (hz : sizeIs P t 2 = true) (hb : Blk w g cs T) (hlt : Nat.blt (off + 1) cs.size = true) (h0 : v0.oneCell' = true) (h1 : v1.oneCell' = true) :
    (execOp ρ o).run P w = .ok .skip ((w.setCell ⟨g, off, none⟩ v0).setCell ⟨g, off + 1, none⟩ v1) := by
  have hlt' : off + 1 < cs.size := Eq.mp Nat.blt_eq hlt
  have hc0 := hb.cell (o := off) (v := cs[off]) (by simp)
  have hf0 := hb.free off
  have hst0 := run_store_cell (P := P) hc0 hf0 h0
  have hb1 := hb.set off v0
  have hc1 := hb1.cell (o := off + 1) (v := cs[off + 1]) (by rw [Array.getElem?_setIfInBounds_ne (by omega)]; simp [hlt'])
  have hf1 := hb1.free (off + 1)
  have hst1 := run_store_cell (P := P) hc1 hf1 h1
  have ha0 : (Addr.mk g off none).add 0 = ⟨g, off, none⟩ := rfl
  have ha1 : (Addr.mk g off none).add 1 = ⟨g, off + 1, none⟩ := rfl
  simp [execOp, ho, hx, hy, Instr.storeAt, Instr.sureAddr, storeVar, run_sizeOf hz, storeCells, Value.cells, ha0, ha1, hst0, hst1]
end

section
variable {P : Program} {o : Oper} {w : World} {x y : Operand} {t : TypeId} {N : Nat} {ops : Array Oper} {Q : Exit → Act → World → Prop} {K : Env → World → Prop} {E : Env}
theorem SO.store2 {g off : Nat} {v0 v1 : Value} {cs : Array Value} {T : TypeId} (hop : o.op = .store t x y) (hx : Env.ev E x = .pointer (some ⟨g, off, none⟩)) (hy : Env.ev E y = .agg #[v0, v1]) (hz : sizeIs P t 2 = true) (hb : Blk w g cs T) (hlt : Nat.blt (off + 1) cs.size = true) (h0 : v0.oneCell' = true) (h1 : v1.oneCell' = true)
    (hd : o.dst = none) (ho : opsOK E o = true) (hw : wantedE ops E o = some true)
    (k : ∀ w', Upd (At g) w w' → Blk w' g ((cs.setIfInBounds off v0).setIfInBounds (off + 1) v1) T → w'.heap.size = w.heap.size → K E w') : SO P N ops Q o K E w :=
  SO.eff hd ho hw (r_store2 hop hx hy hz hb hlt h0 h1) (k _ ((Upd.setCell w ⟨g, off, none⟩ v0).trans_same (Upd.setCell _ ⟨g, off + 1, none⟩ v1)) ((hb.set off v0).set (off + 1) v1) (by rw [World.size_setCell, World.size_setCell]))
end

section
variable {P : Program} {N : Nat} {E : Env} {w : World} {fn : Func} {R : Value → World → Prop}
theorem result_cell {a : Act} (h : Sat N E a) {b : Nat} {t : TypeId} {p : Addr} {vs : List Value} (hl : fn.results = #[.cell b t]) (hr : Env.get E b = some (.pointer (some p))) (ht : aggB P t = true) (hn : sizeIs P t vs.length = true) (hc : CellsAt w p vs) :
    (results fn a.tmps).run P w = .ok (.agg vs.toArray) w := by
  have h3 : a.tmps[b]?.getD undef = .pointer (some p) := by rw [h.vals b _ hr]; rfl
  have hl2 := run_loadCells_list (P := P) w p vs hc
  simp only [loadCells] at hl2
  unfold results
  rw [hl]
  simp [h3, asAddr, loadVar, run_isAgg_agg ht, run_sizeOf hn, hl2, go_sem]
theorem WX.retC {b : Nat} {t : TypeId} {p : Addr} {vs : List Value} (hl : fn.results = #[.cell b t]) (hr : Env.get E b = some (.pointer (some p))) (ht : aggB P t = true) (hn : sizeIs P t vs.length = true) (hc : CellsAt w p vs) (k : R (.agg vs.toArray) w) :
    WX N (bodyPost P fn fun e w' => ∃ v, e = .returned v ∧ R v w') .ret E w := fun a h => ⟨h.defers, _, result_cell h hl hr ht hn hc, _, rfl, k⟩
theorem WX.endC {b : Nat} {t : TypeId} {p : Addr} {vs : List Value} (hl : fn.results = #[.cell b t]) (hr : Env.get E b = some (.pointer (some p))) (ht : aggB P t = true) (hn : sizeIs P t vs.length = true) (hc : CellsAt w p vs) (k : R (.agg vs.toArray) w) :
    WX N (bodyPost P fn fun e w' => ∃ v, e = .returned v ∧ R v w') .normal E w := fun a h => ⟨h.defers, _, result_cell h hl hr ht hn hc, _, rfl, k⟩
theorem Blk.cells2 {w : World} {g : Nat} {v0 v1 : Value} {T : TypeId} (h : Blk w g #[v0, v1] T) : CellsAt w ⟨g, 0, none⟩ [v0, v1] := fun j v hj => by
  match j, hj with
  | 0, hj => simp at hj; subst hj; exact h.cell rfl
  | 1, hj => simp at hj; subst hj; exact h.cell rfl
end

section
variable {P : Program} {N : Nat} {E : Env} {w : World} {fn : Func} {R : Value → World → Prop}
/-- results, in temporaries and in cells -/
def resM (P : Program) (w : World) (E : Env) : List ResultVar → List Value → Prop
  | [], [] => True
  | .tmp t :: l, v :: vs => Env.get E t = some v ∧ resM P w E l vs
  | .cell b t :: l, v :: vs => (∃ p us, Env.get E b = some (.pointer (some p)) ∧ aggB P t = true ∧ sizeIs P t us.length = true ∧ CellsAt w p us ∧ v = .agg us.toArray) ∧ resM P w E l vs
  | _, _ => False

theorem resM_run {a : Act} (h : Sat N E a) : ∀ {l : List ResultVar} {vs : List Value}, resM P w E l vs →
    (l.mapM (m := Sem) fun r => match r with | .tmp t => pure (a.tmps.getD t undef) | .cell b t => do loadVar t (← asAddr (a.tmps.getD b undef))).run P w = .ok vs w
  | [], [], _ => by simp [go_sem]
  | [], _ :: _, h => h.elim
  | .tmp _ :: _, [], h => h.elim
  | .cell _ _ :: _, [], h => h.elim
  | .tmp t :: l, v :: vs, hr => by
    have h1 := h.vals t v hr.1
    have h2 := resM_run h hr.2
    have h3 : a.tmps[t]?.getD undef = v := by rw [h1]; rfl
    simp only [Array.getD_eq_getD_getElem?] at h2 ⊢
    simp [List.mapM_cons, h2, h3]
  | .cell b t :: l, v :: vs, hr => by
    obtain ⟨⟨p, us, hb, ht, hn, hc, rfl⟩, hr2⟩ := hr
    have h2 := resM_run h hr2
    have h3 : a.tmps[b]?.getD undef = .pointer (some p) := by rw [h.vals b _ hb]; rfl
    have hl2 := run_loadCells_list (P := P) w p us hc
    simp only [loadCells] at hl2
    simp only [Array.getD_eq_getD_getElem?] at h2 ⊢
    have e1 : (do loadVar t (← asAddr (a.tmps[b]?.getD undef)) : Sem Value).run P w = .ok (.agg us.toArray) w := by
      simp [h3, asAddr, loadVar, run_isAgg_agg ht, run_sizeOf hn, hl2, go_sem]
    rw [List.mapM_cons, Sem.run_bind, e1, Result.andThen_ok, Sem.run_bind, h2, Result.andThen_ok, Sem.run_pure]

theorem resM_results {a : Act} (h : Sat N E a) {l : List ResultVar} {vs : List Value} (hl : fn.results = l.toArray) (hr : resM P w E l vs) : (results fn a.tmps).run P w = .ok (tupleOf vs) w := by
  have h1 := resM_run (P := P) (w := w) h hr
  unfold results
  rw [hl, List.mapM_toArray]
  simp only [Sem.run_bind]
  have h2 : (Sem.run P (List.mapM (m := Sem) (fun x => match x with
    | ResultVar.tmp t => pure (a.tmps[t]?.getD undef)
    | ResultVar.cell b t => do loadVar t (← asAddr (a.tmps[b]?.getD undef))) l) w) = .ok vs w := by
    simpa only [Array.getD_eq_getD_getElem?] using h1
  simp only [Array.getD_eq_getD_getElem?]
  simp
  erw [h2]
  match vs with
  | [] => rfl
  | [v] => rfl
  | a :: b :: r => simp [tupleOf]
theorem WX.retM {l : List ResultVar} {vs : List Value} (hl : fn.results = l.toArray) (hr : resM P w E l vs) (k : R (tupleOf vs) w) :
    WX N (bodyPost P fn fun e w' => ∃ v, e = .returned v ∧ R v w') .ret E w := fun a h => ⟨h.defers, _, resM_results h hl hr, _, rfl, k⟩
end

/-- n & 3 -/
theorem bits_and3 {n : Int} (h1 : -9223372036854775808 ≤ n) (h2 : n ≤ 9223372036854775807) : bits .and .i64 n 3 = n % 4 := by
  have h : (BitVec.ofInt 64 n &&& BitVec.ofInt 64 3 : BitVec 64).toNat = (n % 4).toNat := by
    rw [BitVec.toNat_and]
    have e3 : (BitVec.ofInt 64 3).toNat = 3 := by decide
    rw [e3, show (3 : Nat) = 2 ^ 2 - 1 from rfl, Nat.and_two_pow_sub_one_eq_mod, BitVec.toNat_ofInt]
    omega
  show IntKind.i64.wrap (((BitVec.ofInt 64 n &&& BitVec.ofInt 64 3 : BitVec 64).toNat : Nat) : Int) = _
  rw [h, wrap_i64_in (by omega) (by omega)]
  omega
end Go.Proofs.Ytncakfcafkfmfaa

/-
  More operations: structs of two whole numbers, compared.
-/
namespace Go.Proofs.Ytncakfcafkfmfaa
open Go
set_option linter.unusedSimpArgs false
set_option linter.unusedVariables false

section
variable {P : Program} {ρ : Operand → Value} {o : Oper} {w : World} {x y : Operand} {t u : TypeId}

/-- a struct type of two int64 fields, that may be compared -/
structure PairT (P : Program) (t : TypeId) (f0 f1 : Field) : Prop where
  und : P.underlying t = some (.struct (P.fieldsOf t))
  held : P.stoodInHeld t = false
  guard : P.eqGuardType P.depth t = false
  fields : P.fieldsOf t = #[f0, f1]
  name : f0.name ≠ "_" ∧ f1.name ≠ "_"
  off : f0.offset = 0 ∧ f1.offset = 1
  int0 : P.underlying f0.type = some (.int .i64)
  int1 : P.underlying f1.type = some (.int .i64)
  flat : flatB P f0.type = true ∧ flatB P f1.type = true

theorem run_equalIn_i64 (d : Nat) {t : TypeId} (ht : P.underlying t = some (.int .i64)) (w : World) (a b : Int) : (Op.equalIn (d + 1) t (.int .i64 a) (.int .i64 b)).run P w = .ok (a == b) w := by
  simp [Op.equalIn, run_underlying ht]

theorem run_eqlPair {f0 f1 : Field} (h : PairT P t f0 f1) (w : World) (a b c d : Int) :
    (Op.equal t (.agg #[.int .i64 a, .int .i64 b]) (.agg #[.int .i64 c, .int .i64 d])).run P w = .ok (decide (a = c) && decide (b = d)) w := by
  have h1 := run_equalIn_struct (P := P) w 9999 t #[.int .i64 a, .int .i64 b] #[.int .i64 c, .int .i64 d] h.und h.held
  have h2 : (Op.equal t (.agg #[.int .i64 a, .int .i64 b]) (.agg #[.int .i64 c, .int .i64 d])).run P w = (Op.equalIn (9999 + 1) t (.agg #[.int .i64 a, .int .i64 b]) (.agg #[.int .i64 c, .int .i64 d])).run P w := rfl
  rw [h2, h1, h.fields]
  have e0 := run_isAgg_flat (P := P) (w := w) h.flat.1
  have e1 := run_isAgg_flat (P := P) (w := w) h.flat.2
  have q0 := run_equalIn_i64 (P := P) 9998 h.int0 w a c
  have q1 := run_equalIn_i64 (P := P) 9998 h.int1 w b d
  generalize hd : 9998 + 1 = D at q0 q1
  have hD : (9999 : Nat) = D := hd
  rw [hD]
  cases ha : (a == c) <;> cases hb : (b == d) <;> rw [ha] at q0 <;> rw [hb] at q1 <;> rw [show decide (a = c) = (a == c) from rfl, show decide (b = d) = (b == d) from rfl, ha, hb] <;> simp [Op.eqFields, h.name.1, h.name.2, h.off.1, h.off.2, part, e0, e1, q0, q1]

theorem r_eqlPair {f0 f1 : Field} {a b c d : Int} (ho : o.op = .binOp .eql t x y u) (hx : ρ x = .agg #[.int .i64 a, .int .i64 b]) (hy : ρ y = .agg #[.int .i64 c, .int .i64 d]) (h : PairT P t f0 f1) :
    (execOp ρ o).run P w = .ok (.value (.bool (decide (a = c) && decide (b = d)))) w := by
  have h1 := run_eqlPair h w a b c d
  simp [execOp, ho, hx, hy, eqGuard, h.guard, binOp, h1, go_sem]
theorem r_neqPair {f0 f1 : Field} {a b c d : Int} (ho : o.op = .binOp .neq t x y u) (hx : ρ x = .agg #[.int .i64 a, .int .i64 b]) (hy : ρ y = .agg #[.int .i64 c, .int .i64 d]) (h : PairT P t f0 f1) :
    (execOp ρ o).run P w = .ok (.value (.bool (!(decide (a = c) && decide (b = d))))) w := by
  have h1 := run_eqlPair h w a b c d
  simp [execOp, ho, hx, hy, eqGuard, h.guard, binOp, h1, go_sem]
end
end Go.Proofs.Ytncakfcafkfmfaa

/-
  More operations: a row of zeros.
-/
namespace Go.Proofs.Ytncakfcafkfmfaa
open Go
set_option linter.unusedSimpArgs false
set_option linter.unusedVariables false

section
variable {P : Program} {ρ : Operand → Value} {o : Oper} {w : World} {x y : Operand} {t e : TypeId}
theorem r_makeSlice {by_ sz n : Nat} {z : Value} {k k' : IntKind} (ho : o.op = .makeSlice t x y) (hx : ρ x = .int k (n : Int)) (hy : ρ y = .int k' (n : Int)) (hr : RowT P t e sz by_ z) (hb : by_ * n ≤ 281474976710656) (hn : n ≤ 281474976710656) :
    (execOp ρ o).run P w = .ok (.value (.slice (some ⟨w.heap.size, 0, none⟩) n n)) (w.alloc (.cells (rowCells z n) e)) := by
  obtain ⟨i, hi, hz, hs, hby⟩ := hr.parts
  have hb' : (i.bytes : Int) * (n : Int) ≤ 281474976710656 := by
    have h : ((i.bytes * n : Nat) : Int) ≤ 281474976710656 := by rw [hby]; omega
    rwa [Int.natCast_mul] at h
  have h1 := run_make (P := P) w t e i z hr.und hi hz k k' n n (by omega) (Int.le_refl _) hb' (by omega)
  rw [Int.toNat_natCast, hs] at h1
  have h2 : madeCells z.cells (n * sz) = rowCells z n := rowCells_eq z n sz hr.cells hr.pos
  rw [h2] at h1
  simp only [execOp, ho, hx, hy, Sem.run_bind, h1, Result.andThen_ok, Sem.run_pure]
end
end Go.Proofs.Ytncakfcafkfmfaa

/-
  More operations: the lesser and the greater of two numbers; complex numbers compared.
-/
namespace Go.Proofs.Ytncakfcafkfmfaa
open Go Ieee
set_option linter.unusedSimpArgs false
set_option linter.unusedVariables false

section
variable {P : Program} {ρ : Operand → Value} {o : Oper} {w : World} {x y : Operand} {k k' : IntKind} {a b : Int}
theorem r_min {ts : Array TypeId} (ho : o.op = .call { callee := .builtin .min, args := #[x, y], argTypes := ts }) (hx : ρ x = .int k a) (hy : ρ y = .int k' b) : (execOp ρ o).run P w = .ok (.value (.int k (if b < a then b else a))) w := by
  simp [execOp, ho, resolve, invoke, builtin, hx, hy, run_min_int2]
theorem r_max {ts : Array TypeId} (ho : o.op = .call { callee := .builtin .max, args := #[x, y], argTypes := ts }) (hx : ρ x = .int k a) (hy : ρ y = .int k' b) : (execOp ρ o).run P w = .ok (.value (.int k (if b > a then b else a))) w := by
  simp [execOp, ho, resolve, invoke, builtin, hx, hy, run_max_int2]
theorem r_negN {t : TypeId} (ho : o.op = .unOp .neg t x) (hx : ρ x = .int k a) (h : inK k (-a)) : (execOp ρ o).run P w = .ok (.value (.int k (-a))) w := by
  rw [r_neg ho hx, wrap_in h]
end

theorem order_FI {x y : Nat} {a b : Int} (hx : FI x a) (hy : FI y b) : (FloatKind.f64.format.order x y == some .eq) = decide (a = b) := by
  obtain ⟨s, m, k, hd, hm, hs⟩ := hx
  obtain ⟨t, n, l, hd', hn, ht⟩ := hy
  have hb : min (-(k : Int)) (-(l : Int)) = -((max k l : Nat) : Int) := by omega
  have e1 : (-(k : Int) - -((max k l : Nat) : Int)).toNat = max k l - k := by omega
  have e2 : (-(l : Int) - -((max k l : Nat) : Int)).toNat = max k l - l := by omega
  have f1 := signed_of (u := max k l - k) hm hs
  have f2 := signed_of (u := max k l - l) hn ht
  rw [show k + (max k l - k) = max k l by omega] at f1
  rw [show l + (max k l - l) = max k l by omega] at f2
  have h1 : FloatKind.f64.format.order x y = some (compare (a * 2 ^ max k l) (b * 2 ^ max k l)) := by
    show ((double.read x).order (double.read y)) = _
    rw [hd, hd']
    simp only [Datum.order]
    rw [hb, e1, e2, f1, f2]
  rw [h1]
  generalize max k l = q
  have hp := pow_pos_int q
  by_cases h : a = b
  · subst h
    simp
  · have hne : a * 2 ^ q ≠ b * 2 ^ q := fun e => h (Int.eq_of_mul_eq_mul_right (by omega) e)
    have hc : compare (a * 2 ^ q) (b * 2 ^ q) ≠ .eq := fun e => hne (Std.LawfulEqOrd.eq_of_compare e)
    rw [Bool.eq_iff_iff]
    simp [h, hc]
end Go.Proofs.Ytncakfcafkfmfaa

/-
  More operations: an array's element.
-/
namespace Go.Proofs.Ytncakfcafkfmfaa
open Go
set_option linter.unusedSimpArgs false
set_option linter.unusedVariables false

section
variable {P : Program} {ρ : Operand → Value} {o : Oper} {w : World} {x y : Operand} {t e : TypeId} {k : IntKind}
theorem r_indexArr {g off n sz : Nat} {i : Int} (ho : o.op = .indexAddr t x y) (hx : ρ x = .pointer (some ⟨g, off, none⟩)) (hy : ρ y = .int k i) (hu : P.underlying t = some (.array n e)) (hz : sizeIs P e sz = true) (h0 : 0 ≤ i) (h1 : i < n) :
    (execOp ρ o).run P w = .ok (.value (.pointer (some ⟨g, off + i.toNat * sz, none⟩))) w := by
  have hadd : (⟨g, off, none⟩ : Addr).add (i.toNat * sz) = ⟨g, off + i.toNat * sz, none⟩ := Addr.add_lit _ _ _
  simp [execOp, ho, hx, hy, Instr.indexAt, run_underlying hu, asIntOf, Instr.sureAddr, h0, h1, run_sizeOf hz, hadd, go_sem]
end
end Go.Proofs.Ytncakfcafkfmfaa

/-
  More operations: strings as lists of bytes, sliced and compared.
-/
namespace Go.Proofs.Ytncakfcafkfmfaa
open Go
set_option linter.unusedSimpArgs false
set_option linter.unusedVariables false

theorem extract_bytes (s : List UInt8) (a b : Nat) : (ByteArray.mk s.toArray).extract a b = ⟨((s.drop a).take (b - a)).toArray⟩ := by
  apply ByteArray.ext
  apply Array.ext'
  rw [ByteArray.data_extract]
  simp [List.extract_eq_take_drop]

section
variable {P : Program} {ρ : Operand → Value} {o : Oper} {w : World} {x y : Operand} {t u : TypeId} {s s' : List UInt8}

theorem r_sliceStr {l h : Nat} {lo hi : Option Operand} (ho : o.op = .slice t x lo hi none) (hx : ρ x = .string ⟨s.toArray⟩) (hu : P.underlying t = some .string)
    (hlo : bnd ρ lo 0 l) (hhi : bnd ρ hi s.length h) (h1 : l ≤ h) (h2 : h ≤ s.length) : (execOp ρ o).run P w = .ok (.value (.string ⟨((s.drop l).take (h - l)).toArray⟩)) w := by
  have hsz : (ByteArray.mk s.toArray).size = s.length := by simp [ByteArray.size]
  have hext := extract_bytes s l h
  rcases hlo with ⟨rfl, rfl⟩ | ⟨y1, k1, b1, rfl, hy1, hb1⟩ <;> rcases hhi with ⟨rfl, rfl⟩ | ⟨y2, k2, b2, rfl, hy2, hb2⟩
  · simp [execOp, ho, hx, Instr.sliceAt, Instr.slice, run_underlying hu, Instr.sliceBounds, hsz, hext]
  · simp [execOp, ho, hx, hy2, Instr.sliceAt, Instr.slice, run_underlying hu, Instr.sliceBounds, hsz, run_sliceBound_in hb2 h2, hext]
  · simp [execOp, ho, hx, hy1, Instr.sliceAt, Instr.slice, run_underlying hu, Instr.sliceBounds, hsz, run_sliceBound_in hb1 h1, hext]
  · simp [execOp, ho, hx, hy1, hy2, Instr.sliceAt, Instr.slice, run_underlying hu, Instr.sliceBounds, hsz, run_sliceBound_in hb1 h1, run_sliceBound_in hb2 h2, hext]

theorem r_eqlStrL (ho : o.op = .binOp .eql t x y u) (hx : ρ x = .string ⟨s.toArray⟩) (hy : ρ y = .string ⟨s'.toArray⟩) : (execOp ρ o).run P w = .ok (.value (.bool (decide (s = s')))) w := by
  rw [r_eqlStr ho hx hy, mk_toList, mk_toList]
theorem r_neqStrL (ho : o.op = .binOp .neq t x y u) (hx : ρ x = .string ⟨s.toArray⟩) (hy : ρ y = .string ⟨s'.toArray⟩) : (execOp ρ o).run P w = .ok (.value (.bool (decide (s ≠ s')))) w := by
  rw [r_neqStr ho hx hy, mk_toList, mk_toList]
theorem r_lenStrL (ho : o.op = .call { callee := .builtin .len, args := #[x], argTypes := #[t] }) (hx : ρ x = .string ⟨s.toArray⟩) (hu : P.underlying t = some .string) : (execOp ρ o).run P w = .ok (.value (.int .i64 (s.length : Int))) w := by
  rw [r_lenString ho hx hu]
  simp [ByteArray.size]
theorem r_addStrL (ho : o.op = .binOp .add t x y u) (hx : ρ x = .string ⟨s.toArray⟩) (hy : ρ y = .string ⟨s'.toArray⟩) (h : s.length + s'.length ≤ 9223372036854775807) : (execOp ρ o).run P w = .ok (.value (.string ⟨(s ++ s').toArray⟩)) w := by
  rw [r_addStr ho hx hy (by simpa [ByteArray.size] using h)]
  congr 3
end
end Go.Proofs.Ytncakfcafkfmfaa

/-
  More operations: structs of any size, stored and loaded.
-/
namespace Go.Proofs.Ytncakfcafkfmfaa
open Go
set_option linter.unusedSimpArgs false
set_option linter.unusedVariables false

theorem heap_setRow_ne (w : World) (g : Nat) (cs : Array Value) (k : Nat) (hk : ¬ k = g) : (w.setRow g cs).heap[k]? = w.heap[k]? := by
  have hne : ¬ g = k := fun h => hk h.symm
  simp [World.setRow, Array.getElem?_modify, hne]
theorem Upd.setRow (w : World) (g : Nat) (cs : Array Value) : Upd (At g) w (w.setRow g cs) :=
  ⟨rfl, rfl, rfl, by simp [World.setRow], fun k _ hn => heap_setRow_ne w g cs k hn⟩

section
variable {P : Program} {o : Oper} {w : World} {x y : Operand} {t : TypeId} {N : Nat} {ops : Array Oper} {Q : Exit → Act → World → Prop} {K : Env → World → Prop} {E : Env}

theorem r_storeN {ρ : Operand → Value} {g off : Nat} {us : List Value} {cs : Array Value} {T : TypeId} (ho : o.op = .store t x y) (hx : ρ x = .pointer (some ⟨g, off, none⟩)) (hy : ρ y = .agg us.toArray) (hz : sizeIs P t us.length = true) (hb : Blk w g cs T) (hle : off + us.length ≤ cs.size) (h1 : us.all Value.oneCell' = true) :
    (execOp ρ o).run P w = .ok .skip (w.setRow g (cs.toList.take off ++ us ++ cs.toList.drop (off + us.length)).toArray) := by
  have h2 := run_storeCells_at P g off T us 0 cs w hb (by omega) (fun v hv => List.all_eq_true.1 h1 v hv)
  rw [Nat.add_zero] at h2
  simp [execOp, ho, hx, hy, Instr.storeAt, Instr.sureAddr, storeVar, run_sizeOf hz, Value.cells, h2]

theorem SO.storeN {g off : Nat} {us : List Value} {cs : Array Value} {T : TypeId} (hop : o.op = .store t x y) (hx : Env.ev E x = .pointer (some ⟨g, off, none⟩)) (hy : Env.ev E y = .agg us.toArray) (hz : sizeIs P t us.length = true) (hb : Blk w g cs T) (hle : off + us.length ≤ cs.size) (h1 : us.all Value.oneCell' = true)
    (hd : o.dst = none) (ho : opsOK E o = true) (hw : wantedE ops E o = some true)
    (k : ∀ w', Upd (At g) w w' → Blk w' g (cs.toList.take off ++ us ++ cs.toList.drop (off + us.length)).toArray T → w'.heap.size = w.heap.size → K E w') : SO P N ops Q o K E w :=
  SO.eff hd ho hw (r_storeN hop hx hy hz hb hle h1) (k _ (Upd.setRow _ _ _) (setRow_heap w g cs _ T _ hb) (by simp [World.setRow]))
/-- the whole block -/
theorem SO.storeAll {g : Nat} {us : List Value} {cs : Array Value} {T : TypeId} (hop : o.op = .store t x y) (hx : Env.ev E x = .pointer (some ⟨g, 0, none⟩)) (hy : Env.ev E y = .agg us.toArray) (hz : sizeIs P t us.length = true) (hb : Blk w g cs T) (hle : cs.size = us.length) (h1 : us.all Value.oneCell' = true)
    (hd : o.dst = none) (ho : opsOK E o = true) (hw : wantedE ops E o = some true)
    (k : ∀ w', Upd (At g) w w' → Blk w' g us.toArray T → w'.heap.size = w.heap.size → K E w') : SO P N ops Q o K E w :=
  SO.storeN hop hx hy hz hb (by omega) h1 hd ho hw (fun w' hu hb' hs => k w' hu (by
    have e : cs.toList.take 0 ++ us ++ cs.toList.drop (0 + us.length) = us := by
      rw [Nat.zero_add, List.drop_of_length_le (by simp [hle]), List.take_zero]
      simp
    rwa [e] at hb') hs)

/-- a row written over whole -/
theorem SO.copyAll {d : Nat} {t2 e : TypeId} {g n c : Nat} {v2 : Value} {cur : Array Value} {T : TypeId} {xs : List Value} {F2 : Nat → Prop} (hb : Blk w g cur T) (hn : cur.size = n) (hsrc : Rd w F2 v2 n 1 xs) (h1 : ∀ u ∈ xs, u.oneCell' = true) (hu : sliceElem P t = some e) (hs : sizeIs P e 1 = true)
    (hop : o.op = .call { callee := .builtin .copy, args := #[x, y], argTypes := #[t, t2] }) (hx : Env.ev E x = .slice (some ⟨g, 0, none⟩) n c) (hy : Env.ev E y = v2)
    (hd : o.dst = some d) (hN : Nat.blt d N = true) (ho : opsOK E o = true) (hw : wantedE ops E o = some true)
    (k : ∀ w', Upd (At g) w w' → Blk w' g xs.toArray T → w'.heap.size = w.heap.size → K ((d, .int .i64 (n : Int)) :: E) w') : SO P N ops Q o K E w := by
  have hlen : xs.length = n := by have := hsrc.len; omega
  have hz : (P.info? e).map (·.size) = some 1 := by
    unfold sizeIs at hs
    cases hi : P.info? e with
    | none => simp [hi] at hs
    | some i => rw [hi] at hs; simpa using hs
  rcases hsrc.src (by decide) with ⟨h0, hxs, A, c', rfl⟩ | ⟨ad, c', rfl, hcells⟩
  · subst h0
    subst hxs
    have hcur : cur = #[] := Array.eq_empty_of_size_eq_zero hn
    subst hcur
    have hrun : (Builtin.copy_ #[t, t2] o.type #[.slice (some ⟨g, 0, none⟩) 0 c, .slice A 0 c']).run P w = .ok (goInt 0) w := by
      cases hq : P.info? e with
      | none => simp [hq] at hz
      | some i =>
        cases A with
        | none => simp [Builtin.copy_, run_underlying (sliceElem_und hu), Builtin.lenOf, Builtin.firstCells, sizeOf, typeInfo, hq, storeCells]
        | some a => simp [Builtin.copy_, run_underlying (sliceElem_und hu), Builtin.lenOf, Builtin.firstCells, sizeOf, typeInfo, hq, storeCells, loadCells, loadCellsFrom]
    refine SO.val (v := .int .i64 ((0 : Nat) : Int)) (w' := w) hd hN ho hw ?_ (k w (Upd.refl _ _) hb rfl)
    unfold execOp
    simp only [hop, resolve, invoke, builtin, Sem.run_bind, Sem.run_pure, Result.andThen_ok, List.map_toArray, List.map_cons, List.map_nil, hx, hy, hrun]
    rfl
  · have hrun := run_copy_row P w t t2 o.type e g 0 n c ad n c' cur T xs (sliceElem_und hu) hz hb (by rw [hlen]; simp) hcells (by omega) h1
    have e1 : (cur.toList.take 0 ++ xs ++ cur.toList.drop (0 + xs.length)).toArray = xs.toArray := by
      rw [Nat.zero_add, List.drop_of_length_le (by simp [hn, hlen]), List.take_zero]
      simp
    rw [e1, hlen] at hrun
    refine SO.val (v := .int .i64 (n : Int)) (w' := w.setRow g xs.toArray) hd hN ho hw ?_ (k _ (Upd.setRow _ _ _) (setRow_heap w g cur _ T _ hb) (by simp [World.setRow]))
    unfold execOp
    simp only [hop, resolve, invoke, builtin, Sem.run_bind, Sem.run_pure, Result.andThen_ok, List.map_toArray, List.map_cons, List.map_nil, hx, hy, hrun]
    rfl
end

theorem Own.nilGrow {w w' w0 : World} {T : TypeId} {sz n : Nat} {v : Value} {xs : List Value} (h : Own w0 (Grow (fun _ => False) w w') T sz v n xs) : Own w0 (New w w') T sz v n xs := h.mono fun k hk => hk.elim (fun h => h.elim) (fun h => h)
theorem Blk.cellsL {w : World} {g : Nat} {us : List Value} {T : TypeId} (h : Blk w g us.toArray T) : CellsAt w ⟨g, 0, none⟩ us := fun j v hj => by
  rw [Addr.add_lit, Nat.zero_add]
  exact h.cell (by simpa using hj)
theorem Blk.cellsP {w : World} {g off : Nat} {cs : Array Value} {us : List Value} {T : TypeId} (h : Blk w g cs T) (hu : ∀ j v, us[j]? = some v → cs[off + j]? = some v) : CellsAt w ⟨g, off, none⟩ us := fun j v hj => by
  rw [Addr.add_lit]
  exact h.cell (hu j v hj)
theorem Rd.cellsL {w : World} {F : Nat → Prop} {b off n c sz q i : Nat} {xs us : List Value} (hr : Rd w F (.slice (some ⟨b, off, none⟩) n c) n sz xs) (hq : q = off + i) (hu : ∀ j v, us[j]? = some v → xs[i + j]? = some v) : CellsAt w ⟨b, q, none⟩ us := fun j v hj => by
  subst hq
  rw [Addr.add_lit]
  exact hr.cell (j := i + j) (by omega) (hu j v hj)
/-- the cells of one of the elements -/
theorem flatMap_get {α : Type} {dec : α → List Value} {sz : Nat} (hd : ∀ a, (dec a).length = sz) : ∀ {l : List α} {i : Nat} {a : α}, l[i]? = some a → ∀ j v, (dec a)[j]? = some v → (l.flatMap dec)[i * sz + j]? = some v
  | [], i, a, h, _, _, _ => by simp at h
  | b :: l, 0, a, h, j, v, hv => by
    simp only [List.getElem?_cons_zero, Option.some.injEq] at h
    subst h
    have hj : j < (dec b).length := (List.getElem?_eq_some_iff.1 hv).1
    rw [Nat.zero_mul, Nat.zero_add, List.flatMap_cons, List.getElem?_append_left hj]
    exact hv
  | b :: l, i + 1, a, h, j, v, hv => by
    have ih := flatMap_get hd (l := l) (i := i) (by simpa using h) j v hv
    rw [List.flatMap_cons, List.getElem?_append_right (by rw [hd b, Nat.add_mul, Nat.one_mul]; omega), hd b, show (i + 1) * sz + j - sz = i * sz + j by rw [Nat.add_mul, Nat.one_mul]; omega]
    exact ih
theorem flatMap_len {α : Type} {dec : α → List Value} {sz : Nat} (hd : ∀ a, (dec a).length = sz) (l : List α) : (l.flatMap dec).length = l.length * sz := by
  induction l with
  | nil => simp
  | cons a l ih => rw [List.flatMap_cons, List.length_append, ih, hd a, List.length_cons, Nat.add_mul, Nat.one_mul, Nat.add_comm]
end Go.Proofs.Ytncakfcafkfmfaa

/-
  More operations: a field of a struct's value.
-/
namespace Go.Proofs.Ytncakfcafkfmfaa
open Go
set_option linter.unusedSimpArgs false
set_option linter.unusedVariables false

/-- the offset of a field that is of one cell -/
def fieldV (P : Program) (s : TypeId) (f : Nat) : Option Nat := match P.underlying s with
  | some (.struct fs) => match fs[f]? with
    | some q => if flatB P q.type then some q.offset else none
    | none => none
  | _ => none
section
variable {P : Program} {ρ : Operand → Value} {o : Oper} {w : World} {x : Operand} {t : TypeId}
theorem r_fieldV {f n : Nat} {cs : Array Value} {v : Value} (ho : o.op = .field t x f) (hx : ρ x = .agg cs) (hf : fieldV P t f = some n) (hv : cs[n]? = some v) : (execOp ρ o).run P w = .ok (.value v) w := by
  unfold fieldV at hf
  cases hu : P.underlying t with
  | none => simp [hu] at hf
  | some d =>
    rw [hu] at hf
    cases d <;> simp at hf
    rename_i fs
    cases hq : fs[f]? with
    | none => simp [hq] at hf
    | some q =>
      simp only [hq] at hf
      split at hf
      · rename_i hfl
        injection hf with hf
        subst hf
        simp [execOp, ho, hx, Instr.field, run_underlying hu, hq, asAgg, part, run_isAgg_flat hfl, hv]
      · cases hf
end
end Go.Proofs.Ytncakfcafkfmfaa

/-
  Function values: made, and called.
-/
namespace Go.Proofs.Ytncakfcafkfmfaa
open Go
set_option linter.unusedSimpArgs false
set_option linter.unusedVariables false

section
variable {P : Program} {N : Nat} {ops : Array Oper} {Q : Exit → Act → World → Prop} {o : Oper} {E : Env} {w w' : World} {d : Nat} {v : Value} {K : Env → World → Prop}
theorem r_makeFunc {f : FuncId} {xs ys : List Operand} {vs us : List Value} (hop : o.op = .makeFunc (.func f) xs.toArray ys.toArray) (h1 : evs E xs vs) (h2 : evs E ys us) :
    (execOp E.ev o).run P w = .ok (.value (.func (.func f) vs.toArray us.toArray)) w := by
  have e1 := evs_map h1
  have e2 := evs_map h2
  simp [execOp, hop, Instr.makeFunc, e1, e2]
theorem r_callV {f : FuncId} {x : Operand} {xs : List Operand} {ts : Array TypeId} {first cap vs : List Value} (hop : o.op = .call { callee := .value x, args := xs.toArray, argTypes := ts }) (hx : Env.ev E x = .func (.func f) first.toArray cap.toArray) (hb : hasBody P f = true) (hvs : evs E xs vs) :
    (execOp E.ev o).run P w = .ok (.enter f (first ++ (vs ++ cap)).toArray) w := by
  have e1 := evs_map hvs
  simp [execOp, hop, resolve, Deferred.ofValue, hx, invoke, e1, run_callFunc_body hb]
/-- a call of a function value -/
theorem SO.callV {f : FuncId} {x : Operand} {xs : List Operand} {ts : Array TypeId} {first cap vs all : List Value} {R : Value → World → Prop} (hop : o.op = .call { callee := .value x, args := xs.toArray, argTypes := ts }) (hx : Env.ev E x = .func (.func f) first.toArray cap.toArray) (hb : hasBody P f = true) (hvs : evs E xs vs)
    (hall : first ++ (vs ++ cap) = all) (hc : Ret P f all.toArray w R)
    (hd : o.dst = some d) (hN : Nat.blt d N = true) (ho : opsOK E o = true) (hw : wantedE ops E o = some true) (k : ∀ v w'', R v w'' → K ((d, v) :: E) w'') : SO P N ops Q o K E w :=
  SO.enter hd hN ho hw (r_callV hop hx hb hvs) (hall ▸ hc) k
end
end Go.Proofs.Ytncakfcafkfmfaa

/-
  Upd facts as tracked facts; rows copied into places; appended zeros.
-/
namespace Go.Proofs.Ytncakfcafkfmfaa
open Go
set_option linter.unusedSimpArgs false
set_option linter.unusedVariables false

theorem Upd.upd {S S' : Nat → Prop} {w w1 w2 : World} (h : Upd S w w1) (h' : Upd S' w1 w2) (hs : ∀ k, k < w.heap.size → S' k → S k) : Upd S w w2 := h.trans h' hs
theorem Upd.updA {S S' : Nat → Prop} {w w1 w2 : World} (h : Upd S w w1) (h' : Upd S' w1 w2) (hs : ∀ k, k < w.heap.size → S' k → S k := by first | exact (fun _ _ h => h) | exact (fun _ _ h => h.elim) | (intro k hl hk; (try simp only [At, New, Grow, From, No] at hk ⊢); omega)) : Upd S w w2 := h.trans h' hs

section
variable {P : Program} {o : Oper} {w : World} {x y : Operand} {t : TypeId} {N : Nat} {ops : Array Oper} {Q : Exit → Act → World → Prop} {K : Env → World → Prop} {E : Env}

theorem run_copy_at (w : World) (dT sT ty elem : TypeId) (g o dLen dCap sz : Nat) (a : Addr) (sLen sCap : Nat) (cur : Array Value) (t : TypeId) (cs : List Value)
    (hu : P.underlying dT = some (.slice elem)) (hs : sizeIs P elem sz = true) (hm : Nat) (hmn : hm = Nat.min sLen dLen)
    (hg : w.heap[g]? = some (.cells cur t (0, 0))) (hn : cs.length = hm * sz)
    (hsrc : ∀ j v, cs[j]? = some v → w.cell? (a.add j) = some v) (hfit : o + cs.length ≤ cur.size) (h1 : ∀ v ∈ cs, v.oneCell' = true) :
    (Builtin.copy_ #[dT, sT] ty #[.slice (some ⟨g, o, none⟩) dLen dCap, .slice (some a) sLen sCap]).run P w =
      .ok (goInt hm) (w.setRow g (cur.toList.take o ++ cs ++ cur.toList.drop (o + cs.length)).toArray) := by
  have hl := run_loadCells_list (P := P) w a cs hsrc
  have hst := run_storeCells_at P g o t cs 0 cur w hg (by simpa using hfit) h1
  cases hq : P.info? elem with
  | none => simp [sizeIs, hq] at hs
  | some i =>
    have hi : i.size = sz := by simpa [sizeIs, hq] using hs
    rw [hn] at hl
    simp [Builtin.copy_, run_underlying hu, Builtin.lenOf, Builtin.firstCells, sizeOf, typeInfo, hq, hi, ← hmn, hl, hst]

/-- some elements copied into a row -/
theorem SO.copyAt {d : Nat} {t2 e : TypeId} {g off n c m c2 b2 off2 sz k : Nat} {cur : Array Value} {T : TypeId} {xs : List Value} (hk : k = Nat.min m n) (hb : Blk w g cur T) (hl : xs.length = k * sz) (hsrc : ∀ j u, xs[j]? = some u → w.cell? ⟨b2, off2 + j, none⟩ = some u)
    (h1 : ∀ u ∈ xs, u.oneCell' = true) (hfit : off + xs.length ≤ cur.size) (hu : sliceElem P t = some e) (hs : sizeIs P e sz = true)
    (hop : o.op = .call { callee := .builtin .copy, args := #[x, y], argTypes := #[t, t2] }) (hx : Env.ev E x = .slice (some ⟨g, off, none⟩) n c) (hy : Env.ev E y = .slice (some ⟨b2, off2, none⟩) m c2)
    (hd : o.dst = some d) (hN : Nat.blt d N = true) (ho : opsOK E o = true) (hw : wantedE ops E o = some true)
    (kk : ∀ w', Upd (At g) w w' → Blk w' g (cur.toList.take off ++ xs ++ cur.toList.drop (off + xs.length)).toArray T → w'.heap.size = w.heap.size → K ((d, .int .i64 (k : Int)) :: E) w') : SO P N ops Q o K E w := by
  have hrun := run_copy_at (P := P) w t t2 o.type e g off n c sz ⟨b2, off2, none⟩ m c2 cur T xs (sliceElem_und hu) hs k hk hb hl (fun j u hj => by rw [Addr.add_lit]; exact hsrc j u hj) hfit h1
  refine SO.val (v := .int .i64 (k : Int)) hd hN ho hw ?_ (kk _ (Upd.setRow _ _ _) (setRow_heap w g cur _ T _ hb) (by simp [World.setRow]))
  unfold execOp
  simp only [hop, resolve, invoke, builtin, Sem.run_bind, Sem.run_pure, Result.andThen_ok, List.map_toArray, List.map_cons, List.map_nil, hx, hy, hrun]
  rfl
/-- what a slice holds, and as many zeros more: a new row -/
theorem SO.appendZeros {d : Nat} {tn e : TypeId} {by_ sz n c k : Nat} {z : Value} {A : Option Addr} {xs : List Value} {F : Nat → Prop} {kq kn : IntKind} (hr : Rd w F (.slice A n c) n sz xs) (ht : RowT P t e sz by_ z) (htn : P.underlying tn = some (.int kn))
    (h0 : 0 < k) (hg : c < n + k) (hb : (n + k) * by_ ≤ 140737488355328) (hm : n + k ≤ 140737488355328) (hp : 0 < by_)
    (hop : o.op = .call { callee := .builtin .append, args := #[x, y], argTypes := #[t, tn] }) (hx : Env.ev E x = .slice A n c) (hy : Env.ev E y = .int kq (k : Int))
    (hd : o.dst = some d) (hN : Nat.blt d N = true) (ho : opsOK E o = true) (hw : wantedE ops E o = some true)
    (kk : ∀ (w' : World) (C : Nat) (cs : Array Value), Upd No w w' → Blk w' w.heap.size cs e → n + k ≤ C → C ≤ maxLen → cs.size = C * sz → cs.toList.take (n * sz) = xs → w'.heap.size = w.heap.size + 1 → K ((d, .slice (some ⟨w.heap.size, 0, none⟩) (n + k) C) :: E) w') : SO P N ops Q o K E w := by
  obtain ⟨i, hi, hz, hsz, hby⟩ := ht.parts
  have hold : (Builtin.firstCells i.size n (.slice A n c)).run P w.drew = .ok xs.toArray w.drew := by
    rw [hsz]
    rcases hr.src ht.pos with ⟨h, hxs, A', c', e9⟩ | ⟨ad, c', e9, hc⟩
    · subst h
      subst hxs
      cases A with
      | none => simp [Builtin.firstCells, loadCells, loadCellsFrom]
      | some a => simp [Builtin.firstCells, loadCells, loadCellsFrom]
    · injection e9 with e1 e2 e3
      subst e1 e3
      exact run_firstCells_some w.drew sz n ad n c xs hr.len (fun j u hj => hc j u hj)
  have hfit : Builtin.nextslicecap (n + k) c * i.bytes ≤ 281474976710656 := by rw [hby]; exact growslice_fits hg hb
  have hrun := Lib.run_append_grow_zeros (P := P) w t tn o.type e i z kq kn ht.und htn hi hz A n c xs hold k h0 (by rw [hsz]; exact ht.pos) hg (by omega) (by
    rw [hby]
    have : k * by_ ≤ (n + k) * by_ := Nat.mul_le_mul_right _ (by omega)
    omega) hfit
  have hC1 : n + k ≤ grownCap w (n + k) c e := grownCap_ge _ _ _ _
  have hC2 : grownCap w (n + k) c e ≤ maxLen := grownCap_le_maxLen _ _ _ _ (le_maxLen hm)
  have hzc : ∀ m, (Builtin.zeroCells z.cells m).size = m * sz := fun m => by simp [Builtin.zeroCells, ht.cells]
  refine SO.val hd hN ho hw (v := .slice (some ⟨w.heap.size, 0, none⟩) (n + k) (grownCap w (n + k) c e)) (w' := w.drew.alloc (.cells (xs.toArray ++ Builtin.zeroCells z.cells k ++ Builtin.zeroCells z.cells (grownCap w (n + k) c e - (n + k))) e)) ?_
    (kk _ _ (xs.toArray ++ Builtin.zeroCells z.cells k ++ Builtin.zeroCells z.cells (grownCap w (n + k) c e - (n + k))) ?_ (Blk.alloc_new w.drew _ _) hC1 hC2 ?_ ?_ ?_)
  · unfold execOp
    simp only [hop, resolve, invoke, builtin, Sem.run_bind, Sem.run_pure, Result.andThen_ok, List.map_toArray, List.map_cons, List.map_nil, hx, hy, hrun]
  · exact (Upd.drew No w).trans_same (Upd.alloc No _ _)
  · rw [Array.size_append, Array.size_append, hzc, hzc, List.size_toArray, hr.len, ← Nat.add_mul, ← Nat.add_mul]
    congr 1
    omega
  · rw [Array.toList_append, Array.toList_append, List.append_assoc, List.take_left' hr.len]
  · simp

theorem r_capSlice {ρ : Operand → Value} {e : TypeId} {A : Option Addr} {len cap : Nat} {ts : Array TypeId} (ho : o.op = .call { callee := .builtin .cap, args := #[x], argTypes := #[t] }) (hx : ρ x = .slice A len cap) (hu : sliceElem P t = some e) :
    (execOp ρ o).run P w = .ok (.value (.int .i64 cap)) w := by
  unfold sliceElem at hu
  cases hd : P.underlying t with
  | none => simp [hd] at hu
  | some d =>
    rw [hd] at hu
    cases d <;> simp at hu
    simp [execOp, ho, resolve, invoke, builtin, hx, Builtin.cap_, run_underlying hd, goInt]

theorem cutA_lt {g off c l sz : Nat} (h : l < c) : cutA (some ⟨g, off, none⟩) c l sz = some ⟨g, off + l * sz, none⟩ := by
  unfold cutA
  rw [if_neg (by omega)]
  simp [Addr.add_lit]
theorem cutA_zero {A : Option Addr} {c sz : Nat} : cutA A c 0 sz = A := by
  unfold cutA
  split
  · rfl
  · cases A with
    | none => rfl
    | some a => simp [Addr.add_zero']

/-- a call of what the model gives itself -/
theorem SO.extern {d : Nat} {f : FuncId} {fn : Func} {ext : Array Value → Sem Value} {xs : List Operand} {ts : Array TypeId} {vs : List Value} {v : Value} {w' : World} (hf : P.funcs[f]? = some fn) (hname : (fn.name == "runtime.NumGoroutine") = false)
    (hb : fn.body.isNone = true) (hn : Extern.findNext fn = none) (he : Extern.find fn = some ext) (hrun : (ext vs.toArray).run P w = .ok v w')
    (hop : o.op = .call { callee := .value (.func f), args := xs.toArray, argTypes := ts }) (hvs : evs E xs vs)
    (hd : o.dst = some d) (hN : Nat.blt d N = true) (ho : opsOK E o = true) (hw : wantedE ops E o = some true) (k : K ((d, v) :: E) w') : SO P N ops Q o K E w := by
  have e1 := evs_map hvs
  have h2 := run_callFunc_extern (P := P) hf hname hb hn he vs.toArray w
  rw [hrun] at h2
  refine SO.val hd hN ho hw ?_ k
  simp [execOp, hop, resolve, Deferred.ofValue, Env.ev, invoke, e1, h2, Result.andThen]

theorem SO.overlaps {d : Nat} {f : FuncId} {fn : Func} {ts : Array TypeId} {tR e : TypeId} {ga oa gb ob la ca lb cb sz : Nat} {csA csB : Array Value} {TA TB : TypeId} (hf : P.funcs[f]? = some fn) (hname : (fn.name == "runtime.NumGoroutine") = false)
    (hb : fn.body.isNone = true) (hn : Extern.findNext fn = none) (he : Extern.find fn = some (Extern.SlicesOverlaps.overlaps #[t, t] #[tR])) (hu : sliceElem P t = some e) (hs : sizeIs P e sz = true)
    (hA : Blk w ga csA TA) (hB : Blk w gb csB TB) (hne : ga ≠ gb) (h0 : csB.size ≠ 0)
    (hop : o.op = .call { callee := .value (.func f), args := #[x, y], argTypes := ts }) (hx : Env.ev E x = .slice (some ⟨ga, oa, none⟩) la ca) (hy : Env.ev E y = .slice (some ⟨gb, ob, none⟩) lb cb)
    (hd : o.dst = some d) (hN : Nat.blt d N = true) (ho : opsOK E o = true) (hw : wantedE ops E o = some true) (k : K ((d, .bool false) :: E) w) : SO P N ops Q o K E w := by
  have hrun := Lib.run_overlaps_apart (P := P) w t tR e (sliceElem_und hu) sz (fun w => run_sizeOf hs) ⟨ga, oa, none⟩ ⟨gb, ob, none⟩ la ca lb cb hne TA TB csA.size csB.size (by
    unfold Blk at hA; simp [World.shape?, hA]) (by unfold Blk at hB; simp [World.shape?, hB]) h0 (hA.free _) (hA.free _)
  exact SO.extern (xs := [x, y]) (vs := [_, _]) hf hname hb hn he hrun hop ⟨hx, hy, trivial⟩ hd hN ho hw k

/-- a slice up to its capacity -/
theorem r_sliceC {ρ : Operand → Value} {e : TypeId} {A : Option Addr} {n c l h sz : Nat} {lo hi : Option Operand} (ho : o.op = .slice t x lo hi none) (hx : ρ x = .slice A n c) (hu : sliceElem P t = some e) (hz : sizeIs P e sz = true)
    (hlo : bnd ρ lo 0 l) (hhi : bnd ρ hi n h) (h1 : l ≤ h) (h2 : h ≤ c) : (execOp ρ o).run P w = .ok (.value (.slice (cutA A c l sz) (h - l) (c - l))) w := by
  unfold sliceElem at hu
  cases hd : P.underlying t with
  | none => simp [hd] at hu
  | some d =>
    rw [hd] at hu
    cases d <;> simp at hu
    subst hu
    have hsz := run_sizeOf (P := P) (w := w) hz
    unfold cutA
    rcases hlo with ⟨rfl, rfl⟩ | ⟨y1, k1, b1, rfl, hy1, hb1⟩ <;> rcases hhi with ⟨rfl, rfl⟩ | ⟨y2, k2, b2, rfl, hy2, hb2⟩
    · simp [execOp, ho, hx, Instr.sliceAt, Instr.slice, run_underlying hd, Instr.sliceBounds, hsz]
    · simp [execOp, ho, hx, hy2, Instr.sliceAt, Instr.slice, run_underlying hd, Instr.sliceBounds, hsz, run_sliceBound_in hb2 h2]
    · simp [execOp, ho, hx, hy1, Instr.sliceAt, Instr.slice, run_underlying hd, Instr.sliceBounds, hsz, run_sliceBound_in hb1 h1]
    · simp [execOp, ho, hx, hy1, hy2, Instr.sliceAt, Instr.slice, run_underlying hd, Instr.sliceBounds, hsz, run_sliceBound_in hb1 h1, run_sliceBound_in hb2 h2]
end

theorem ins_grow {cs rc xs : List Value} {a s N M : Nat} (ha : a ≤ N) (hx : xs.length = N) (hrc : rc.length = s) (hc : N + s ≤ cs.length) (h : cs.take a = xs.take a) (hM : M = a + s + (N - a)) :
    ((cs.take a ++ rc ++ cs.drop (a + s)).take (a + s) ++ xs.drop a ++ (cs.take a ++ rc ++ cs.drop (a + s)).drop M).take (N + s) = xs.take a ++ rc ++ xs.drop a := by
  have e1 : (cs.take a ++ rc ++ cs.drop (a + s)).take (a + s) = xs.take a ++ rc := by
    rw [List.take_left' (by simp only [List.length_append, List.length_take, hrc]; omega), h]
  rw [e1, List.take_left' (by simp only [List.length_append, List.length_take, List.length_drop, hrc, hx]; omega)]
theorem ins_shift {cur rc xs : List Value} {a s N M : Nat} (ha : a ≤ N) (hx : cur.take N = xs) (hrc : rc.length = s) (hc : N + s ≤ cur.length) (hM : M = a + s + (N - a)) :
    ((cur.take (a + s) ++ xs.drop a ++ cur.drop M).take a ++ rc ++ (cur.take (a + s) ++ xs.drop a ++ cur.drop M).drop (a + s)).take (N + s) = xs.take a ++ rc ++ xs.drop a := by
  subst hM
  have hxl : xs.length = N := by rw [← hx, List.length_take]; omega
  have e1 : (cur.take (a + s) ++ xs.drop a ++ cur.drop (a + s + (N - a))).take a = xs.take a := by
    rw [List.append_assoc, List.take_append_of_le_length (by rw [List.length_take]; omega), List.take_take, ← hx, List.take_take]
    congr 1
    omega
  have e2 : (cur.take (a + s) ++ xs.drop a ++ cur.drop (a + s + (N - a))).drop (a + s) = xs.drop a ++ cur.drop (a + s + (N - a)) := by
    rw [List.append_assoc, List.drop_left' (by rw [List.length_take]; omega)]
  rw [e1, e2, ← List.append_assoc, List.take_left' (by simp only [List.length_append, List.length_take, List.length_drop, hrc, hxl]; omega)]

/-- a condition whose temporary is asked again -/
theorem WC.condT {P : Program} {N : Nat} {Q : Exit → Act → World → Prop} {x y : Code} {E : Env} {w : World} {t : Nat} {b : Bool} (hb : Env.get E t = some (.bool b)) (k1 : b = true → WC P N Q x ((t, .bool true) :: E) w) (k2 : b = false → WC P N Q y ((t, .bool false) :: E) w) : WC P N Q (.cond (.tmp t) x y) E w := by
  have hsub : ∀ c : Bool, b = c → ∀ a, Sat N E a → Sat N ((t, .bool c) :: E) a := fun c e a h => ⟨h.size, h.defers, fun s v hs => by
    simp only [Env.get] at hs
    split at hs
    · rename_i hq
      have := Nat.eq_of_beq_eq_true hq
      subst this
      injection hs with hs
      subst hs
      rw [← e]
      exact h.vals _ _ hb
    · exact h.vals s v hs⟩
  refine WC.cond (b := b) (by simp [Env.has, hb]) (by simp [Env.ev, hb]) (fun e => ?_) (fun e => ?_)
  · exact fun a h => k1 e a (hsub true e a h)
  · exact fun a h => k2 e a (hsub false e a h)
end Go.Proofs.Ytncakfcafkfmfaa

/-
  Maps: a map's block known whole; looked up, and written at a new key; keys that are numbers, or pairs of them.
-/
namespace Go.Proofs.Ytncakfcafkfmfaa
open Go
set_option linter.unusedSimpArgs false
set_option linter.unusedVariables false

/-- a map's block: its entries in the order in which they were made -/
def MapB (w : World) (b : Nat) (l : List (Value × Value)) : Prop := ∃ es clock, w.heap[b]? = some (.map es clock) ∧ es.toList.map (fun e => (e.key, e.val)) = l
theorem MapB.lt {w : World} {b : Nat} {l : List (Value × Value)} (h : MapB w b l) : b < w.heap.size := by
  obtain ⟨es, clock, hb, _⟩ := h
  exact (Array.getElem?_eq_some_iff.1 hb).1
theorem MapB.upd {w w' : World} {S : Nat → Prop} {b : Nat} {l : List (Value × Value)} (h : MapB w b l) (hu : Upd S w w') (hn : ¬ S b) : MapB w' b l := by
  have hl := h.lt
  obtain ⟨es, clock, hb, he⟩ := h
  exact ⟨es, clock, (hu.block b hl hn).trans hb, he⟩
theorem MapB.updA {w w' : World} {S : Nat → Prop} {b : Nat} {l : List (Value × Value)} (h : MapB w b l) (hu : Upd S w w') (hn : ¬ S b := by first | exact (fun h => h) | with_reducible assumption | (simp only [At]; omega) | (simp only [At, New, Grow, From, No]; omega)) : MapB w' b l := h.upd hu hn
theorem MapB.ne {w : World} {b b' : Nat} {l : List (Value × Value)} {cs : Array Value} {T : TypeId} (h : MapB w b l) (h' : Blk w b' cs T) : b ≠ b' := by
  rintro rfl
  obtain ⟨es, clock, hb, _⟩ := h
  unfold Blk at h'
  rw [hb] at h'
  cases h'

/-- the first entry of a key -/
def lookA {α : Type} [DecidableEq α] : List (α × Value) → α → Option Value
  | [], _ => none
  | (k, v) :: r, x => if k = x then some v else lookA r x
theorem lookA_append {α : Type} [DecidableEq α] (l r : List (α × Value)) (x : α) : lookA (l ++ r) x = (lookA l x).orElse fun _ => lookA r x := by
  induction l with
  | nil => rfl
  | cons a l ih =>
    obtain ⟨k, v⟩ := a
    simp only [List.cons_append, lookA]
    split
    · rfl
    · exact ih

/-- what a map's laws need of a kind of keys -/
structure KeyT {α : Type} [DecidableEq α] (P : Program) (k : TypeId) (enc : α → Value) : Prop where
  check : ∀ (w : World) (em : Bool) (x : α), (Instr.checkKey em 10000 k (enc x)).run P w = .ok () w
  find : ∀ (w : World) (x : α) (es : List MapEntry) (l : List (α × Value)), es.map (fun e => (e.key, e.val)) = l.map (fun p => (enc p.1, p.2)) →
    ∃ r, (Instr.findKey k (enc x) es).run P w = .ok r w ∧ r.map (·.2) = lookA l x

theorem key_int {P : Program} {k : TypeId} {q : IntKind} (hk : P.underlying k = some (.int q)) : KeyT (α := Int) P k (fun x => .int q x) := by
  have ck : ∀ (D : Nat) (w : World) (em : Bool) (x : Int), (Instr.checkKey em (D + 1) k (.int q x)).run P w = .ok () w := fun D w em x => by simp [Instr.checkKey, run_underlying hk]
  refine ⟨fun w em x => ck 9999 w em x, fun w x es l he => ?_⟩
  have key : ∀ (es : List MapEntry) (l : List (Int × Value)) (i : Nat), es.map (fun e => (e.key, e.val)) = l.map (fun p => (Value.int q p.1, p.2)) →
      ∃ r, Instr.findNow (.int q) (.int q x) es i = some r ∧ r.map (·.2) = lookA l x := by
    intro es
    induction es with
    | nil =>
      intro l i he
      cases l with
      | nil => exact ⟨none, rfl, rfl⟩
      | cons => simp at he
    | cons e es ih =>
      intro l i he
      cases l with
      | nil => simp at he
      | cons p l =>
        obtain ⟨k', v⟩ := p
        simp only [List.map_cons, List.cons.injEq, Prod.mk.injEq] at he
        obtain ⟨⟨h1, h2⟩, h3⟩ := he
        simp only [Instr.findNow, h1, Instr.sameNow, if_true, lookA]
        by_cases hx : x = k'
        · subst hx
          simp [h2]
        · have h4 : (x == k') = false := by simp [hx]
          rw [h4, if_neg (fun e => hx e.symm)]
          exact ih l (i + 1) h3
  obtain ⟨r, hr, hm⟩ := key es l 0 he
  exact ⟨r, by simp [Instr.findKey, run_underlying hk, hr], hm⟩

/-- pairs of numbers, as arrays -/
def pairV (p : Int × Int) : Value := .agg #[.int .i64 p.1, .int .i64 p.2]
structure Arr2 (P : Program) (t e : TypeId) : Prop where
  und : P.underlying t = some (.array 2 e)
  int : P.underlying e = some (.int .i64)
  flat : flatB P e = true
  size : sizeIs P e 1 = true
  guard : P.eqGuardType P.depth t = false
theorem run_eqlArr2 {P : Program} {t e : TypeId} (h : Arr2 P t e) (w : World) (a b c d : Int) :
    (Op.equal t (.agg #[.int .i64 a, .int .i64 b]) (.agg #[.int .i64 c, .int .i64 d])).run P w = .ok (decide (a = c) && decide (b = d)) w := by
  have hs := h.size
  unfold sizeIs at hs
  cases hi : P.info? e with
  | none => simp [hi] at hs
  | some i =>
    rw [hi] at hs
    have hs1 : i.size = 1 := by simpa using hs
    have h1 := run_equalIn_array (P := P) (w := w) 9999 #[.int .i64 a, .int .i64 b] #[.int .i64 c, .int .i64 d] h.und hi
    have h2 : (Op.equal t (.agg #[.int .i64 a, .int .i64 b]) (.agg #[.int .i64 c, .int .i64 d])).run P w = (Op.equalIn (9999 + 1) t (.agg #[.int .i64 a, .int .i64 b]) (.agg #[.int .i64 c, .int .i64 d])).run P w := rfl
    have hc : P.cellsOf e = 1 := by simp [Program.cellsOf, hi, hs1]
    rw [h2, h1, hc]
    have e0 := run_isAgg_flat (P := P) (w := w) h.flat
    have q1 : ∀ (D : Nat) (x y : Int), (Op.equalIn (D + 1) e (.int .i64 x) (.int .i64 y)).run P w = .ok (x == y) w := fun D x y => by simp [Op.equalIn, run_underlying h.int]
    have q0 : ∀ x y : Int, (Op.equalIn 9999 e (.int .i64 x) (.int .i64 y)).run P w = .ok (x == y) w := fun x y => q1 9998 x y
    generalize (9999 : Nat) = D at q0
    cases ha : (a == c) <;> cases hb : (b == d) <;> rw [show decide (a = c) = (a == c) from rfl, show decide (b = d) = (b == d) from rfl, ha, hb] <;>
      simp [List.range_succ, Op.eqItems, part, e0, q0, ha, hb]
theorem key_pair {P : Program} {t e : TypeId} (h : Arr2 P t e) : KeyT (α := Int × Int) P t pairV := by
  have hc : ∀ (w : World) (em : Bool) (v : Value), v.oneCell' = true → True := fun _ _ _ _ => trivial
  refine ⟨fun w em x => ?_, fun w x es l he => ?_⟩
  · have hs := h.size
    unfold sizeIs at hs
    cases hi : P.info? e with
    | none => simp [hi] at hs
    | some i =>
      rw [hi] at hs
      have hs1 : i.size = 1 := by simpa using hs
      have e0 := run_isAgg_flat (P := P) (w := w) h.flat
      have hsz := run_sizeOf (P := P) (w := w) h.size
      have q1 : ∀ (D : Nat) (y : Int), (Instr.checkKey em (D + 1) e (.int .i64 y)).run P w = .ok () w := fun D y => by simp [Instr.checkKey, run_underlying h.int]
      have q0 : ∀ y : Int, (Instr.checkKey em 9999 e (.int .i64 y)).run P w = .ok () w := fun y => q1 9998 y
      show (Instr.checkKey em (9999 + 1) t (pairV x)).run P w = _
      generalize (9999 : Nat) = D at q0 ⊢
      simp only [Instr.checkKey, pairV, Sem.run_bind, run_underlying h.und, Result.andThen_ok]
      simp only [Std.Legacy.Range.forIn_eq_forIn_range', Std.Legacy.Range.size, Nat.sub_zero, Nat.add_one_sub_one, Nat.div_one]
      simp [List.range'_succ, hsz, part, e0, q0]
  · have key : ∀ (es : List MapEntry) (l : List ((Int × Int) × Value)) (i : Nat), es.map (fun e => (e.key, e.val)) = l.map (fun p => (pairV p.1, p.2)) →
        ∃ r, (Instr.findAsking t (pairV x) es i).run P w = .ok r w ∧ r.map (·.2) = lookA l x := by
      intro es
      induction es with
      | nil =>
        intro l i he
        cases l with
        | nil => exact ⟨none, by simp [Instr.findAsking], rfl⟩
        | cons => simp at he
      | cons e' es ih =>
        intro l i he
        cases l with
        | nil => simp at he
        | cons p l =>
          obtain ⟨k', v⟩ := p
          simp only [List.map_cons, List.cons.injEq, Prod.mk.injEq] at he
          obtain ⟨⟨h1, h2⟩, h3⟩ := he
          have hq := run_eqlArr2 h w x.1 x.2 k'.1 k'.2
          simp only [Instr.findAsking, h1, lookA]
          by_cases hx : k' = x
          · subst hx
            refine ⟨some (i, e'.val), ?_, by simp [h2]⟩
            simp [pairV] at hq ⊢
            simp [hq]
          · obtain ⟨r, hr, hm⟩ := ih l (i + 1) h3
            refine ⟨r, ?_, by rw [if_neg hx]; exact hm⟩
            have hd : (decide (x.1 = k'.1) && decide (x.2 = k'.2)) = false := by
              rw [Bool.and_eq_false_iff]
              by_cases h0 : x.1 = k'.1
              · right
                simp only [decide_eq_false_iff_not]
                exact fun e => hx (Prod.ext h0.symm e.symm)
              · left; simpa using h0
            rw [hd] at hq
            simp only [pairV, Sem.run_bind] at hq hr ⊢
            rw [hq]
            simpa using hr
    obtain ⟨r, hr, hm⟩ := key es l 0 he
    cases es with
    | nil => exact ⟨r, by simp only [Instr.findKey, Sem.run_bind, run_underlying h.und, Result.andThen_ok, Instr.findNow]; simpa [Instr.findAsking] using hr, hm⟩
    | cons e' es =>
      refine ⟨r, ?_, hm⟩
      have hn : Instr.sameNow (.array 2 e) (pairV x) e'.key = none := by
        cases e'.key <;> rfl
      simp only [Instr.findKey, Sem.run_bind, run_underlying h.und, Result.andThen_ok, Instr.findNow, hn]
      exact hr

section
variable {α : Type} [DecidableEq α] {P : Program} {ρ : Operand → Value} {o : Oper} {w : World} {x y z : Operand} {t k e : TypeId} {enc : α → Value} {b : Nat} {l : List (α × Value)}
theorem run_look {a : α} {zv : Value} {c : Bool} {r : Option Value} (K : KeyT P k enc) (hb : MapB w b (l.map fun p => (enc p.1, p.2))) (ht : P.underlying t = some (.map k e)) (hz : zeroOf P e = some zv) (hr : lookA l a = r) :
    (Instr.lookup t (.map (some b)) (enc a) c).run P w = .ok (if c then .tuple #[r.getD zv, .bool r.isSome] else r.getD zv) w := by
  obtain ⟨es, clock, hb, he⟩ := hb
  obtain ⟨q, hq, hm⟩ := K.find w a es.toList l he
  subst hr
  cases q with
  | none =>
    have h0 : lookA l a = none := by rw [← hm]; rfl
    rw [h0]
    simp [Instr.lookup, run_underlying ht, MapKept.run_getObj_map hb, K.check, hq, run_zeroValue hz, Result.andThen]
  | some p =>
    have h0 : lookA l a = some p.2 := by rw [← hm]; rfl
    rw [h0]
    simp [Instr.lookup, run_underlying ht, MapKept.run_getObj_map hb, K.check, hq, Result.andThen]
theorem r_lookupOk {a : α} {zv : Value} {r : Option Value} (K : KeyT P k enc) (hb : MapB w b (l.map fun p => (enc p.1, p.2))) (hr : lookA l a = r) (ho : o.op = .lookup t x y true) (hx : ρ x = .map (some b)) (hy : ρ y = enc a) (ht : P.underlying t = some (.map k e)) (hz : zeroOf P e = some zv) :
    (execOp ρ o).run P w = .ok (.value (.tuple #[r.getD zv, .bool r.isSome])) w := by
  have := run_look (c := true) K hb ht hz hr
  simp [execOp, ho, hx, hy, this]
theorem r_lookup {a : α} {zv : Value} {r : Option Value} (K : KeyT P k enc) (hb : MapB w b (l.map fun p => (enc p.1, p.2))) (hr : lookA l a = r) (ho : o.op = .lookup t x y false) (hx : ρ x = .map (some b)) (hy : ρ y = enc a) (ht : P.underlying t = some (.map k e)) (hz : zeroOf P e = some zv) :
    (execOp ρ o).run P w = .ok (.value (r.getD zv)) w := by
  have := run_look (c := false) K hb ht hz hr
  simp [execOp, ho, hx, hy, this]
/-- the values named beforehand -/
theorem r_lookupV {a : α} {zv v : Value} {ok : Bool} (K : KeyT P k enc) (hb : MapB w b (l.map fun p => (enc p.1, p.2))) (hv : (lookA l a).getD zv = v) (hs : (lookA l a).isSome = ok) (ho : o.op = .lookup t x y true) (hx : ρ x = .map (some b)) (hy : ρ y = enc a) (ht : P.underlying t = some (.map k e)) (hz : zeroOf P e = some zv) :
    (execOp ρ o).run P w = .ok (.value (.tuple #[v, .bool ok])) w := by
  subst hv hs
  exact r_lookupOk K hb rfl ho hx hy ht hz
theorem r_lookupW {a : α} {zv v : Value} (K : KeyT P k enc) (hb : MapB w b (l.map fun p => (enc p.1, p.2))) (hv : (lookA l a).getD zv = v) (ho : o.op = .lookup t x y false) (hx : ρ x = .map (some b)) (hy : ρ y = enc a) (ht : P.underlying t = some (.map k e)) (hz : zeroOf P e = some zv) :
    (execOp ρ o).run P w = .ok (.value v) w := by
  subst hv
  exact r_lookup K hb rfl ho hx hy ht hz
end
theorem Upd.setObj (w : World) (b : Nat) (o : Obj) : Upd (At b) w { w with heap := w.heap.setIfInBounds b o } :=
  ⟨rfl, rfl, rfl, by simp, fun k _ hn => by
    have : b ≠ k := fun e => hn e.symm
    simp [Array.getElem?_setIfInBounds_ne this]⟩
section
variable {α : Type} [DecidableEq α] {P : Program} {N : Nat} {ops : Array Oper} {Q : Exit → Act → World → Prop} {o : Oper} {E : Env} {w : World} {d : Nat} {v : Value} {K : Env → World → Prop} {x y z : Operand} {t k e : TypeId} {enc : α → Value} {b : Nat} {l : List (α × Value)}
theorem SO.mapNew {a : α} (KT : KeyT P k enc) (hb : MapB w b (l.map fun p => (enc p.1, p.2))) (hr : lookA l a = none) (hop : o.op = .mapUpdate t x y z) (hx : Env.ev E x = .map (some b)) (hy : Env.ev E y = enc a) (hz : Env.ev E z = v) (ht : P.underlying t = some (.map k e))
    (hd : o.dst = none) (ho : opsOK E o = true) (hw : wantedE ops E o = some true)
    (kk : ∀ w', Upd (At b) w w' → MapB w' b ((l ++ [(a, v)]).map fun p => (enc p.1, p.2)) → w'.heap.size = w.heap.size → K E w') : SO P N ops Q o K E w := by
  have hlt := hb.lt
  obtain ⟨es, clock, hb, he⟩ := hb
  obtain ⟨q, hq, hm⟩ := KT.find w a es.toList l he
  have hq0 : q = none := by
    cases q with
    | none => rfl
    | some p => rw [hr] at hm; cases hm
  subst hq0
  refine SO.eff (w' := ChangeMaps.setBlock w b (.map (es.push ⟨enc a, v, clock⟩) (clock + 1))) hd ho hw ?_ (kk _ ?_ ?_ ?_)
  · simp [execOp, hop, hx, hy, hz, Instr.mapUpdate, run_underlying ht, MapKept.run_getObj_map hb, KT.check, hq, MapKept.run_setObj_map _ hb, Result.andThen, ChangeMaps.setBlock]
  · exact ⟨rfl, rfl, rfl, by simp [ChangeMaps.setBlock], fun i _ hn => ChangeMaps.heap_setBlock_other hb _ (fun e => hn (by rw [e]; rfl))⟩
  · exact ⟨_, _, ChangeMaps.heap_setBlock_same hb _, by simp [he]⟩
  · simp [ChangeMaps.setBlock]
theorem SO.makeMap (hop : o.op = .makeMap t none) (hd : o.dst = some d) (hN : Nat.blt d N = true) (ho : opsOK E o = true) (hw : wantedE ops E o = some true)
    (kk : ∀ w', Upd No w w' → MapB w' w.heap.size [] → w'.heap.size = w.heap.size + 1 → K ((d, .map (some w.heap.size)) :: E) w') : SO P N ops Q o K E w := by
  refine SO.val (w' := w.alloc (.map #[] 0)) hd hN ho hw ?_ (kk _ (Upd.alloc _ _ _) ⟨#[], 0, heap_alloc_new w _, rfl⟩ (World.size_alloc _ _))
  simp [execOp, hop, Instr.makeMap]
end
end Go.Proofs.Ytncakfcafkfmfaa

/-
  types: trees, substitutions in a triangular list, unification, in plain Lean: no program in sight.
-/
namespace Go.Proofs.Ytncakfcafkfmfaa
open Go
set_option linter.unusedSimpArgs false
set_option linter.unusedVariables false

abbrev Nm := {l : List UInt8 // l ≠ []}
/-- a type: a variable, or a name and of what -/
inductive Ty where
  | v (x : Int)
  | c (n : Nm) (ks : List Ty)

theorem Ty.ind {P : Ty → Prop} (hv : ∀ x, P (.v x)) (hc : ∀ n ks, (∀ k ∈ ks, P k) → P (.c n ks)) : ∀ t, P t
  | .v x => hv x
  | .c n ks => hc n ks (fun k hk => Ty.ind hv hc k)
termination_by t => SizeOf.sizeOf t
decreasing_by
  have := List.sizeOf_lt_of_mem hk
  simp only [Ty.c.sizeOf_spec]
  omega

/-- the variables replaced -/
def ext (f : Int → Ty) : Ty → Ty
  | .v x => f x
  | .c n ks => .c n (ks.attach.map fun k => ext f k.1)
termination_by t => SizeOf.sizeOf t
decreasing_by
  have := List.sizeOf_lt_of_mem k.2
  simp only [Ty.c.sizeOf_spec]
  omega
theorem ext_v (f : Int → Ty) (x : Int) : ext f (.v x) = f x := by rw [ext]
theorem ext_c (f : Int → Ty) (n : Nm) (ks : List Ty) : ext f (.c n ks) = .c n (ks.map (ext f)) := by rw [ext]; simp

/-- the variables of a tree, as often as they stand there -/
def vars : Ty → List Int
  | .v x => [x]
  | .c n ks => (ks.attach.map fun k => vars k.1).flatten
termination_by t => SizeOf.sizeOf t
decreasing_by
  have := List.sizeOf_lt_of_mem k.2
  simp only [Ty.c.sizeOf_spec]
  omega
theorem vars_v (x : Int) : vars (.v x) = [x] := by rw [vars]
theorem vars_c (n : Nm) (ks : List Ty) : vars (.c n ks) = (ks.map vars).flatten := by rw [vars]; simp
theorem mem_vars_c {n : Nm} {ks : List Ty} {x : Int} : x ∈ vars (.c n ks) ↔ ∃ k ∈ ks, x ∈ vars k := by
  rw [vars_c, List.mem_flatten]
  constructor
  · rintro ⟨l, hl, hx⟩
    obtain ⟨k, hk, rfl⟩ := List.mem_map.1 hl
    exact ⟨k, hk, hx⟩
  · rintro ⟨k, hk, hx⟩
    exact ⟨_, List.mem_map_of_mem hk, hx⟩

/-- how many parts -/
def sz : Ty → Nat
  | .v _ => 1
  | .c _ ks => 1 + (ks.attach.map fun k => sz k.1).sum
termination_by t => SizeOf.sizeOf t
decreasing_by
  have := List.sizeOf_lt_of_mem k.2
  simp only [Ty.c.sizeOf_spec]
  omega
theorem sz_v (x : Int) : sz (.v x) = 1 := by rw [sz]
theorem sz_c (n : Nm) (ks : List Ty) : sz (.c n ks) = 1 + (ks.map sz).sum := by rw [sz]; simp
theorem sz_pos : ∀ t, 1 ≤ sz t
  | .v x => by rw [sz_v]; omega
  | .c n ks => by rw [sz_c]; omega
theorem sum_mem_le {l : List Nat} {a : Nat} (h : a ∈ l) : a ≤ l.sum := by
  induction l with
  | nil => cases h
  | cons b l ih =>
    rw [List.sum_cons]
    rcases List.mem_cons.1 h with rfl | h
    · omega
    · have := ih h; omega
theorem sz_kid {n : Nm} {ks : List Ty} {k : Ty} (h : k ∈ ks) : sz k < sz (.c n ks) := by
  have := sum_mem_le (List.mem_map_of_mem (f := sz) h)
  rw [sz_c]; omega

theorem ext_id (t : Ty) : ext .v t = t := by
  induction t using Ty.ind with
  | hv x => rw [ext_v]
  | hc n ks ih =>
    rw [ext_c]
    congr 1
    exact (List.map_congr_left ih).trans (List.map_id ks)
theorem ext_congr {f g : Int → Ty} {t : Ty} (h : ∀ y ∈ vars t, f y = g y) : ext f t = ext g t := by
  induction t using Ty.ind with
  | hv x => rw [ext_v, ext_v]; exact h x (by rw [vars_v]; simp)
  | hc n ks ih =>
    rw [ext_c, ext_c]
    congr 1
    exact List.map_congr_left fun k hk => ih k hk fun y hy => h y (mem_vars_c.2 ⟨k, hk, hy⟩)
theorem ext_congr_iff {f g : Int → Ty} {t : Ty} : ext f t = ext g t ↔ ∀ y ∈ vars t, f y = g y := by
  refine ⟨fun h => ?_, ext_congr⟩
  induction t using Ty.ind with
  | hv x => intro y hy; rw [vars_v] at hy; simp at hy; subst hy; simpa [ext_v] using h
  | hc n ks ih =>
    intro y hy
    obtain ⟨k, hk, hy⟩ := mem_vars_c.1 hy
    rw [ext_c, ext_c] at h
    injection h with _ h
    exact ih k hk (List.map_inj_left.1 h k hk) y hy
theorem ext_comp (f g : Int → Ty) (t : Ty) : ext f (ext g t) = ext (fun y => ext f (g y)) t := by
  induction t using Ty.ind with
  | hv x => rw [ext_v, ext_v]
  | hc n ks ih =>
    rw [ext_c, ext_c, ext_c, List.map_map]
    congr 1
    exact List.map_congr_left ih
theorem mem_vars_ext {f : Int → Ty} {t : Ty} {y : Int} : y ∈ vars (ext f t) ↔ ∃ z ∈ vars t, y ∈ vars (f z) := by
  induction t using Ty.ind with
  | hv x => rw [ext_v, vars_v]; simp
  | hc n ks ih =>
    rw [ext_c, mem_vars_c]
    constructor
    · rintro ⟨k, hk, hy⟩
      obtain ⟨k', hk', rfl⟩ := List.mem_map.1 hk
      obtain ⟨z, hz, hy⟩ := (ih k' hk').1 hy
      exact ⟨z, mem_vars_c.2 ⟨k', hk', hz⟩, hy⟩
    · rintro ⟨z, hz, hy⟩
      obtain ⟨k, hk, hz⟩ := mem_vars_c.1 hz
      exact ⟨_, List.mem_map_of_mem hk, (ih k hk).2 ⟨z, hz, hy⟩⟩
theorem sz_ext_le {f : Int → Ty} {t : Ty} {y : Int} (h : y ∈ vars t) : sz (f y) ≤ sz (ext f t) := by
  induction t using Ty.ind with
  | hv x => rw [vars_v] at h; simp at h; subst h; rw [ext_v]; exact Nat.le_refl _
  | hc n ks ih =>
    obtain ⟨k, hk, hy⟩ := mem_vars_c.1 h
    have h1 := ih k hk hy
    have h2 := sz_kid (n := n) (List.mem_map_of_mem (f := ext f) hk)
    rw [ext_c]; omega
theorem sz_ext_lt {f : Int → Ty} {n : Nm} {ks : List Ty} {y : Int} (h : y ∈ vars (.c n ks)) : sz (f y) < sz (ext f (.c n ks)) := by
  obtain ⟨k, hk, hy⟩ := mem_vars_c.1 h
  have h1 := sz_ext_le (f := f) hy
  have h2 := sz_kid (n := n) (List.mem_map_of_mem (f := ext f) hk)
  rw [ext_c]; omega

/-! ### what variables stand for -/
abbrev Sg := List (Int × Ty)
def look : Sg → Int → Option Ty
  | [], _ => none
  | (k, t) :: r, x => if k = x then some t else look r x
theorem look_append (σ τ : Sg) (x : Int) : look (σ ++ τ) x = (look σ x).orElse fun _ => look τ x := by
  induction σ with
  | nil => rfl
  | cons b σ ih =>
    obtain ⟨k, t⟩ := b
    simp only [List.cons_append, look]
    split
    · rfl
    · exact ih
theorem look_snoc {σ : Sg} {x : Int} {u : Ty} (y : Int) (h : look σ x = none) : look (σ ++ [(x, u)]) y = if x = y then some u else look σ y := by
  rw [look_append]
  by_cases hxy : x = y
  · subst hxy; simp [h, look]
  · simp only [look, hxy, if_false]
    cases look σ y <;> rfl
theorem look_mem {σ : Sg} {x : Int} {u : Ty} (h : look σ x = some u) : (x, u) ∈ σ := by
  induction σ with
  | nil => cases h
  | cons b σ ih =>
    obtain ⟨k, t⟩ := b
    simp only [look] at h
    split at h
    · rename_i hk; subst hk; injection h with h; subst h; simp
    · exact List.mem_cons_of_mem _ (ih h)

def sub1 (x : Int) (s : Ty) : Int → Ty := fun y => if y = x then s else .v y
theorem sub1_self (x : Int) (s : Ty) : sub1 x s x = s := if_pos rfl
theorem sub1_ne {x y : Int} (s : Ty) (h : y ≠ x) : sub1 x s y = .v y := if_neg h
theorem sub1_out {x : Int} {s t : Ty} (h : x ∉ vars t) : ext (sub1 x s) t = t := by
  refine (ext_congr fun y hy => ?_).trans (ext_id t)
  exact sub1_ne s (fun e => h (e ▸ hy))

/-- what each variable stands for, all replaced -/
def th (σ : Sg) : Int → Ty := σ.foldl (fun f b y => ext (sub1 b.1 (ext f b.2)) (f y)) .v
theorem th_nil : th [] = .v := rfl
theorem th_snoc (σ : Sg) (x : Int) (u : Ty) : th (σ ++ [(x, u)]) = fun y => ext (sub1 x (ext (th σ) u)) (th σ y) := by
  unfold th
  rw [List.foldl_append]
  rfl
theorem th_snoc1 (σ : Sg) (x : Int) (u : Ty) (y : Int) : th (σ ++ [(x, u)]) y = ext (sub1 x (ext (th σ) u)) (th σ y) := by rw [th_snoc]
theorem ext_th_snoc (σ : Sg) (x : Int) (u t : Ty) : ext (th (σ ++ [(x, u)])) t = ext (sub1 x (ext (th σ) u)) (ext (th σ) t) := by
  rw [ext_comp, th_snoc]

/-- each binding was new, and its variable doesn't occur in what it stands for -/
inductive WF : Sg → Prop
  | nil : WF []
  | snoc {σ : Sg} {x : Int} {u : Ty} : WF σ → look σ x = none → x ∉ vars (ext (th σ) u) → WF (σ ++ [(x, u)])

theorem WF.unb {σ : Sg} (h : WF σ) {y : Int} (hy : look σ y = none) : th σ y = .v y := by
  induction h with
  | nil => rfl
  | @snoc σ x u hw hn ho ih =>
    rw [look_snoc y hn] at hy
    split at hy
    · cases hy
    · rename_i hxy
      rw [th_snoc1, ih hy, ext_v, sub1_ne _ (fun e => hxy e.symm)]
theorem WF.bnd {σ : Sg} (h : WF σ) {y : Int} {t : Ty} (hy : look σ y = some t) : th σ y = ext (th σ) t := by
  induction h with
  | nil => cases hy
  | @snoc σ x u hw hn ho ih =>
    rw [look_snoc y hn] at hy
    rw [ext_th_snoc]
    split at hy
    · rename_i hxy
      subst hxy
      injection hy with hy
      subst hy
      rw [th_snoc1, hw.unb hn, ext_v, sub1_self, sub1_out ho]
    · rw [th_snoc1, ih hy]
theorem WF.gone {σ : Sg} (h : WF σ) {y : Int} {t : Ty} (hy : look σ y = some t) : ∀ z, y ∉ vars (th σ z) := by
  induction h with
  | nil => cases hy
  | @snoc σ x u hw hn ho ih =>
    intro z hz
    rw [look_snoc y hn] at hy
    rw [th_snoc1, mem_vars_ext] at hz
    obtain ⟨a, ha, hya⟩ := hz
    unfold sub1 at hya
    split at hy
    · rename_i hxy
      subst hxy
      split at hya
      · exact ho hya
      · rename_i hne
        rw [vars_v] at hya
        simp at hya
        exact hne hya.symm
    · split at hya
      · obtain ⟨b, hb, hyb⟩ := mem_vars_ext.1 hya
        exact ih hy b hyb
      · rw [vars_v] at hya
        simp at hya
        subst hya
        exact ih hy z ha
theorem WF.goneT {σ : Sg} (h : WF σ) {y : Int} {t u : Ty} (hy : look σ y = some t) : y ∉ vars (ext (th σ) u) := fun hz => by
  obtain ⟨a, _, ha⟩ := mem_vars_ext.1 hz
  exact h.gone hy a ha
theorem WF.idem {σ : Sg} (h : WF σ) (t : Ty) : ext (th σ) (ext (th σ) t) = ext (th σ) t := by
  refine (ext_congr fun y hy => ?_).trans (ext_id _)
  cases hl : look σ y with
  | none => exact h.unb hl
  | some u => exact absurd hy (h.goneT hl)
theorem WF.idem1 {σ : Sg} (h : WF σ) (z : Int) : ext (th σ) (th σ z) = th σ z := by
  have := h.idem (.v z)
  simpa only [ext_v] using this

/-- ranks fall along bindings -/
def Rk (σ : Sg) (W : Int → Nat) : Prop := ∀ x u, look σ x = some u → ∀ y ∈ vars u, W y < W x
theorem list_bound (W : Int → Nat) (l : List Int) : ∃ M, ∀ y ∈ l, W y ≤ M := by
  induction l with
  | nil => exact ⟨0, fun y h => by cases h⟩
  | cons a l ih =>
    obtain ⟨M, h⟩ := ih
    refine ⟨M + W a, fun y hy => ?_⟩
    rcases List.mem_cons.1 hy with rfl | hy
    · omega
    · have := h y hy; omega
theorem WF.rank {σ : Sg} (h : WF σ) : ∃ W, Rk σ W := by
  induction h with
  | nil => exact ⟨fun _ => 0, fun x u h => by cases h⟩
  | @snoc σ x u hw hn ho ih =>
    obtain ⟨W, hW⟩ := ih
    obtain ⟨M, hM⟩ := list_bound W (vars u)
    refine ⟨fun z => W z + if x ∈ vars (th σ z) then 1 + M else 0, fun a t ha y hy => ?_⟩
    simp only
    rw [look_snoc a hn] at ha
    split at ha
    · rename_i hxa
      subst hxa
      injection ha with ha
      subst ha
      have h1 : x ∉ vars (th σ y) := fun hx => ho (mem_vars_ext.2 ⟨y, hy, hx⟩)
      have h2 : x ∈ vars (th σ x) := by rw [hw.unb hn, vars_v]; simp
      rw [if_neg h1, if_pos h2]
      have := hM y hy
      omega
    · have h1 := hW a t ha y hy
      by_cases h2 : x ∈ vars (th σ y)
      · have h3 : x ∈ vars (th σ a) := by rw [hw.bnd ha]; exact mem_vars_ext.2 ⟨y, hy, h2⟩
        rw [if_pos h2, if_pos h3]; omega
      · rw [if_neg h2]; omega

/-- a substitution that meets the bindings -/
def Sol (τ : Int → Ty) (σ : Sg) : Prop := ∀ x u, look σ x = some u → τ x = ext τ u
theorem WF.sol {σ : Sg} (h : WF σ) : Sol (th σ) σ := fun _ _ hx => h.bnd hx
theorem Sol.th {σ : Sg} {τ : Int → Ty} (hw : WF σ) (h : Sol τ σ) (z : Int) : ext τ (th σ z) = τ z := by
  obtain ⟨W, hW⟩ := hw.rank
  have key : ∀ m z, W z < m → ext τ (Go.Proofs.Ytncakfcafkfmfaa.th σ z) = τ z := by
    intro m
    induction m with
    | zero => intro z hz; omega
    | succ m ih =>
      intro z hz
      cases hl : look σ z with
      | none => rw [hw.unb hl, ext_v]
      | some u =>
        rw [hw.bnd hl, ext_comp, h z u hl]
        exact ext_congr fun y hy => ih y (by have := hW z u hl y hy; omega)
  exact key _ z (Nat.lt_succ_self _)
theorem Sol.ext {σ : Sg} {τ : Int → Ty} (hw : WF σ) (h : Sol τ σ) (t : Ty) : ext τ (ext (Go.Proofs.Ytncakfcafkfmfaa.th σ) t) = ext τ t := by
  rw [ext_comp]
  exact ext_congr fun y _ => h.th hw y
def Sub (σ σ' : Sg) : Prop := ∀ x u, look σ x = some u → look σ' x = some u
theorem Sub.refl (σ : Sg) : Sub σ σ := fun _ _ h => h
theorem Sub.trans {σ σ1 σ2 : Sg} (h : Sub σ σ1) (h' : Sub σ1 σ2) : Sub σ σ2 := fun x u hx => h' x u (h x u hx)
theorem Sub.snoc (σ : Sg) (x : Int) (u : Ty) : Sub σ (σ ++ [(x, u)]) := fun y t h => by rw [look_append, h]; rfl
theorem Sol.sub {σ σ' : Sg} {τ : Int → Ty} (h : Sol τ σ') (hs : Sub σ σ') : Sol τ σ := fun x u hx => h x u (hs x u hx)
end Go.Proofs.Ytncakfcafkfmfaa

/-
  types: the steps of the program and of the reference, with fuel; what they come to. No program in sight.
-/
namespace Go.Proofs.Ytncakfcafkfmfaa
open Go
set_option linter.unusedSimpArgs false
set_option linter.unusedVariables false

abbrev Dn := List (Int × Int)
/-- the outermost variable replaced -/
def hdF (σ : Sg) : Nat → Ty → Option Ty
  | _, .c f ks => some (.c f ks)
  | 0, .v x => match look σ x with
    | none => some (.v x)
    | some _ => none
  | n + 1, .v x => match look σ x with
    | none => some (.v x)
    | some u => hdF σ n u
inductive IsHd (σ : Sg) : Ty → Ty → Prop
  | con {f : Nm} {ks : List Ty} : IsHd σ (.c f ks) (.c f ks)
  | var {x : Int} : look σ x = none → IsHd σ (.v x) (.v x)
  | step {x : Int} {u h : Ty} : look σ x = some u → IsHd σ u h → IsHd σ (.v x) h
theorem hdF_isHd {σ : Sg} : ∀ {n : Nat} {t h : Ty}, hdF σ n t = some h → IsHd σ t h
  | n, .c f ks, h, e => by
    have : h = .c f ks := by cases n <;> (simp only [hdF] at e; injection e with e; exact e.symm)
    subst this; exact .con
  | 0, .v x, h, e => by
    simp only [hdF] at e
    split at e
    · rename_i hl; injection e with e; subst e; exact .var hl
    · cases e
  | n + 1, .v x, h, e => by
    simp only [hdF] at e
    split at e
    · rename_i hl; injection e with e; subst e; exact .var hl
    · rename_i u hl; exact .step hl (hdF_isHd e)
theorem IsHd.fuel {σ : Sg} {t h : Ty} (i : IsHd σ t h) : ∃ N, ∀ n, N ≤ n → hdF σ n t = some h := by
  induction i with
  | @con f ks => exact ⟨0, fun n _ => by cases n <;> rfl⟩
  | @var x hl => exact ⟨0, fun n _ => by cases n <;> simp [hdF, hl]⟩
  | @step x u h hl _ ih =>
    obtain ⟨N, hN⟩ := ih
    refine ⟨N + 1, fun n hn => ?_⟩
    obtain ⟨m, rfl⟩ : ∃ m, n = m + 1 := ⟨n - 1, by omega⟩
    simp only [hdF, hl]
    exact hN m (by omega)
theorem IsHd.end_ {σ : Sg} {t h : Ty} (i : IsHd σ t h) : ∀ x, h = .v x → look σ x = none := by
  induction i with
  | con => intro x e; cases e
  | var hl => intro x e; injection e with e; subst e; exact hl
  | step _ _ ih => exact ih
theorem IsHd.sol {σ : Sg} {t h : Ty} (i : IsHd σ t h) {τ : Int → Ty} (hs : Sol τ σ) : ext τ h = ext τ t := by
  induction i with
  | con => rfl
  | var => rfl
  | step hl _ ih => rw [ih, ext_v, hs _ _ hl]
theorem IsHd.det {σ : Sg} {t h h' : Ty} (i : IsHd σ t h) (i' : IsHd σ t h') : h = h' := by
  obtain ⟨N, hN⟩ := i.fuel
  obtain ⟨N', hN'⟩ := i'.fuel
  have h1 := hN (N + N') (by omega)
  have h2 := hN' (N + N') (by omega)
  rw [h1] at h2
  injection h2
theorem WF.hd {σ : Sg} (hw : WF σ) (t : Ty) : ∃ h, IsHd σ t h := by
  obtain ⟨W, hW⟩ := hw.rank
  cases t with
  | c f ks => exact ⟨_, .con⟩
  | v x =>
    have key : ∀ m x, W x < m → ∃ h, IsHd σ (.v x) h := by
      intro m
      induction m with
      | zero => intro x hx; omega
      | succ m ih =>
        intro x hx
        cases hl : look σ x with
        | none => exact ⟨_, .var hl⟩
        | some u =>
          cases u with
          | c f ks => exact ⟨_, .step hl .con⟩
          | v y =>
            have := hW x _ hl y (by rw [vars_v]; simp)
            obtain ⟨h, hh⟩ := ih y (by omega)
            exact ⟨h, .step hl hh⟩
    exact key _ x (Nat.lt_succ_self _)

/-- bindings within a set of variables -/
structure Good (U : List Int) (σ : Sg) : Prop where
  wf : WF σ
  inU : ∀ x u, look σ x = some u → x ∈ U ∧ ∀ y ∈ vars u, y ∈ U
theorem IsHd.inU {U : List Int} {σ : Sg} {t h : Ty} (g : Good U σ) (i : IsHd σ t h) (ht : ∀ y ∈ vars t, y ∈ U) : ∀ y ∈ vars h, y ∈ U := by
  induction i with
  | con => exact ht
  | var => exact ht
  | step hl _ ih => exact ih (g.inU _ _ hl).2

theorem all_fuel {α : Type} {P : Nat → α → Prop} {l : List α} (h : ∀ k ∈ l, ∃ N, ∀ n, N ≤ n → P n k) : ∃ N, ∀ n, N ≤ n → ∀ k ∈ l, P n k := by
  induction l with
  | nil => exact ⟨0, fun n _ k hk => by cases hk⟩
  | cons a l ih =>
    obtain ⟨N, hN⟩ := ih fun k hk => h k (List.mem_cons_of_mem _ hk)
    obtain ⟨M, hM⟩ := h a (by simp)
    refine ⟨N + M, fun n hn k hk => ?_⟩
    rcases List.mem_cons.1 hk with rfl | hk
    · exact hM n (by omega)
    · exact hN n (by omega) k hk

/-! ### the variables that occur: a list, and which were looked at -/
abbrev FrS := List Int × List Int
def frL (f : Ty → FrS → Option FrS) : List Ty → FrS → Option FrS
  | [], s => some s
  | k :: ks, s => match f k s with
    | none => none
    | some s1 => frL f ks s1
def frF (σ : Sg) : Nat → Ty → FrS → Option FrS
  | 0, _, _ => none
  | n + 1, .v x, s => if x ∈ s.2 then some s else match look σ x with
    | none => some (s.1 ++ [x], s.2 ++ [x])
    | some u => frF σ n u (s.1, s.2 ++ [x])
  | n + 1, .c _ ks, s => frL (frF σ n) ks s

structure FrOK (U : List Int) (σ : Sg) (xs : List Int) (s s' : FrS) : Prop where
  lmem : ∀ y ∈ s.1, y ∈ s'.1
  smem : ∀ y ∈ s.2, y ∈ s'.2
  only : ∀ y ∈ s'.1, y ∈ s.1 ∨ ∃ z ∈ xs, y ∈ vars (th σ z)
  top : ∀ y ∈ xs, y ∈ s'.2
  clos : ∀ y ∈ s'.2, y ∈ s.2 ∨ ∀ z ∈ vars (th σ y), z ∈ s'.1
  nod : s.2.Nodup → s'.2.Nodup
  inU : (∀ y ∈ s.2, y ∈ U) → ∀ y ∈ s'.2, y ∈ U
  len : s.1.length ≤ s.2.length → s'.1.length ≤ s'.2.length

theorem frL_ok {U : List Int} {σ : Sg} {W : Int → Nat} {f : Ty → FrS → Option FrS} :
    ∀ {ks : List Ty} {s s' : FrS}, (∀ k ∈ ks, ∀ s s', f k s = some s' → (∀ y ∈ s.2, (∀ z ∈ vars (th σ y), z ∈ s.1) ∨ ∀ z ∈ vars k, W z < W y) → FrOK U σ (vars k) s s') →
      frL f ks s = some s' → (∀ y ∈ s.2, (∀ z ∈ vars (th σ y), z ∈ s.1) ∨ ∀ k ∈ ks, ∀ z ∈ vars k, W z < W y) → FrOK U σ ((ks.map vars).flatten) s s'
  | [], s, s', _, h, _ => by
    simp only [frL] at h
    injection h with h
    subst h
    exact ⟨fun y h => h, fun y h => h, fun y h => .inl h, fun y h => by simp at h, fun y h => .inl h, fun h => h, fun h => h, fun h => h⟩
  | k :: ks, s, s', hf, h, hs => by
    simp only [frL] at h
    cases h1 : f k s with
    | none => rw [h1] at h; cases h
    | some s1 =>
      rw [h1] at h
      have o1 := hf k (by simp) s s1 h1 fun y hy => (hs y hy).imp (fun h => h) fun h => h k (by simp)
      have o2 := frL_ok (ks := ks) (s := s1) (s' := s') (fun k' hk' => hf k' (List.mem_cons_of_mem _ hk')) h fun y hy => by
        rcases o1.clos y hy with hy' | hy'
        · rcases hs y hy' with h' | h'
          · exact .inl fun z hz => o1.lmem z (h' z hz)
          · exact .inr fun k' hk' => h' k' (List.mem_cons_of_mem _ hk')
        · exact .inl hy'
      refine ⟨fun y h => o2.lmem y (o1.lmem y h), fun y h => o2.smem y (o1.smem y h), fun y hy => ?_, fun y hy => ?_, fun y hy => ?_, fun h => o2.nod (o1.nod h), fun h => o2.inU (o1.inU h), fun h => o2.len (o1.len h)⟩
      · rcases o2.only y hy with hy | ⟨z, hz, hy⟩
        · rcases o1.only y hy with hy | ⟨z, hz, hy⟩
          · exact .inl hy
          · exact .inr ⟨z, by simp [hz], hy⟩
        · refine .inr ⟨z, ?_, hy⟩
          rw [List.map_cons, List.flatten_cons]
          exact List.mem_append_right _ hz
      · rw [List.map_cons, List.flatten_cons] at hy
        rcases List.mem_append.1 hy with hy | hy
        · exact o2.smem y (o1.top y hy)
        · exact o2.top y hy
      · rcases o2.clos y hy with hy | hy
        · rcases o1.clos y hy with hy | hy
          · exact .inl hy
          · exact .inr fun z hz => o2.lmem z (hy z hz)
        · exact .inr hy

theorem frF_ok {U : List Int} {σ : Sg} {W : Int → Nat} (g : Good U σ) (hW : Rk σ W) : ∀ {n : Nat} {t : Ty} {s s' : FrS}, (∀ y ∈ vars t, y ∈ U) → frF σ n t s = some s' →
    (∀ y ∈ s.2, (∀ z ∈ vars (th σ y), z ∈ s.1) ∨ ∀ z ∈ vars t, W z < W y) → FrOK U σ (vars t) s s'
  | 0, t, s, s', _, h, _ => by simp [frF] at h
  | n + 1, .v x, s, s', hU, h, hs => by
    have hxU : x ∈ U := hU x (by rw [vars_v]; simp)
    rw [vars_v]
    simp only [frF] at h
    split at h
    · rename_i hx
      injection h with h
      subst h
      exact ⟨fun y h => h, fun y h => h, fun y h => .inl h, fun y h => by simp at h; subst h; exact hx, fun y h => .inl h, fun h => h, fun h => h, fun h => h⟩
    · rename_i hx
      split at h
      · rename_i hl
        injection h with h
        subst h
        refine ⟨fun y h => by simp [h], fun y h => by simp [h], fun y hy => ?_, fun y h => by simp at h; simp [h], fun y hy => ?_, fun hn => ?_, fun hi y hy => ?_, fun h => by simpa using h⟩
        · simp only [List.mem_append, List.mem_singleton] at hy
          rcases hy with hy | rfl
          · exact .inl hy
          · exact .inr ⟨y, by simp, by rw [g.wf.unb hl, vars_v]; simp⟩
        · simp only [List.mem_append, List.mem_singleton] at hy
          rcases hy with hy | rfl
          · exact .inl hy
          · right
            intro z hz
            rw [g.wf.unb hl, vars_v] at hz
            simp at hz
            subst hz
            simp
        · simp only
          rw [List.nodup_append]
          exact ⟨hn, by simp, fun a ha b hb => by simp at hb; subst hb; exact fun e => hx (e ▸ ha)⟩
        · simp only [List.mem_append, List.mem_singleton] at hy
          rcases hy with hy | rfl
          · exact hi y hy
          · exact hxU
      · rename_i u hl
        have hWu := hW x u hl
        have o := frF_ok (s := (s.1, s.2 ++ [x])) g hW (g.inU x u hl).2 h fun y hy => by
          simp only [List.mem_append, List.mem_singleton] at hy
          rcases hy with hy | rfl
          · rcases hs y hy with h' | h'
            · exact .inl h'
            · right
              intro z hz
              have h1 := hWu z hz
              have h2 := h' x (by rw [vars_v]; simp)
              omega
          · exact .inr fun z hz => hWu z hz
        refine ⟨o.lmem, fun y hy => o.smem y (by simp [hy]), fun y hy => ?_, fun y hy => ?_, fun y hy => ?_, fun hn => ?_, fun hi => ?_, fun hl => ?_⟩
        · rcases o.only y hy with hy | ⟨z, hz, hy⟩
          · exact .inl hy
          · exact .inr ⟨x, by simp, by rw [g.wf.bnd hl]; exact mem_vars_ext.2 ⟨z, hz, hy⟩⟩
        · simp at hy; subst hy; exact o.smem y (by simp)
        · rcases o.clos y hy with hy' | hy'
          · simp only [List.mem_append, List.mem_singleton] at hy'
            rcases hy' with hy' | rfl
            · exact .inl hy'
            · right
              intro w hw
              rw [g.wf.bnd hl] at hw
              obtain ⟨z, hz, hw⟩ := mem_vars_ext.1 hw
              have hzW := hWu z hz
              rcases o.clos z (o.top z hz) with h1 | h1
              · simp only [List.mem_append, List.mem_singleton] at h1
                rcases h1 with h1 | rfl
                · rcases hs z h1 with h2 | h2
                  · exact o.lmem w (h2 w hw)
                  · have := h2 y (by rw [vars_v]; simp); omega
                · omega
              · exact h1 w hw
          · exact .inr hy'
        · refine o.nod ?_
          simp only
          rw [List.nodup_append]
          exact ⟨hn, by simp, fun a ha b hb => by simp at hb; subst hb; exact fun e => hx (e ▸ ha)⟩
        · refine o.inU fun y hy => ?_
          simp only [List.mem_append, List.mem_singleton] at hy
          rcases hy with hy | rfl
          · exact hi y hy
          · exact hxU
        · exact o.len (by simp; omega)
  | n + 1, .c f ks, s, s', hU, h, hs => by
    simp only [frF] at h
    rw [vars_c]
    exact frL_ok (W := W) (fun k hk s s' h' hs' => frF_ok g hW (fun y hy => hU y (mem_vars_c.2 ⟨k, hk, hy⟩)) h' hs') h fun y hy => (hs y hy).imp (fun h => h) fun h k hk z hz => h z (mem_vars_c.2 ⟨k, hk, hz⟩)

theorem frL_some {f : Ty → FrS → Option FrS} : ∀ {ks : List Ty} {s : FrS}, (∀ k ∈ ks, ∀ s, (f k s).isSome = true) → (frL f ks s).isSome = true
  | [], s, _ => rfl
  | k :: ks, s, h => by
    simp only [frL]
    have h1 := h k (by simp) s
    cases h2 : f k s with
    | none => rw [h2] at h1; cases h1
    | some s1 => exact frL_some fun k' hk' => h k' (List.mem_cons_of_mem _ hk')
theorem WF.fr {σ : Sg} (hw : WF σ) (t : Ty) : ∃ N, ∀ n, N ≤ n → ∀ s, (frF σ n t s).isSome = true := by
  obtain ⟨W, hW⟩ := hw.rank
  have key : ∀ m t, (∀ y ∈ vars t, W y < m) → ∃ N, ∀ n, N ≤ n → ∀ s, (frF σ n t s).isSome = true := by
    intro m
    induction m with
    | zero =>
      intro t
      induction t using Ty.ind with
      | hv x => intro h; have := h x (by rw [vars_v]; simp); omega
      | hc f ks ih =>
        intro h
        obtain ⟨N, hN⟩ := all_fuel (P := fun n k => ∀ s, (frF σ n k s).isSome = true) fun k hk => ih k hk fun y hy => h y (mem_vars_c.2 ⟨k, hk, hy⟩)
        refine ⟨N + 1, fun n hn s => ?_⟩
        obtain ⟨m, rfl⟩ : ∃ m, n = m + 1 := ⟨n - 1, by omega⟩
        simp only [frF]
        exact frL_some fun k hk s => hN m (by omega) k hk s
    | succ m ihm =>
      intro t
      induction t using Ty.ind with
      | hv x =>
        intro h
        have hx := h x (by rw [vars_v]; simp)
        cases hl : look σ x with
        | none =>
          refine ⟨1, fun n hn s => ?_⟩
          obtain ⟨k, rfl⟩ : ∃ m, n = m + 1 := ⟨n - 1, by omega⟩
          simp only [frF, hl]
          split <;> rfl
        | some u =>
          obtain ⟨N, hN⟩ := ihm u fun y hy => by have := hW x u hl y hy; omega
          refine ⟨N + 1, fun n hn s => ?_⟩
          obtain ⟨k, rfl⟩ : ∃ m, n = m + 1 := ⟨n - 1, by omega⟩
          simp only [frF, hl]
          split
          · rfl
          · exact hN k (by omega) _
      | hc f ks ih =>
        intro h
        obtain ⟨N, hN⟩ := all_fuel (P := fun n k => ∀ s, (frF σ n k s).isSome = true) fun k hk => ih k hk fun y hy => h y (mem_vars_c.2 ⟨k, hk, hy⟩)
        refine ⟨N + 1, fun n hn s => ?_⟩
        obtain ⟨m, rfl⟩ : ∃ m, n = m + 1 := ⟨n - 1, by omega⟩
        simp only [frF]
        exact frL_some fun k hk s => hN m (by omega) k hk s
  obtain ⟨M, hM⟩ := list_bound W (vars t)
  exact key (M + 1) t fun y hy => by have := hM y hy; omega
/-- from nothing: the variables that occur -/
theorem Good.fr {U : List Int} {σ : Sg} (g : Good U σ) {n : Nat} {t : Ty} {s' : FrS} (hU : ∀ y ∈ vars t, y ∈ U) (h : frF σ n t ([], []) = some s') :
    (∀ y, y ∈ s'.1 ↔ y ∈ vars (ext (th σ) t)) ∧ s'.1.length ≤ s'.2.length ∧ s'.2.Nodup ∧ ∀ y ∈ s'.2, y ∈ U := by
  obtain ⟨W, hW⟩ := g.wf.rank
  have o := frF_ok g hW hU h fun y hy => by cases hy
  refine ⟨fun y => ⟨fun hy => ?_, fun hy => ?_⟩, o.len (Nat.le_refl _), o.nod List.nodup_nil, o.inU fun y hy => by cases hy⟩
  · rcases o.only y hy with hy | ⟨z, hz, hy⟩
    · cases hy
    · exact mem_vars_ext.2 ⟨z, hz, hy⟩
  · obtain ⟨z, hz, hy⟩ := mem_vars_ext.1 hy
    rcases o.clos z (o.top z hz) with h1 | h1
    · cases h1
    · exact h1 y hy
end Go.Proofs.Ytncakfcafkfmfaa
