/-
  Several texts put together: Fa, Fb, Fc, Fd, Fe, Ff, Fg, Frame, Fopen, Frep, OctP, SumP, Tab, Rd.
-/
import Derived.Calls
import Derived.Tactics
import Derived.OrdersHeld
import Derived.LoopTactic
import Derived.Laws.Entries
import Derived.WalkKit
import Derived.Laws.Cover3
import Derived.Test.YtnjfhmlfpfkllaaRows
import Derived.ProofKit
import Derived.OpenShut
import Derived.HandedShaped
import Derived.Deep.SlicePairs
import Derived.Test.YtnjfhmlfpfkllaaChecked
import Derived.KernelRfl
/-
  A calculus of walks over environments of live temporaries: judgements, steps, regions in whatever order. Own work; no program in sight.
-/
namespace Go.Proofs.Ytnjfhmlfpfkllaa
open Go
set_option linter.unusedSimpArgs false
set_option linter.unusedVariables false

/-- The live temporaries. -/
abbrev Env := List (Nat × Value)

def Env.get : Env → Nat → Option Value
  | [], _ => none
  | (k, v) :: E, t => match Nat.beq k t with
    | true => some v
    | false => Env.get E t

def Env.ev (E : Env) : Operand → Value
  | .tmp t => match Env.get E t with
    | some v => v
    | none => undef
  | .const v => v
  | .global g => .pointer (some ⟨g, 0, none⟩)
  | .func f => .func (.func f) #[] #[]

def Env.has (E : Env) : Operand → Bool
  | .tmp t => (Env.get E t).isSome
  | _ => true

/-- Every entry of F stands in E. -/
def Env.sub (E : Env) : Env → Prop
  | [] => True
  | (k, v) :: F => Env.get E k = some v ∧ Env.sub E F

theorem Env.get_of_sub {E : Env} : ∀ {F : Env}, Env.sub E F → ∀ {t v}, Env.get F t = some v → Env.get E t = some v
  | [], _, _, _, h => by simp [Env.get] at h
  | (k, u) :: F, hs, t, v, h => by
    simp only [Env.get] at h
    split at h
    · rename_i hb
      have := Nat.eq_of_beq_eq_true hb
      subst this
      injection h with h
      subst h
      exact hs.1
    · exact Env.get_of_sub hs.2 h

structure Sat (N : Nat) (E : Env) (a : Act) : Prop where
  size : a.tmps.size = N
  defers : a.defers = []
  vals : ∀ t v, Env.get E t = some v → a.tmps[t]? = some v

theorem Sat.sub {N : Nat} {E F : Env} {a : Act} (h : Sat N E a) (hs : Env.sub E F) : Sat N F a :=
  ⟨h.size, h.defers, fun t v ht => h.vals t v (Env.get_of_sub hs ht)⟩

theorem Sat.eval {N : Nat} {E : Env} {a : Act} (h : Sat N E a) {x : Operand} (hx : E.has x = true) : a.eval x = E.ev x := by
  cases x with
  | tmp t =>
    simp only [Env.has] at hx
    cases hg : Env.get E t with
    | none => rw [hg] at hx; cases hx
    | some v =>
      have := h.vals t v hg
      simp only [Act.eval, Env.ev, hg, Array.getD_eq_getD_getElem?, this, Option.getD_some]
  | _ => rfl

theorem Sat.put {N : Nat} {E : Env} {a : Act} (h : Sat N E a) {d : Nat} (hd : d < N) (v : Value) : Sat N ((d, v) :: E) (a.put (some d) v) := by
  refine ⟨by simp [Act.put, h.size], by simp [Act.put, h.defers], fun t u ht => ?_⟩
  simp only [Env.get] at ht
  split at ht
  · rename_i hb
    have := Nat.eq_of_beq_eq_true hb
    subst this
    injection ht with ht
    subst ht
    simp [Act.put, h.size, hd]
  · rename_i hb
    have hne : d ≠ t := fun e => by subst e; simp at hb
    simp only [Act.put]
    rw [Array.getElem?_setIfInBounds_ne hne]
    exact h.vals t u ht

def notSelect (o : Op) : Bool := match o with | .select .. => false | _ => true

def opsL : Op → List Operand
  | .call c => (match c.callee with | .value f => [f] | .invoke r _ => [r] | .builtin _ => []) ++ c.args.toList
  | .makeFunc _ f c => f.toList ++ c.toList
  | .slice _ x l h m => x :: (l.toList ++ h.toList ++ m.toList)
  | .makeMap _ r => r.toList
  | .build _ ps => ps.toList.map (·.2)
  | .buildSlice _ _ ps => ps.toList.map (·.2)
  | op => op.operands.toList

theorem mem_opsL {op : Op} {x : Operand} (h : x ∈ op.operands) : x ∈ opsL op := by
  cases op <;> simp only [Op.operands, opsL, Call.operands] at h ⊢ <;> first
    | (simp at h; done)
    | (simpa using h)
    | (rename_i c; cases hc : c.callee <;> simp [hc] at h ⊢ <;> exact h)

/-- What an operation looks at is live. -/
def opsOK (E : Env) (o : Oper) : Bool := notSelect o.op && (opsL o.op).all E.has

theorem opsOK_exec {N : Nat} {E : Env} {a : Act} (h : Sat N E a) {o : Oper} (ho : opsOK E o = true) : execOp a.eval o = execOp E.ev o := by
  simp only [opsOK, Bool.and_eq_true] at ho
  refine execOp_congr o (fun cs b e => by rw [e] at ho; simp [notSelect] at ho) fun x hx => h.eval ?_
  exact List.all_eq_true.1 ho.2 x (mem_opsL hx)

/-- Does the operation's guard let it run? -/
def wantedE (ops : Array Oper) (E : Env) (o : Oper) : Option Bool :=
  match o.guard with
  | none => some true
  | some (j, want) =>
    match (ops[j]?).bind (·.dst) with
    | none => none
    | some d => match Env.get E d with
      | some (.bool b) => some (b == want)
      | some _ => some false
      | none => none

theorem wantedE_spec {N : Nat} {ops : Array Oper} {E : Env} {a : Act} (h : Sat N E a) {o : Oper} {b : Bool} (hw : wantedE ops E o = some b) :
    Region.wanted o (yielded ops a.tmps) = b := by
  unfold wantedE at hw
  unfold Region.wanted
  cases hg : o.guard with
  | none => simp only [hg] at hw ⊢; exact Option.some.inj hw
  | some gw =>
    obtain ⟨j, want⟩ := gw
    simp only [hg] at hw ⊢
    unfold yielded
    cases hd : (ops[j]?).bind (·.dst) with
    | none => simp [hd] at hw
    | some d =>
      simp only [hd] at hw
      cases hv : Env.get E d with
      | none => simp [hv] at hw
      | some v =>
        simp only [hv] at hw
        have h1 := h.vals d v hv
        simp only [Option.bind_some, h1]
        cases v <;> first | (simpa using hw) | (simp at hw; simp [hw]; done)

/-- Calls that return. -/
def Ret (P : Program) (f : FuncId) (args : Array Value) (w : World) (R : Value → World → Prop) : Prop :=
  Calls P f args w fun e w' => ∃ v, e = .returned v ∧ R v w'

theorem Ret.mono {P : Program} {f : FuncId} {args : Array Value} {w : World} {R R' : Value → World → Prop} (h : Ret P f args w R) (hr : ∀ v w', R v w' → R' v w') : Ret P f args w R' :=
  Calls.mono h fun _ _ ⟨v, he, hR⟩ => ⟨v, he, hr _ _ hR⟩

section
variable (P : Program) (N : Nat)

def WL (ops : Array Oper) (Q : Exit → Act → World → Prop) (l : List Oper) (E : Env) (w : World) : Prop := ∀ a, Sat N E a → wpList P ops Q l a w
def WC (Q : Exit → Act → World → Prop) (c : Code) (E : Env) (w : World) : Prop := ∀ a, Sat N E a → c.wp P Q a w
def WX (Q : Exit → Act → World → Prop) (e : Exit) (E : Env) (w : World) : Prop := ∀ a, Sat N E a → Q e a w
end

section lists
variable {P : Program} {N : Nat} {ops : Array Oper} {Q : Exit → Act → World → Prop} {l : List Oper} {o : Oper} {E : Env} {w w' : World} {d : Nat} {v : Value}

theorem WL.nil (k : WX N Q .normal E w) : WL P N ops Q [] E w := fun a h => k a h

theorem WL.val (hd : o.dst = some d) (hN : Nat.blt d N = true) (ho : opsOK E o = true) (hw : wantedE ops E o = some true)
    (hrun : (execOp E.ev o).run P w = .ok (.value v) w') (k : WL P N ops Q l ((d, v) :: E) w') : WL P N ops Q (o :: l) E w := by
  intro a h
  have hd' : d < N := Eq.mp Nat.blt_eq hN
  unfold wpList
  rw [if_pos (wantedE_spec h hw)]
  refine .inl ?_
  unfold Oper.wp
  rw [opsOK_exec h ho, hrun, Oper.upon_value, hd]
  exact k _ (h.put hd' v)

theorem WL.eff (hd : o.dst = none) (ho : opsOK E o = true) (hw : wantedE ops E o = some true)
    (hrun : (execOp E.ev o).run P w = .ok .skip w') (k : WL P N ops Q l E w') : WL P N ops Q (o :: l) E w := by
  intro a h
  unfold wpList
  rw [if_pos (wantedE_spec h hw)]
  refine .inl ?_
  unfold Oper.wp
  rw [opsOK_exec h ho, hrun, Oper.upon_skip, hd]
  exact k _ h

theorem WL.skip (hd : o.dst = some d) (hN : Nat.blt d N = true) (hw : wantedE ops E o = some false) (k : WL P N ops Q l ((d, undef) :: E) w) : WL P N ops Q (o :: l) E w := by
  intro a h
  have hd' : d < N := Eq.mp Nat.blt_eq hN
  unfold wpList
  rw [wantedE_spec h hw, hd]
  exact k _ (h.put hd' undef)

/-- an operation without a result is passed over -/
theorem WL.skip0 (hd : o.dst = none) (hw : wantedE ops E o = some false) (k : WL P N ops Q l E w) : WL P N ops Q (o :: l) E w := by
  intro a h
  unfold wpList
  rw [wantedE_spec h hw, hd]
  exact k _ h

theorem WL.call {f : FuncId} {args : Array Value} {R : Value → World → Prop} (hd : o.dst = some d) (hN : Nat.blt d N = true) (ho : opsOK E o = true) (hw : wantedE ops E o = some true)
    (hrun : (execOp E.ev o).run P w = .ok (.enter f args) w') (hc : Ret P f args w' R) (k : ∀ v w'', R v w'' → WL P N ops Q l ((d, v) :: E) w'') : WL P N ops Q (o :: l) E w := by
  intro a h
  have hd' : d < N := Eq.mp Nat.blt_eq hN
  unfold wpList
  rw [if_pos (wantedE_spec h hw)]
  refine .inl ?_
  unfold Oper.wp
  rw [opsOK_exec h ho, hrun, Oper.upon_enter]
  refine Calls.mono hc ?_
  rintro e w'' ⟨v, rfl, hR⟩
  simp only [hd]
  exact k v w'' hR _ (h.put hd' v)

theorem WL.call0 {f : FuncId} {args : Array Value} {R : Value → World → Prop} (hd : o.dst = none) (ho : opsOK E o = true) (hw : wantedE ops E o = some true)
    (hrun : (execOp E.ev o).run P w = .ok (.enter f args) w') (hc : Ret P f args w' R) (k : ∀ v w'', R v w'' → WL P N ops Q l E w'') : WL P N ops Q (o :: l) E w := by
  intro a h
  unfold wpList
  rw [if_pos (wantedE_spec h hw)]
  refine .inl ?_
  unfold Oper.wp
  rw [opsOK_exec h ho, hrun, Oper.upon_enter]
  refine Calls.mono hc ?_
  rintro e w'' ⟨v, rfl, hR⟩
  simp only [hd]
  exact k v w'' hR _ h

/-- a bool in a temporary: both ways -/
theorem WL.cases (t : Nat) {b : Bool} (hg : Env.get E t = some (.bool b)) (ht : b = true → WL P N ops Q l ((t, .bool true) :: E) w) (hf : b = false → WL P N ops Q l ((t, .bool false) :: E) w) :
    WL P N ops Q l E w := by
  intro a h
  cases b with
  | true => exact ht rfl a ⟨h.size, h.defers, fun s v hs => by
      simp only [Env.get] at hs
      split at hs
      · rename_i hb
        have := Nat.eq_of_beq_eq_true hb
        subst this
        injection hs with hs
        subst hs
        exact h.vals _ _ hg
      · exact h.vals s v hs⟩
  | false => exact hf rfl a ⟨h.size, h.defers, fun s v hs => by
      simp only [Env.get] at hs
      split at hs
      · rename_i hb
        have := Nat.eq_of_beq_eq_true hb
        subst this
        injection hs with hs
        subst hs
        exact h.vals _ _ hg
      · exact h.vals s v hs⟩

theorem WL.keep (F : Env) (hs : E.sub F) (k : WL P N ops Q l F w) : WL P N ops Q l E w := fun a h => k a (h.sub hs)
end lists

section code
variable {P : Program} {N : Nat} {Q : Exit → Act → World → Prop} {c x y : Code} {E : Env} {w : World}

theorem WC.keep (F : Env) (hs : E.sub F) (k : WC P N Q c F w) : WC P N Q c E w := fun a h => k a (h.sub hs)
theorem WX.keep {e : Exit} (F : Env) (hs : E.sub F) (k : WX N Q e F w) : WX N Q e E w := fun a h => k a (h.sub hs)
theorem WC.seq (k : WC P N (Exit.then (y.wp P Q) Q) x E w) : WC P N Q (.seq x y) E w := fun a h => wp_seq (k a h)
theorem WC.skip (k : WX N Q .normal E w) : WC P N Q .skip E w := fun a h => wp_skip (k a h)
theorem WC.label {n : Nat} (k : WX N Q .normal E w) : WC P N Q (.label n) E w := fun a h => wp_label (k a h)
theorem WC.ret (k : WX N Q .ret E w) : WC P N Q .ret E w := fun a h => wp_ret (k a h)
theorem WC.exit {id : Nat} (k : WX N Q (.exit id) E w) : WC P N Q (.exit id) E w := fun a h => wp_exit (k a h)
theorem WC.block {id : Nat} (k : WC P N (Exit.inBlock id Q) c E w) : WC P N Q (.block id c) E w := fun a h => wp_block (k a h)
theorem WC.region {id : Nat} {l : List Oper} (k : WL P N l.toArray Q l E w) : WC P N Q (.region id l.toArray false) E w := fun a h => wp_region_lit (k a h)
theorem WC.cond {t : Operand} {b : Bool} (ht : E.has t = true) (hb : E.ev t = .bool b) (k1 : b = true → WC P N Q x E w) (k2 : b = false → WC P N Q y E w) : WC P N Q (.cond t x y) E w :=
  fun a h => wp_cond_split (t := b) (by rw [h.eval ht, hb]) (fun e => k1 e a h) (fun e => k2 e a h)
theorem WC.cond_true {t : Operand} (ht : E.has t = true) (hb : E.ev t = .bool true) (k1 : WC P N Q x E w) : WC P N Q (.cond t x y) E w :=
  fun a h => wp_cond_true (by rw [h.eval ht, hb]) (k1 a h)
theorem WC.cond_false {t : Operand} (ht : E.has t = true) (hb : E.ev t = .bool false) (k1 : WC P N Q y E w) : WC P N Q (.cond t x y) E w :=
  fun a h => wp_cond_false (by rw [h.eval ht, hb]) (k1 a h)

theorem WX.next {k : Code} (h : WC P N Q k E w) : WX N (Exit.then (k.wp P Q) Q) .normal E w := fun a ha => h a ha
theorem WX.thenRet {K : Act → World → Prop} (h : WX N Q .ret E w) : WX N (Exit.then K Q) .ret E w := fun a ha => h a ha
theorem WX.thenExit {K : Act → World → Prop} {id : Nat} (h : WX N Q (.exit id) E w) : WX N (Exit.then K Q) (.exit id) E w := fun a ha => h a ha
theorem WX.blockNormal {id : Nat} (h : WX N Q .normal E w) : WX N (Exit.inBlock id Q) .normal E w := fun a ha => h a ha
theorem WX.blockRet {id : Nat} (h : WX N Q .ret E w) : WX N (Exit.inBlock id Q) .ret E w := fun a ha => h a ha
theorem WX.blockHere {id : Nat} (h : WX N Q .normal E w) : WX N (Exit.inBlock id Q) (.exit id) E w := fun a ha => by simp only [Exit.inBlock, if_true]; exact h a ha
theorem WX.blockPast {id j : Nat} (hj : Nat.beq j id = false) (h : WX N Q (.exit j) E w) : WX N (Exit.inBlock id Q) (.exit j) E w := fun a ha => by
  have : j ≠ id := fun e => by subst e; simp at hj
  simp only [Exit.inBlock, this, if_false]; exact h a ha

/-- a piece by what holds behind it: ways meet again -/
def Meets (N : Nat) (J : Env → World → Prop) : Act → World → Prop := fun a w => ∃ E, Sat N E a ∧ J E w

theorem WC.cut (J : Env → World → Prop) (k1 : WC P N (Exit.then (Meets N J) Q) x E w) (k2 : ∀ E w, J E w → WC P N Q y E w) : WC P N Q (.seq x y) E w :=
  fun a h => wp_seq (Code.wp_mono (fun e a w q => by
    cases e <;> first | exact q | (obtain ⟨E, hE, hJ⟩ := q; exact k2 E w hJ a hE)) (k1 a h))

theorem WX.meet {J : Env → World → Prop} (F : Env) (hs : E.sub F) (hJ : J F w) : WX N (Exit.then (Meets N J) Q) .normal E w := fun a h => ⟨F, h.sub hs, hJ⟩

theorem WC.loop (I : Nat → Env → World → Prop) (n : Nat) (h0 : I n E w)
    (hr : ∀ n E w, I n E w → WC P N (Exit.then (Meets N fun E' w' => ∃ m, m < n ∧ I m E' w') Q) c E w) : WC P N Q (.loop c) E w := by
  intro a h b k cs
  have key : ∀ n E w, I n E w → ∀ a, Sat N E a →
      ∃ e a' w', Q e a' w' ∧ Arrives P (lone (b.at a (.code c :: .inLoop c :: k)) cs w) b k cs e a' w' := by
    intro n
    induction n using Nat.strongRecOn with
    | _ n ih =>
      intro E w hI a ha
      obtain ⟨e, a₁, w₁, hq, harr⟩ := hr n E w hI a ha b (.inLoop c :: k) cs
      cases e with
      | normal =>
        obtain ⟨E', hE', m, hm, hI'⟩ := hq
        obtain ⟨e₂, a₂, w₂, hq₂, harr₂⟩ := ih m hm E' w₁ hI' a₁ hE'
        exact ⟨e₂, a₂, w₂, hq₂, .of_steps (Steps.trans harr (.one step_inLoop)) harr₂⟩
      | exit id => exact ⟨_, a₁, w₁, hq, .pass (x := .inLoop c) rfl (fun _ _ => .inl (by simp)) harr⟩
      | goto l => exact ⟨_, a₁, w₁, hq, .pass (x := .inLoop c) rfl (fun _ _ => .inl (by simp)) harr⟩
      | ret => exact ⟨_, a₁, w₁, hq, .pass (x := .inLoop c) rfl (fun _ _ => .inl (by simp)) harr⟩
      | panic ch => exact ⟨_, a₁, w₁, hq, .pass (x := .inLoop c) rfl (fun _ _ => .inl (by simp)) harr⟩
      | outgrown => exact ⟨_, a₁, w₁, hq, .pass (x := .inLoop c) rfl (fun _ _ => .inl (by simp)) harr⟩
  obtain ⟨e, a', w', hq, harr⟩ := key n E w h0 a h
  exact ⟨e, a', w', hq, .of_steps (.one step_loop) harr⟩
end code
end Go.Proofs.Ytnjfhmlfpfkllaa

/-
  A region that draws its order, walked in one order: what yields whatever the world is, and what yields wherever S holds, is taken first.
-/
namespace Go.Proofs.Ytnjfhmlfpfkllaa
open Go
set_option linter.unusedSimpArgs false
set_option linter.unusedVariables false

/-- What must be kept behind an operation: of kind 0 it leaves the world; of kind 1 it keeps S; else nothing is asked. -/
def Keeps (S : World → Prop) (k : Nat) (w w' : World) : Prop :=
  match k with
  | 0 => w' = w
  | 1 => S w'
  | _ => True

section
variable {P : Program} {ops : Array Oper} {Q : Exit → Act → World → Prop} {S : World → Prop} {kind : Nat → Nat}

/-- Whatever order is picked from here on, and what is asked is kept behind every operation. -/
def wpAnyM (P : Program) (ops : Array Oper) (Q : Exit → Act → World → Prop) (S : World → Prop) (kind : Nat → Nat) : Nat → Array Bool → Act → World → Prop
  | 0, listed, a, w => Region.ready .any ops listed = [] ∧ Q .normal a w
  | fuel + 1, listed, a, w =>
    (Region.ready .any ops listed = [] → Q .normal a w) ∧
    ∀ i ∈ Region.ready .any ops listed, wpOp P ops Q i (fun a' w' => Keeps S (kind i) w w' ∧ wpAnyM P ops Q S kind fuel (listed.setIfInBounds i true) a' w') a w

theorem wpAny_of_M : ∀ (fuel : Nat) (listed : Array Bool) (a : Act) (w : World), wpAnyM P ops Q S kind fuel listed a w → wpAny P .any ops Q fuel listed a w
  | 0, _, _, _, h => h
  | fuel + 1, _, _, _, h => ⟨h.1, fun i hi => wpOp_mono (fun a' w' h' => wpAny_of_M fuel _ a' w' h'.2) (h.2 i hi)⟩

/-- Listed operations have all that they wait for listed. -/
def Closed (ops : Array Oper) (listed : Array Bool) : Prop :=
  listed.size = ops.size ∧ ∀ j oj, ops[j]? = some oj → listed.getD j false = true → ∀ e ∈ oj.after, Region.binds .any e = true → listed.getD e.on false = true

theorem Closed.set {listed : Array Bool} {i : Nat} (h : Closed ops listed) (hi : i ∈ Region.ready .any ops listed) : Closed ops (listed.setIfInBounds i true) := by
  obtain ⟨_, oi, hoi, hall⟩ := mem_ready.1 hi
  refine ⟨by simp [h.1], fun j oj hj hl e he hb => ?_⟩
  by_cases hij : i = j
  · subst hij
    have : oj = oi := Option.some.inj (hj.symm.trans hoi)
    subst this
    exact getD_set_true (hall e he hb)
  · rw [getD_set_ne false hij] at hl
    exact getD_set_true (h.2 j oj hj hl e he hb)

theorem closed_start : Closed ops (Array.replicate ops.size false) := ⟨by simp, fun j oj _ hl => by
  exfalso
  by_cases h : j < ops.size <;> simp [h] at hl⟩

/-- Operation j waits for i, by however many steps. -/
def waitsB (ops : Array Oper) (i : Nat) : Nat → Nat → Bool
  | 0, _ => false
  | f + 1, j => match ops[j]? with
    | some oj => oj.after.any fun e => Region.binds .any e && (e.on == i || waitsB ops i f e.on)
    | none => false

theorem waits_listed {listed : Array Bool} (hc : Closed ops listed) {i : Nat} : ∀ f j, waitsB ops i f j = true → listed.getD j false = true → listed.getD i false = true
  | 0, _, h, _ => by simp [waitsB] at h
  | f + 1, j, h, hl => by
    simp only [waitsB] at h
    split at h
    · rename_i oj hj
      obtain ⟨e, he, hb⟩ := Array.any_eq_true'.1 h
      simp only [Bool.and_eq_true, Bool.or_eq_true, beq_iff_eq] at hb
      have h1 := hc.2 j oj hj hl e he hb.1
      rcases hb.2 with h2 | h2
      · rw [← h2]; exact h1
      · exact waits_listed hc f e.on h2 h1
    · cases h

theorem waits_ready {listed : Array Bool} (hc : Closed ops listed) {i j f : Nat} (h : waitsB ops i f j = true) (hr : j ∈ Region.ready .any ops listed) : listed.getD i false = true := by
  obtain ⟨_, oj, hoj, hall⟩ := mem_ready.1 hr
  cases f with
  | zero => simp [waitsB] at h
  | succ f =>
    simp only [waitsB, hoj] at h
    obtain ⟨e, he, hb⟩ := Array.any_eq_true'.1 h
    simp only [Bool.and_eq_true, Bool.or_eq_true, beq_iff_eq] at hb
    have h1 := hall e he hb.1
    rcases hb.2 with h2 | h2
    · rw [← h2]; exact h1
    · exact waits_listed hc f e.on h2 h1

theorem getD_false_of_true {listed : Array Bool} {i : Nat} (h : listed.getD i true = false) : listed.getD i false = false := by
  rcases Nat.lt_or_ge i listed.size with h' | h'
  · simp [h'] at h ⊢; exact h
  · simp [Array.getElem?_eq_none h'] at h

theorem keeps_zero {w : World} {k : Nat} (hk : k = 0) : Keeps S k w w := by subst hk; rfl

theorem wpAnyM_held {i : Nat} {oi : Oper} {v : Value} (hi : ops[i]? = some oi) (hsel : ∀ (j : Nat) (o : Oper) cs b, ops[j]? = some o → o.op ≠ .select cs b)
    (hQ : ∀ c a w, Q (.panic c) (a.put oi.dst v) w → Q (.panic c) a w) (hlate : ∀ j oj, ops[j]? = some oj → 1 < kind j → ∃ f, waitsB ops i f j = true) (hki : kind i = 0) :
    ∀ (fuel : Nat) (listed : Array Bool) (a : Act) (w : World), Closed ops listed →
      (∀ j oj, ops[j]? = some oj → j ≠ i → listed.getD j true = false → (∀ e ∈ oj.after, Region.binds .any e = true → e.on ≠ i) → oi.apart ops oj = true) →
      i ∈ Region.ready .any ops listed → YieldsIf P ops S oi v a → S w →
      wpAnyM P ops Q S kind fuel (listed.setIfInBounds i true) (a.put oi.dst v) w → wpAnyM P ops Q S kind (fuel + 1) listed a w := by
  intro fuel
  induction fuel with
  | zero =>
    intro listed a w hc _ hr hy hS H
    refine ⟨fun h => (by rw [h] at hr; cases hr), fun j hj => ?_⟩
    by_cases hji : j = i
    · subst hji; exact hy.wpOp hi hS ⟨keeps_zero hki, H⟩
    · have := ready_mono hj hji
      rw [H.1] at this
      cases this
  | succ fuel ih =>
    intro listed a w hc hfree hr hy hS H
    refine ⟨fun h => (by rw [h] at hr; cases hr), fun j hj => ?_⟩
    by_cases hji : j = i
    · subst hji; exact hy.wpOp hi hS ⟨keeps_zero hki, H⟩
    · have h1 := H.2 j (ready_mono hj hji)
      obtain ⟨hjun, oj, hoj, hall⟩ := mem_ready.1 hj
      have hun := getD_false_of_true (mem_ready.1 hr).1
      have hnl : ¬ 1 < kind j := fun hl => by
        obtain ⟨f, hf⟩ := hlate j oj hoj hl
        rw [waits_ready hc hf hj] at hun
        cases hun
      have hnot : ∀ e ∈ oj.after, Region.binds .any e = true → e.on ≠ i := fun e he hb heq => by
        have h1 := hall e he hb
        rw [heq, hun] at h1
        cases h1
      have h2 := wpOp_putIf hoj (hfree j oj hoj hji hjun hnot) (fun cs b => hsel i oi cs b hi) (fun cs b => hsel j oj cs b hoj) hQ hy h1
      have hfree' : ∀ k ok, ops[k]? = some ok → k ≠ i → (listed.setIfInBounds j true).getD k true = false →
          (∀ e ∈ ok.after, Region.binds .any e = true → e.on ≠ i) → oi.apart ops ok = true := fun k ok hk hki hun hno => by
        refine hfree k ok hk hki ?_ hno
        by_cases hjk : j = k
        · subst hjk; exact hjun
        · rw [getD_set_ne true hjk] at hun; exact hun
      refine wpOp_mono (fun a' w' h3 => ?_) h2
      have hS' : S w' := by
        have h4 := h3.2.1
        generalize hk : kind j = k at h4 hnl
        match k, h4 with
        | 0, h4 => simp only [Keeps] at h4; rw [h4]; exact hS
        | 1, h4 => exact h4
        | n + 2, _ => exact absurd (by omega) hnl
      refine ⟨h3.2.1, ih (listed.setIfInBounds j true) a' w' (hc.set hj) hfree' (ready_mono hr (Ne.symm hji)) h3.1 hS' ?_⟩
      rw [Array.setIfInBounds_comm _ _ hji]
      exact h3.2.2

/-- The same for what yields whatever the world is: S plays no part. -/
theorem wpAnyM_calm {i : Nat} {oi : Oper} {v : Value} (hi : ops[i]? = some oi) (hsel : ∀ (j : Nat) (o : Oper) cs b, ops[j]? = some o → o.op ≠ .select cs b)
    (hQ : ∀ c a w, Q (.panic c) (a.put oi.dst v) w → Q (.panic c) a w) (hki : kind i = 0) :
    ∀ (fuel : Nat) (listed : Array Bool) (a : Act) (w : World),
      (∀ j oj, ops[j]? = some oj → j ≠ i → listed.getD j true = false → (∀ e ∈ oj.after, Region.binds .any e = true → e.on ≠ i) → oi.apart ops oj = true) →
      i ∈ Region.ready .any ops listed → Yields P ops oi v a →
      wpAnyM P ops Q S kind fuel (listed.setIfInBounds i true) (a.put oi.dst v) w → wpAnyM P ops Q S kind (fuel + 1) listed a w := by
  intro fuel
  induction fuel with
  | zero =>
    intro listed a w _ hr hy H
    refine ⟨fun h => (by rw [h] at hr; cases hr), fun j hj => ?_⟩
    by_cases hji : j = i
    · subst hji; exact hy.wpOp hi ⟨keeps_zero hki, H⟩
    · have := ready_mono hj hji
      rw [H.1] at this
      cases this
  | succ fuel ih =>
    intro listed a w hfree hr hy H
    refine ⟨fun h => (by rw [h] at hr; cases hr), fun j hj => ?_⟩
    by_cases hji : j = i
    · subst hji; exact hy.wpOp hi ⟨keeps_zero hki, H⟩
    · have h1 := H.2 j (ready_mono hj hji)
      obtain ⟨hjun, oj, hoj, hall⟩ := mem_ready.1 hj
      have hun := getD_false_of_true (mem_ready.1 hr).1
      have hnot : ∀ e ∈ oj.after, Region.binds .any e = true → e.on ≠ i := fun e he hb heq => by
        have h1 := hall e he hb
        rw [heq, hun] at h1
        cases h1
      have h2 := wpOp_put hoj (hfree j oj hoj hji hjun hnot) (fun cs b => hsel i oi cs b hi) (fun cs b => hsel j oj cs b hoj) hQ hy h1
      have hfree' : ∀ k ok, ops[k]? = some ok → k ≠ i → (listed.setIfInBounds j true).getD k true = false →
          (∀ e ∈ ok.after, Region.binds .any e = true → e.on ≠ i) → oi.apart ops ok = true := fun k ok hk hki hun hno => by
        refine hfree k ok hk hki ?_ hno
        by_cases hjk : j = k
        · subst hjk; exact hjun
        · rw [getD_set_ne true hjk] at hun; exact hun
      refine wpOp_mono (fun a' w' h3 => ⟨h3.2.1, ih (listed.setIfInBounds j true) a' w' hfree' (ready_mono hr (Ne.symm hji)) h3.1 ?_⟩) h2
      rw [Array.setIfInBounds_comm _ _ hji]
      exact h3.2.2
end

/-- An order (a tree, where two operations with an effect may come up). -/
inductive Ord where
  | done
  | calm (i : Nat) (r : Ord)
  | held (i : Nat) (r : Ord)
  | one (i : Nat) (r : Ord)
  | two (i j : Nat) (r s : Ord)

section
variable (P : Program) (ops : Array Oper) (Q : Exit → Act → World → Prop) (S : World → Prop) (kind : Nat → Nat)

def wpOrd : Ord → Act → World → Prop
  | .done, a, w => Q .normal a w
  | .calm i r, a, w => ∃ o v, ops[i]? = some o ∧ Yields P ops o v a ∧ wpOrd r (a.put o.dst v) w
  | .held i r, a, w => S w ∧ ∃ o v, ops[i]? = some o ∧ YieldsIf P ops S o v a ∧ wpOrd r (a.put o.dst v) w
  | .one i r, a, w => wpOp P ops Q i (fun a' w' => Keeps S (kind i) w w' ∧ wpOrd r a' w') a w
  | .two i j r s, a, w => wpOp P ops Q i (fun a' w' => Keeps S (kind i) w w' ∧ wpOrd r a' w') a w ∧ wpOp P ops Q j (fun a' w' => Keeps S (kind j) w w' ∧ wpOrd s a' w') a w
end

def Ord.steps : Ord → Nat
  | .done => 0
  | .calm _ r => r.steps + 1
  | .held _ r => r.steps + 1
  | .one _ r => r.steps + 1
  | .two _ _ r _ => r.steps + 1

/-- Is it an order of the region? (n: so many are to come.) -/
def ordOK (ops : Array Oper) (kind : Nat → Nat) : Ord → Nat → Array Bool → Bool
  | .done, n, L => (n == 0) && (Region.ready .any ops L).isEmpty
  | .calm i r, n, L => (n != 0) && (kind i == 0) && (Region.ready .any ops L).contains i && Region.free .any ops L i && ordOK ops kind r (n - 1) (L.setIfInBounds i true)
  | .held i r, n, L => (n != 0) && (kind i == 0) && (Region.ready .any ops L).contains i && Region.free .any ops L i && ((List.range ops.size).all fun j => Nat.ble (kind j) 1 || waitsB ops i ops.size j) && ordOK ops kind r (n - 1) (L.setIfInBounds i true)
  | .one i r, n, L => (n != 0) && (Region.ready .any ops L == [i]) && ordOK ops kind r (n - 1) (L.setIfInBounds i true)
  | .two i j r s, n, L => (n != 0) && (Region.ready .any ops L == [i, j]) && ordOK ops kind r (n - 1) (L.setIfInBounds i true) && ordOK ops kind s (n - 1) (L.setIfInBounds j true)

theorem wpOrd_any {P : Program} {ops : Array Oper} {Q : Exit → Act → World → Prop} {S : World → Prop} {kind : Nat → Nat} (hs : Region.noSelect ops = true)
    (hQ : ∀ c a d v w, Q (.panic c) (Act.put a d v) w → Q (.panic c) a w) :
    ∀ (r : Ord) (n : Nat) (L : Array Bool) (a : Act) (w : World), Closed ops L → ordOK ops kind r n L = true → wpOrd P ops Q S kind r a w → wpAnyM P ops Q S kind n L a w
  | .done, n, L, a, w, _, hB, h => by
    simp only [ordOK, Bool.and_eq_true, beq_iff_eq, List.isEmpty_iff] at hB
    obtain ⟨rfl, h2⟩ := hB
    exact ⟨h2, h⟩
  | .calm i r, n, L, a, w, hc, hB, h => by
    simp only [ordOK, Bool.and_eq_true, bne_iff_ne, ne_eq, beq_iff_eq] at hB
    obtain ⟨⟨⟨⟨h0, h1⟩, h2⟩, h3⟩, h4⟩ := hB
    obtain ⟨m, rfl⟩ : ∃ m, n = m + 1 := ⟨n - 1, by omega⟩
    obtain ⟨o, v, ho, hy, hr⟩ := h
    have hi : i ∈ Region.ready .any ops L := by simpa using h2
    exact wpAnyM_calm ho (Region.noSelect_spec hs) (fun c a w => hQ c a _ _ w) h1 m L a w (Region.free_spec ho h3) hi hy
      (wpOrd_any hs hQ r m _ _ w (hc.set hi) (by simpa using h4) hr)
  | .held i r, n, L, a, w, hc, hB, h => by
    simp only [ordOK, Bool.and_eq_true, bne_iff_ne, ne_eq, beq_iff_eq] at hB
    obtain ⟨⟨⟨⟨⟨h0, h1⟩, h2⟩, h3⟩, h5⟩, h4⟩ := hB
    obtain ⟨m, rfl⟩ : ∃ m, n = m + 1 := ⟨n - 1, by omega⟩
    obtain ⟨hS, o, v, ho, hy, hr⟩ := h
    have hi : i ∈ Region.ready .any ops L := by simpa using h2
    refine wpAnyM_held ho (Region.noSelect_spec hs) (fun c a w => hQ c a _ _ w) ?_ h1 m L a w hc (Region.free_spec ho h3) hi hy hS
      (wpOrd_any hs hQ r m _ _ w (hc.set hi) (by simpa using h4) hr)
    intro j oj hoj hk
    have h6 := List.all_eq_true.1 h5 j (List.mem_range.2 (Array.getElem?_eq_some_iff.1 hoj).1)
    simp only [Bool.or_eq_true] at h6
    rcases h6 with h6 | h6
    · have := Nat.le_of_ble_eq_true h6; omega
    · exact ⟨_, h6⟩
  | .one i r, n, L, a, w, hc, hB, h => by
    simp only [ordOK, Bool.and_eq_true, bne_iff_ne, ne_eq, beq_iff_eq] at hB
    obtain ⟨⟨h0, h1⟩, h2⟩ := hB
    obtain ⟨m, rfl⟩ : ∃ m, n = m + 1 := ⟨n - 1, by omega⟩
    refine ⟨fun h3 => (by rw [h1] at h3; cases h3), fun j hj => ?_⟩
    have hj' := hj
    rw [h1] at hj'
    obtain rfl : j = i := by simpa using hj'
    exact wpOp_mono (fun a' w' h3 => ⟨h3.1, wpOrd_any hs hQ r m _ a' w' (hc.set hj) (by simpa using h2) h3.2⟩) h
  | .two i k r s, n, L, a, w, hc, hB, h => by
    simp only [ordOK, Bool.and_eq_true, bne_iff_ne, ne_eq, beq_iff_eq] at hB
    obtain ⟨⟨⟨h0, h1⟩, h2⟩, h3⟩ := hB
    obtain ⟨m, rfl⟩ : ∃ m, n = m + 1 := ⟨n - 1, by omega⟩
    refine ⟨fun h4 => (by rw [h1] at h4; cases h4), fun j hj => ?_⟩
    have hj' := hj
    rw [h1] at hj'
    have : j = i ∨ j = k := by simpa using hj'
    rcases this with rfl | rfl
    · exact wpOp_mono (fun a' w' h4 => ⟨h4.1, wpOrd_any hs hQ r m _ a' w' (hc.set hj) (by simpa using h2) h4.2⟩) h.1
    · exact wpOp_mono (fun a' w' h4 => ⟨h4.1, wpOrd_any hs hQ s m _ a' w' (hc.set hj) (by simpa using h3) h4.2⟩) h.2

/-- the whole check, for the kernel -/
def ordB (ops : Array Oper) (kind : Nat → Nat) (r : Ord) : Bool := Region.noSelect ops && ordOK ops kind r ops.size (Array.replicate ops.size false)

section
variable {P : Program} {N : Nat} {ops : Array Oper} {Q : Exit → Act → World → Prop} {S : World → Prop} {kind : Nat → Nat} {E : Env} {w w' : World} {o : Oper} {d i j : Nat} {v : Value} {r s : Ord}

def WN (P : Program) (N : Nat) (ops : Array Oper) (Q : Exit → Act → World → Prop) (S : World → Prop) (kind : Nat → Nat) (r : Ord) (E : Env) (w : World) : Prop := ∀ a, Sat N E a → wpOrd P ops Q S kind r a w

theorem WC.draws {id : Nat} {l : List Oper} (S : World → Prop) (kind : Nat → Nat) (r : Ord) (hm : P.follows .mixedOrders = true) (hB : ordB l.toArray kind r = true)
    (hQ : ∀ c a d v w, Q (.panic c) (Act.put a d v) w → Q (.panic c) a w) (k : WN P N l.toArray Q S kind r E w.drew) : WC P N Q (.region id l.toArray true) E w := by
  intro a h
  simp only [ordB, Bool.and_eq_true] at hB
  refine wp_region_any hm (wpAny_of_M (S := S) (kind := kind) _ _ _ _ ?_)
  exact wpOrd_any hB.1 hQ r _ _ _ _ closed_start hB.2 (k a h)

/-- what holds behind a panic asks nothing of the temporaries -/
def Deaf (Q : Exit → Act → World → Prop) : Prop := ∀ c a d v w, Q (.panic c) (Act.put a d v) w → Q (.panic c) a w
theorem Deaf.block {id : Nat} {Q : Exit → Act → World → Prop} (h : Deaf Q) : Deaf (Exit.inBlock id Q) := fun c a d v w hq => h c a d v w hq
theorem Deaf.then {X : Act → World → Prop} {Q : Exit → Act → World → Prop} (h : Deaf Q) : Deaf (Exit.then X Q) := fun c a d v w hq => h c a d v w hq
theorem Deaf.body {P : Program} {fn : Func} {R : Ending → World → Prop} : Deaf (bodyPost P fn R) := fun c a d v w hq => by cases d <;> exact hq

/-- the same, the world behind the draw under a name of its own -/
theorem WC.draws' {id : Nat} {l : List Oper} (S : World → World → Prop) (kind : Nat → Nat) (r : Ord) (hm : P.follows .mixedOrders = true) (hB : ordB l.toArray kind r = true)
    (hQ : Deaf Q)
    (k : ∀ w', w'.os = w.os ∧ w'.tape = w.tape ∧ w'.output = w.output ∧ w'.heap = w.heap → WN P N l.toArray Q (S w') kind r E w') : WC P N Q (.region id l.toArray true) E w :=
  WC.draws (S w.drew) kind r hm hB hQ (k _ ⟨rfl, rfl, rfl, rfl⟩)

theorem WN.done (k : WX N Q .normal E w) : WN P N ops Q S kind .done E w := fun a h => k a h

theorem WN.keep (F : Env) (hs : E.sub F) (k : WN P N ops Q S kind r F w) : WN P N ops Q S kind r E w := fun a h => k a (h.sub hs)

theorem WN.calm (o : Oper) (hi : ops[i]? = some o) (hd : o.dst = some d) (hN : Nat.blt d N = true) (ho : opsOK E o = true) (hw : wantedE ops E o = some true)
    (hrun : ∀ w, (execOp E.ev o).run P w = .ok (.value v) w) (k : WN P N ops Q S kind r ((d, v) :: E) w) : WN P N ops Q S kind (.calm i r) E w := by
  intro a h
  have hd' : d < N := Eq.mp Nat.blt_eq hN
  refine ⟨o, v, hi, .inl ⟨wantedE_spec h hw, fun w => by rw [opsOK_exec h ho]; exact hrun w⟩, ?_⟩
  rw [hd]
  exact k _ (h.put hd' v)

theorem WN.skip (o : Oper) (hi : ops[i]? = some o) (hd : o.dst = some d) (hN : Nat.blt d N = true) (hw : wantedE ops E o = some false)
    (k : WN P N ops Q S kind r ((d, undef) :: E) w) : WN P N ops Q S kind (.calm i r) E w := by
  intro a h
  have hd' : d < N := Eq.mp Nat.blt_eq hN
  refine ⟨o, undef, hi, .inr ⟨wantedE_spec h hw, rfl⟩, ?_⟩
  rw [hd]
  exact k _ (h.put hd' undef)

theorem WN.held (o : Oper) (hi : ops[i]? = some o) (hd : o.dst = some d) (hN : Nat.blt d N = true) (ho : opsOK E o = true) (hw : wantedE ops E o = some true) (hS : S w)
    (hrun : ∀ w, S w → (execOp E.ev o).run P w = .ok (.value v) w) (k : WN P N ops Q S kind r ((d, v) :: E) w) : WN P N ops Q S kind (.held i r) E w := by
  intro a h
  have hd' : d < N := Eq.mp Nat.blt_eq hN
  refine ⟨hS, o, v, hi, .inl ⟨wantedE_spec h hw, fun w hw => by rw [opsOK_exec h ho]; exact hrun w hw⟩, ?_⟩
  rw [hd]
  exact k _ (h.put hd' v)

theorem WN.heldSkip (o : Oper) (hi : ops[i]? = some o) (hd : o.dst = some d) (hN : Nat.blt d N = true) (hw : wantedE ops E o = some false) (hS : S w)
    (k : WN P N ops Q S kind r ((d, undef) :: E) w) : WN P N ops Q S kind (.held i r) E w := by
  intro a h
  have hd' : d < N := Eq.mp Nat.blt_eq hN
  refine ⟨hS, o, undef, hi, .inr ⟨wantedE_spec h hw, rfl⟩, ?_⟩
  rw [hd]
  exact k _ (h.put hd' undef)

theorem WN.cases (t : Nat) {b : Bool} (hg : Env.get E t = some (.bool b)) (ht : b = true → WN P N ops Q S kind r ((t, .bool true) :: E) w) (hf : b = false → WN P N ops Q S kind r ((t, .bool false) :: E) w) :
    WN P N ops Q S kind r E w := by
  intro a h
  cases b with
  | true => exact ht rfl a ⟨h.size, h.defers, fun s v hs => by
      simp only [Env.get] at hs
      split at hs
      · rename_i hb
        have := Nat.eq_of_beq_eq_true hb
        subst this
        injection hs with hs
        subst hs
        exact h.vals _ _ hg
      · exact h.vals s v hs⟩
  | false => exact hf rfl a ⟨h.size, h.defers, fun s v hs => by
      simp only [Env.get] at hs
      split at hs
      · rename_i hb
        have := Nat.eq_of_beq_eq_true hb
        subst this
        injection hs with hs
        subst hs
        exact h.vals _ _ hg
      · exact h.vals s v hs⟩

/-- one operation, as a step of its own -/
def WO (P : Program) (N : Nat) (ops : Array Oper) (Q : Exit → Act → World → Prop) (i : Nat) (K : Env → World → Prop) (E : Env) (w : World) : Prop :=
  ∀ (K' : Act → World → Prop), (∀ E' w' a', K E' w' → Sat N E' a' → K' a' w') → ∀ a, Sat N E a → wpOp P ops Q i K' a w

theorem WN.one (k : WO P N ops Q i (fun E' w' => Keeps S (kind i) w w' ∧ WN P N ops Q S kind r E' w') E w) : WN P N ops Q S kind (.one i r) E w :=
  fun a h => k _ (fun _ _ a' hK hs => ⟨hK.1, hK.2 a' hs⟩) a h

theorem WN.two (k1 : WO P N ops Q i (fun E' w' => Keeps S (kind i) w w' ∧ WN P N ops Q S kind r E' w') E w)
    (k2 : WO P N ops Q j (fun E' w' => Keeps S (kind j) w w' ∧ WN P N ops Q S kind s E' w') E w) : WN P N ops Q S kind (.two i j r s) E w :=
  fun a h => ⟨k1 _ (fun _ _ a' hK hs => ⟨hK.1, hK.2 a' hs⟩) a h, k2 _ (fun _ _ a' hK hs => ⟨hK.1, hK.2 a' hs⟩) a h⟩

variable {K : Env → World → Prop}

theorem WO.val (o : Oper) (hi : ops[i]? = some o) (hd : o.dst = some d) (hN : Nat.blt d N = true) (ho : opsOK E o = true) (hw : wantedE ops E o = some true)
    (hrun : (execOp E.ev o).run P w = .ok (.value v) w') (k : K ((d, v) :: E) w') : WO P N ops Q i K E w := by
  intro K' hK a h
  have hd' : d < N := Eq.mp Nat.blt_eq hN
  unfold wpOp
  simp only [hi]
  rw [if_pos (wantedE_spec h hw)]
  refine .inl ?_
  unfold Oper.wp
  rw [opsOK_exec h ho, hrun, Oper.upon_value, hd]
  exact hK _ _ _ k (h.put hd' v)

theorem WO.eff (o : Oper) (hi : ops[i]? = some o) (hd : o.dst = none) (ho : opsOK E o = true) (hw : wantedE ops E o = some true)
    (hrun : (execOp E.ev o).run P w = .ok .skip w') (k : K E w') : WO P N ops Q i K E w := by
  intro K' hK a h
  unfold wpOp
  simp only [hi]
  rw [if_pos (wantedE_spec h hw)]
  refine .inl ?_
  unfold Oper.wp
  rw [opsOK_exec h ho, hrun, Oper.upon_skip, hd]
  exact hK _ _ _ k h

theorem WO.skip (o : Oper) (hi : ops[i]? = some o) (hd : o.dst = some d) (hN : Nat.blt d N = true) (hw : wantedE ops E o = some false)
    (k : K ((d, undef) :: E) w) : WO P N ops Q i K E w := by
  intro K' hK a h
  have hd' : d < N := Eq.mp Nat.blt_eq hN
  unfold wpOp
  simp only [hi]
  rw [wantedE_spec h hw, hd]
  exact hK _ _ _ k (h.put hd' undef)

theorem WO.call (o : Oper) {f : FuncId} {args : Array Value} {R : Value → World → Prop} (hi : ops[i]? = some o) (hd : o.dst = some d) (hN : Nat.blt d N = true) (ho : opsOK E o = true) (hw : wantedE ops E o = some true)
    (hrun : (execOp E.ev o).run P w = .ok (.enter f args) w') (hc : Ret P f args w' R) (k : ∀ v w'', R v w'' → K ((d, v) :: E) w'') : WO P N ops Q i K E w := by
  intro K' hK a h
  have hd' : d < N := Eq.mp Nat.blt_eq hN
  unfold wpOp
  simp only [hi]
  rw [if_pos (wantedE_spec h hw)]
  refine .inl ?_
  unfold Oper.wp
  rw [opsOK_exec h ho, hrun, Oper.upon_enter]
  refine Calls.mono hc ?_
  rintro e w'' ⟨v, rfl, hR⟩
  simp only [hd]
  exact hK _ _ _ (k v w'' hR) (h.put hd' v)
end
end Go.Proofs.Ytnjfhmlfpfkllaa

/-
  The operations' runs, one law each: numbers, bools, addresses, loads and stores, slices, calls; entry and return.
-/
namespace Go.Proofs.Ytnjfhmlfpfkllaa
open Go
set_option linter.unusedSimpArgs false
set_option linter.unusedVariables false

theorem ev_t {E : Env} {t : Nat} {v : Value} (h : Env.get E t = some v) : Env.ev E (.tmp t) = v := by simp [Env.ev, h]
theorem ev_c {E : Env} {c : Value} : Env.ev E (.const c) = c := rfl
theorem ev_f {E : Env} {f : FuncId} : Env.ev E (.func f) = .func (.func f) #[] #[] := rfl
theorem ev_g {E : Env} {g : Nat} : Env.ev E (.global g) = .pointer (some ⟨g, 0, none⟩) := rfl

section
variable {P : Program} {ρ : Operand → Value} {o : Oper} {w : World} {x y z : Operand} {t u : TypeId} {k k' : IntKind} {a b : Int}

theorem r_move {v : Value} (ho : o.op = .move x) (hx : ρ x = v) : (execOp ρ o).run P w = .ok (.value v) w := by simp [execOp, ho, hx, go_sem]
theorem r_assign {v : Value} (ho : o.op = .assign x) (hx : ρ x = v) : (execOp ρ o).run P w = .ok (.value v) w := by simp [execOp, ho, hx, go_sem]
theorem r_pickT {v : Value} (ho : o.op = .pick x y z) (hx : ρ x = .bool true) (hy : ρ y = v) : (execOp ρ o).run P w = .ok (.value v) w := by simp [execOp, ho, hx, hy, asBool, go_sem]
theorem r_pickF {v : Value} (ho : o.op = .pick x y z) (hx : ρ x = .bool false) (hz : ρ z = v) : (execOp ρ o).run P w = .ok (.value v) w := by simp [execOp, ho, hx, hz, asBool, go_sem]

theorem r_add (ho : o.op = .binOp .add t x y u) (hx : ρ x = .int k a) (hy : ρ y = .int k b) : (execOp ρ o).run P w = .ok (.value (.int k (k.wrap (a + b)))) w := by
  simp [execOp, ho, hx, hy, binOp, Op.intArith, go_sem]
theorem r_sub (ho : o.op = .binOp .sub t x y u) (hx : ρ x = .int k a) (hy : ρ y = .int k b) : (execOp ρ o).run P w = .ok (.value (.int k (k.wrap (a - b)))) w := by
  simp [execOp, ho, hx, hy, binOp, Op.intArith, go_sem]
theorem r_mul (ho : o.op = .binOp .mul t x y u) (hx : ρ x = .int k a) (hy : ρ y = .int k b) : (execOp ρ o).run P w = .ok (.value (.int k (k.wrap (a * b)))) w := by
  simp [execOp, ho, hx, hy, binOp, Op.intArith, go_sem]

theorem wrap_i64_in {n : Int} (h1 : -9223372036854775808 ≤ n) (h2 : n ≤ 9223372036854775807) : IntKind.i64.wrap n = n := by
  simp only [IntKind.wrap, IntKind.signed, IntKind.bits, Bool.true_and]
  split <;> (rename_i h; simp only [ge_iff_le, decide_eq_true_eq] at h; omega)
theorem wrap_u64_in {n : Int} (h1 : 0 ≤ n) (h2 : n ≤ 18446744073709551615) : IntKind.u64.wrap n = n := by
  simp only [IntKind.wrap, IntKind.signed, IntKind.bits, Bool.false_and, Bool.false_eq_true, if_false]
  omega
theorem wrap_u32_in {n : Int} (h1 : 0 ≤ n) (h2 : n ≤ 4294967295) : IntKind.u32.wrap n = n := by
  simp only [IntKind.wrap, IntKind.signed, IntKind.bits, Bool.false_and, Bool.false_eq_true, if_false]
  omega
theorem wrap_u8_in {n : Int} (h1 : 0 ≤ n) (h2 : n ≤ 255) : IntKind.u8.wrap n = n := by
  simp only [IntKind.wrap, IntKind.signed, IntKind.bits, Bool.false_and, Bool.false_eq_true, if_false]
  omega

/-- numbers that the kind holds -/
def inK : IntKind → Int → Prop
  | .i64, n => -9223372036854775808 ≤ n ∧ n ≤ 9223372036854775807
  | .u64, n => 0 ≤ n ∧ n ≤ 18446744073709551615
  | .i32, n => -2147483648 ≤ n ∧ n ≤ 2147483647
  | .u32, n => 0 ≤ n ∧ n ≤ 4294967295
  | .i16, n => -32768 ≤ n ∧ n ≤ 32767
  | .u16, n => 0 ≤ n ∧ n ≤ 65535
  | .i8, n => -128 ≤ n ∧ n ≤ 127
  | .u8, n => 0 ≤ n ∧ n ≤ 255
theorem wrap_in {n : Int} (h : inK k n) : k.wrap n = n := by
  cases k <;> simp only [inK] at h <;> simp only [IntKind.wrap, IntKind.signed, IntKind.bits, Bool.true_and, Bool.false_and, Bool.false_eq_true, if_false] <;>
    first
    | omega
    | (split <;> (rename_i h'; simp only [ge_iff_le, decide_eq_true_eq] at h'; omega))

theorem r_addN (ho : o.op = .binOp .add t x y u) (hx : ρ x = .int k a) (hy : ρ y = .int k b) (h : inK k (a + b)) : (execOp ρ o).run P w = .ok (.value (.int k (a + b))) w := by
  rw [r_add ho hx hy, wrap_in h]
theorem r_subN (ho : o.op = .binOp .sub t x y u) (hx : ρ x = .int k a) (hy : ρ y = .int k b) (h : inK k (a - b)) : (execOp ρ o).run P w = .ok (.value (.int k (a - b))) w := by
  rw [r_sub ho hx hy, wrap_in h]
theorem r_mulN (ho : o.op = .binOp .mul t x y u) (hx : ρ x = .int k a) (hy : ρ y = .int k b) (h : inK k (a * b)) : (execOp ρ o).run P w = .ok (.value (.int k (a * b))) w := by
  rw [r_mul ho hx hy, wrap_in h]

theorem r_lss (ho : o.op = .binOp .lss t x y u) (hx : ρ x = .int k a) (hy : ρ y = .int k b) : (execOp ρ o).run P w = .ok (.value (.bool (decide (a < b)))) w := by
  simp [execOp, ho, hx, hy, binOp, Op.intCmp, go_sem]
theorem r_leq (ho : o.op = .binOp .leq t x y u) (hx : ρ x = .int k a) (hy : ρ y = .int k b) : (execOp ρ o).run P w = .ok (.value (.bool (decide (a ≤ b)))) w := by
  simp [execOp, ho, hx, hy, binOp, Op.intCmp, go_sem]
theorem r_gtr (ho : o.op = .binOp .gtr t x y u) (hx : ρ x = .int k a) (hy : ρ y = .int k b) : (execOp ρ o).run P w = .ok (.value (.bool (decide (b < a)))) w := by
  simp [execOp, ho, hx, hy, binOp, Op.intCmp, go_sem]
theorem r_geq (ho : o.op = .binOp .geq t x y u) (hx : ρ x = .int k a) (hy : ρ y = .int k b) : (execOp ρ o).run P w = .ok (.value (.bool (decide (b ≤ a)))) w := by
  simp [execOp, ho, hx, hy, binOp, Op.intCmp, go_sem]
theorem r_eql (ho : o.op = .binOp .eql t x y u) (hx : ρ x = .int k a) (hy : ρ y = .int k b) : (execOp ρ o).run P w = .ok (.value (.bool (decide (a = b)))) w := by
  simp [execOp, ho, hx, hy, binOp, Op.intCmp, go_sem]; rfl
theorem r_neq (ho : o.op = .binOp .neq t x y u) (hx : ρ x = .int k a) (hy : ρ y = .int k b) : (execOp ρ o).run P w = .ok (.value (.bool (decide (a ≠ b)))) w := by
  simp [execOp, ho, hx, hy, binOp, Op.intCmp, go_sem]; rfl

theorem r_and (ho : o.op = .binOp .and t x y u) (hx : ρ x = .int k a) (hy : ρ y = .int k b) : (execOp ρ o).run P w = .ok (.value (.int k (bits .and k a b))) w := by
  simp [execOp, ho, hx, hy, binOp, go_sem]
theorem r_or (ho : o.op = .binOp .or t x y u) (hx : ρ x = .int k a) (hy : ρ y = .int k b) : (execOp ρ o).run P w = .ok (.value (.int k (bits .or k a b))) w := by
  simp [execOp, ho, hx, hy, binOp, go_sem]
theorem r_xor (ho : o.op = .binOp .xor t x y u) (hx : ρ x = .int k a) (hy : ρ y = .int k b) : (execOp ρ o).run P w = .ok (.value (.int k (bits .xor k a b))) w := by
  simp [execOp, ho, hx, hy, binOp, go_sem]
theorem r_andNot (ho : o.op = .binOp .andNot t x y u) (hx : ρ x = .int k a) (hy : ρ y = .int k b) : (execOp ρ o).run P w = .ok (.value (.int k (bits .andNot k a b))) w := by
  simp [execOp, ho, hx, hy, binOp, go_sem]
theorem r_quo (ho : o.op = .binOp .quo t x y u) (hx : ρ x = .int k a) (hy : ρ y = .int k b) (hb : b ≠ 0) : (execOp ρ o).run P w = .ok (.value (.int k (k.wrap (a.tdiv b)))) w := by
  simp [execOp, ho, hx, hy, binOp, hb, go_sem]
theorem r_rem (ho : o.op = .binOp .rem t x y u) (hx : ρ x = .int k a) (hy : ρ y = .int k b) (hb : b ≠ 0) : (execOp ρ o).run P w = .ok (.value (.int k (a.tmod b))) w := by
  simp [execOp, ho, hx, hy, binOp, hb, go_sem]
theorem r_shl (ho : o.op = .binOp .shl t x y u) (hx : ρ x = .int k a) (hy : ρ y = .int k' b) (h0 : 0 ≤ b) (h1 : b ≤ k.bits) : (execOp ρ o).run P w = .ok (.value (.int k (k.wrap (a * 2 ^ b.toNat)))) w := by
  simp [execOp, ho, hx, hy, binOp, shift_shl k k' a b h0 h1, go_sem]
theorem r_shr (ho : o.op = .binOp .shr t x y u) (hx : ρ x = .int k a) (hy : ρ y = .int k' b) (h0 : 0 ≤ b) (h1 : b ≤ k.bits) : (execOp ρ o).run P w = .ok (.value (.int k (a / 2 ^ b.toNat))) w := by
  simp [execOp, ho, hx, hy, binOp, shift_shr k k' a b h0 h1, go_sem]

theorem r_not {c : Bool} (ho : o.op = .unOp .not t x) (hx : ρ x = .bool c) : (execOp ρ o).run P w = .ok (.value (.bool (!c))) w := by
  simp [execOp, ho, hx, Op.unary, go_sem]
theorem r_neg (ho : o.op = .unOp .neg t x) (hx : ρ x = .int k a) : (execOp ρ o).run P w = .ok (.value (.int k (k.wrap (-a)))) w := by
  simp [execOp, ho, hx, Op.unary, go_sem]

theorem r_conv (ho : o.op = .convert t u x) (hx : ρ x = .int k' a) (hs : (P.underlying t).isSome = true) (hd : P.underlying u = some (.int k)) : (execOp ρ o).run P w = .ok (.value (.int k (k.wrap a))) w := by
  obtain ⟨d, hd'⟩ := Option.isSome_iff_exists.1 hs
  simp [execOp, ho, hx, convert, run_underlying hd', run_underlying hd, Conv.intToInt, go_sem]
theorem r_convN (ho : o.op = .convert t u x) (hx : ρ x = .int k' a) (hs : (P.underlying t).isSome = true) (hd : P.underlying u = some (.int k)) (h : inK k a) : (execOp ρ o).run P w = .ok (.value (.int k a)) w := by
  rw [r_conv ho hx hs hd, wrap_in h]

theorem r_nilCheck {p : Addr} (ho : o.op = .nilCheck x) (hx : ρ x = .pointer (some p)) : (execOp ρ o).run P w = .ok (.value (.pointer (some p))) w := by
  simp [execOp, ho, hx, go_sem]
theorem r_eqlPtrNil {p : Option Addr} (ho : o.op = .binOp .eql t x y u) (hx : ρ x = .pointer p) (hy : ρ y = .pointer none) (h : P.underlying t = some (.pointer (P.pointee t))) : (execOp ρ o).run P w = .ok (.value (.bool p.isNone)) w := by
  simp [execOp, ho, hx, hy, run_eql_pointer_nil (P := P) w t p h, go_sem]
theorem r_neqPtrNil {p : Option Addr} (ho : o.op = .binOp .neq t x y u) (hx : ρ x = .pointer p) (hy : ρ y = .pointer none) (h : P.underlying t = some (.pointer (P.pointee t))) : (execOp ρ o).run P w = .ok (.value (.bool p.isSome)) w := by
  simp [execOp, ho, hx, hy, run_neq_pointer_nil (P := P) w t p h, go_sem]
end
end Go.Proofs.Ytnjfhmlfpfkllaa

/-
  Memory: blocks known whole, what a step may change, rows that are read, rows that are owned; the operations on them.
-/
namespace Go.Proofs.Ytnjfhmlfpfkllaa
open Go
set_option linter.unusedSimpArgs false
set_option linter.unusedVariables false

/-- A block known whole; nothing of it is frozen. -/
def Blk (w : World) (b : Nat) (cs : Array Value) (T : TypeId) : Prop := w.heap[b]? = some (.cells cs T (0, 0))

/-- Of the blocks that were there only those of S may have changed. -/
structure Upd (S : Nat → Prop) (w w' : World) : Prop where
  os : w'.os = w.os
  tape : w'.tape = w.tape
  output : w'.output = w.output
  size : w.heap.size ≤ w'.heap.size
  block : ∀ k, k < w.heap.size → ¬ S k → w'.heap[k]? = w.heap[k]?

/-- No block. -/
def No : Nat → Prop := fun _ => False
/-- One block. -/
def At (b : Nat) : Nat → Prop := fun k => k = b
/-- Blocks from B on. -/
def From (B : Nat) : Nat → Prop := fun k => B ≤ k

theorem Upd.refl (S : Nat → Prop) (w : World) : Upd S w w := ⟨rfl, rfl, rfl, Nat.le_refl _, fun _ _ _ => rfl⟩
theorem Upd.mono {S S' : Nat → Prop} {w w' : World} (h : Upd S w w') (hs : ∀ k, k < w.heap.size → S k → S' k) : Upd S' w w' :=
  ⟨h.os, h.tape, h.output, h.size, fun k hk hn => h.block k hk fun hS => hn (hs k hk hS)⟩
theorem Upd.trans {S S' : Nat → Prop} {w w1 w2 : World} (h : Upd S w w1) (h' : Upd S' w1 w2) (hs : ∀ k, k < w.heap.size → S' k → S k) : Upd S w w2 :=
  ⟨h'.os.trans h.os, h'.tape.trans h.tape, h'.output.trans h.output, Nat.le_trans h.size h'.size, fun k hk hn =>
    (h'.block k (Nat.lt_of_lt_of_le hk h.size) fun hS => hn (hs k hk hS)).trans (h.block k hk hn)⟩
theorem Upd.trans_same {S : Nat → Prop} {w w1 w2 : World} (h : Upd S w w1) (h' : Upd S w1 w2) : Upd S w w2 := h.trans h' fun _ _ h => h
theorem Upd.no {S : Nat → Prop} {w w' : World} (h : Upd No w w') : Upd S w w' := h.mono fun _ _ h => h.elim
theorem Upd.drew (S : Nat → Prop) (w : World) : Upd S w w.drew := ⟨rfl, rfl, rfl, Nat.le_refl _, fun _ _ _ => rfl⟩
theorem Upd.alloc (S : Nat → Prop) (w : World) (o : Obj) : Upd S w (w.alloc o) := ⟨rfl, rfl, rfl, by simp, fun k hk _ => Go.RowKit.Below.heap_alloc w o k hk⟩
theorem Upd.setCell (w : World) (p : Addr) (v : Value) : Upd (At p.block) w (w.setCell p v) :=
  ⟨rfl, rfl, rfl, by simp, fun k _ hn => Go.RowKit.Below.heap_setCell w p v k hn⟩
theorem Upd.below {B : Nat} {S : Nat → Prop} {w w' : World} (h : Upd S w w') (hB : B ≤ w.heap.size) (hs : ∀ k, S k → B ≤ k) : Go.RowKit.Below B w w' :=
  ⟨h.os, h.tape, h.output, h.size, fun k hk => h.block k (by omega) fun hS => by have := hs k hS; omega⟩

theorem Upd.of_draw {w w' : World} (h : w'.os = w.os ∧ w'.tape = w.tape ∧ w'.output = w.output ∧ w'.heap = w.heap) : Upd No w w' :=
  ⟨h.1, h.2.1, h.2.2.1, by rw [h.2.2.2]; exact Nat.le_refl _, fun k _ _ => by rw [h.2.2.2]⟩

theorem cell?_of_eq {w w' : World} {b : Nat} (h : w'.heap[b]? = w.heap[b]?) (o : Nat) (s : Option Nat) : w'.cell? ⟨b, o, s⟩ = w.cell? ⟨b, o, s⟩ := by simp [World.cell?, h]

theorem Blk.cell {w : World} {b : Nat} {cs : Array Value} {T : TypeId} (h : Blk w b cs T) {o : Nat} {v : Value} (hv : cs[o]? = some v) : w.cell? ⟨b, o, none⟩ = some v := by
  unfold Blk at h
  simp [World.cell?, h, hv]
theorem Blk.free {w : World} {b : Nat} {cs : Array Value} {T : TypeId} (h : Blk w b cs T) (o : Nat) : w.frozen? ⟨b, o, none⟩ = false := by
  unfold Blk at h
  simp [World.frozen?, h]
theorem Blk.lt {w : World} {b : Nat} {cs : Array Value} {T : TypeId} (h : Blk w b cs T) : b < w.heap.size := by
  rcases Nat.lt_or_ge b w.heap.size with h' | h'
  · exact h'
  · unfold Blk at h; simp [Array.getElem?_eq_none h'] at h
theorem Blk.upd {S : Nat → Prop} {w w' : World} {b : Nat} {cs : Array Value} {T : TypeId} (h : Blk w b cs T) (hu : Upd S w w') (hn : ¬ S b) : Blk w' b cs T :=
  (hu.block b h.lt hn).trans h
theorem Blk.alloc_new (w : World) (cs : Array Value) (T : TypeId) : Blk (w.alloc (.cells cs T)) w.heap.size cs T := heap_alloc_new w _
theorem Blk.drew {w : World} {b : Nat} {cs : Array Value} {T : TypeId} (h : Blk w b cs T) : Blk w.drew b cs T := h
theorem Blk.set {w : World} {b : Nat} {cs : Array Value} {T : TypeId} (h : Blk w b cs T) (o : Nat) (v : Value) : Blk (w.setCell ⟨b, o, none⟩ v) b (cs.setIfInBounds o v) T := by
  have hlt := h.lt
  unfold Blk at h ⊢
  have h' : w.heap[b] = .cells cs T (0, 0) := by simpa [Array.getElem?_eq_getElem hlt] using h
  show (w.heap.modify b _)[b]? = _
  rw [Array.getElem?_eq_getElem (by simpa using hlt), Array.getElem_modify_self, h']
  rfl
theorem Blk.ne {w : World} {b b' : Nat} {cs cs' : Array Value} {T T' : TypeId} (h : Blk w b cs T) (h' : Blk w b' cs' T') (ht : T ≠ T') : b ≠ b' := by
  rintro rfl
  unfold Blk at h h'
  rw [h] at h'
  injection h' with h'
  injection h' with _ h'
  exact ht h'

/-- A type whose values take one cell. -/
def flatB (P : Program) (t : TypeId) : Bool := match P.underlying t with
  | some (.struct _) | some (.array _ _) | none => false
  | _ => true
def aggB (P : Program) (t : TypeId) : Bool := match P.underlying t with
  | some (.struct _) | some (.array _ _) => true
  | _ => false
def sizeIs (P : Program) (t : TypeId) (n : Nat) : Bool := match P.info? t with
  | some i => i.size == n
  | none => false
/-- the offset of a field whose type takes some cells -/
def fieldOff (P : Program) (s : TypeId) (f : Nat) : Option Nat := match P.underlying s with
  | some (.struct fs) => match fs[f]? with
    | some x => match P.info? x.type with
      | some i => if i.size = 0 then none else some x.offset
      | none => none
    | none => none
  | _ => none
def sliceElem (P : Program) (t : TypeId) : Option TypeId := match P.underlying t with
  | some (.slice e) => some e
  | _ => none

section
variable {P : Program} {ρ : Operand → Value} {o : Oper} {w : World} {x y z : Operand} {t u e : TypeId} {k k' : IntKind} {a b : Int}

theorem run_isAgg_flat (h : flatB P t = true) : (isAgg t).run P w = .ok false w := by
  unfold flatB at h
  cases hu : P.underlying t with
  | none => simp [hu] at h
  | some d => rw [hu] at h; cases d <;> simp at h <;> simp [isAgg, run_underlying hu]
theorem run_isAgg_agg (h : aggB P t = true) : (isAgg t).run P w = .ok true w := by
  unfold aggB at h
  cases hu : P.underlying t with
  | none => simp [hu] at h
  | some d => rw [hu] at h; cases d <;> simp at h <;> simp [isAgg, run_underlying hu]
theorem run_sizeOf {n : Nat} (h : sizeIs P t n = true) : (sizeOf t).run P w = .ok n w := by
  unfold sizeIs at h
  cases hi : P.info? t with
  | none => simp [hi] at h
  | some i => rw [hi] at h; simp at h; simp [sizeOf, typeInfo, hi, h]

theorem run_load_cell {p : Addr} {v : Value} (h : w.cell? p = some v) : (load p).run P w = .ok v w := by simp [h]

theorem r_load {p : Addr} {v : Value} (ho : o.op = .load t x) (hx : ρ x = .pointer (some p)) (ht : flatB P t = true) (hc : w.cell? p = some v) : (execOp ρ o).run P w = .ok (.value v) w := by
  simp [execOp, ho, hx, Instr.loadAt, Instr.sureAddr, loadVar, run_isAgg_flat ht, hc, go_sem]

/-- the cells from an address on -/
def CellsAt (w : World) (p : Addr) (vs : List Value) : Prop := ∀ j v, vs[j]? = some v → w.cell? (p.add j) = some v

theorem r_loadAgg {p : Addr} {vs : List Value} (ho : o.op = .load t x) (hx : ρ x = .pointer (some p)) (ht : aggB P t = true) (hn : sizeIs P t vs.length = true) (hc : CellsAt w p vs) : (execOp ρ o).run P w = .ok (.value (.agg vs.toArray)) w := by
  have hl := run_loadCells_list (P := P) w p vs hc
  simp only [loadCells] at hl
  simp [execOp, ho, hx, Instr.loadAt, Instr.sureAddr, loadVar, run_isAgg_agg ht, run_sizeOf hn, hl, go_sem]

theorem r_field {p : Addr} {f n : Nat} (ho : o.op = .fieldAddr t x f) (hx : ρ x = .pointer (some p)) (hf : fieldOff P t f = some n) : (execOp ρ o).run P w = .ok (.value (.pointer (some (p.add n)))) w := by
  unfold fieldOff at hf
  cases hu : P.underlying t with
  | none => simp [hu] at hf
  | some d =>
    rw [hu] at hf
    cases d <;> simp at hf
    rename_i fs
    cases hg : fs[f]? with
    | none => simp [hg] at hf
    | some q =>
      simp [hg] at hf
      cases hi : P.info? q.type with
      | none => simp [hi] at hf
      | some i =>
        simp [hi] at hf
        obtain ⟨h0, h1⟩ := hf
        simp [execOp, ho, hx, Instr.fieldAt, run_underlying hu, hg, Instr.sureAddr, fieldPlace, sizeOf, typeInfo, hi, h0, h1, go_sem]

theorem r_fieldAt {g off f n : Nat} (ho : o.op = .fieldAddr t x f) (hx : ρ x = .pointer (some ⟨g, off, none⟩)) (hf : fieldOff P t f = some n) : (execOp ρ o).run P w = .ok (.value (.pointer (some ⟨g, off + n, none⟩))) w := by
  rw [r_field ho hx hf, Addr.add_lit]
theorem r_field0 {g f n : Nat} (ho : o.op = .fieldAddr t x f) (hx : ρ x = .pointer (some ⟨g, 0, none⟩)) (hf : fieldOff P t f = some n) : (execOp ρ o).run P w = .ok (.value (.pointer (some ⟨g, n, none⟩))) w := by
  rw [r_field ho hx hf, Addr.add_lit, Nat.zero_add]

theorem r_indexAddr {g off len cap sz : Nat} {i : Int} (ho : o.op = .indexAddr t x y) (hx : ρ x = .slice (some ⟨g, off, none⟩) len cap) (hy : ρ y = .int k i) (hu : sliceElem P t = some e) (hz : sizeIs P e sz = true) (h0 : 0 ≤ i) (h1 : i < len) :
    (execOp ρ o).run P w = .ok (.value (.pointer (some ⟨g, off + i.toNat * sz, none⟩))) w := by
  unfold sliceElem at hu
  cases hd : P.underlying t with
  | none => simp [hd] at hu
  | some d =>
    rw [hd] at hu
    cases d <;> simp at hu
    subst hu
    have hadd : (⟨g, off, none⟩ : Addr).add (i.toNat * sz) = ⟨g, off + i.toNat * sz, none⟩ := Addr.add_lit _ _ _
    simp [execOp, ho, hx, hy, Instr.indexAt, run_underlying hd, asIntOf, h0, h1, run_sizeOf hz, hadd, go_sem]

theorem r_lenSlice {A : Option Addr} {len cap : Nat} {ts : Array TypeId} (ho : o.op = .call { callee := .builtin .len, args := #[x], argTypes := #[t] }) (hx : ρ x = .slice A len cap) (hu : sliceElem P t = some e) :
    (execOp ρ o).run P w = .ok (.value (.int .i64 len)) w := by
  unfold sliceElem at hu
  cases hd : P.underlying t with
  | none => simp [hd] at hu
  | some d =>
    rw [hd] at hu
    cases d <;> simp at hu
    simp [execOp, ho, resolve, invoke, builtin, hx, Builtin.len_, run_underlying hd, goInt]

theorem r_lenString {s : ByteArray} (ho : o.op = .call { callee := .builtin .len, args := #[x], argTypes := #[t] }) (hx : ρ x = .string s) (hu : P.underlying t = some .string) :
    (execOp ρ o).run P w = .ok (.value (.int .i64 s.size)) w := by
  simp [execOp, ho, resolve, invoke, builtin, hx, Builtin.len_, run_underlying hu, goInt]

theorem run_store_cell {p : Addr} {v u : Value} (hc : w.cell? p = some u) (hf : w.frozen? p = false) (h1 : v.oneCell' = true) : (store p v).run P w = .ok () (w.setCell p v) := by
  rw [run_store P w p v .plain h1]
  simp [hc, hf]

theorem oneCell_cells {v : Value} (h : v.oneCell' = true) : v.cells = #[v] := by cases v <;> first | rfl | simp [Value.oneCell'] at h

theorem r_store {g off : Nat} {v : Value} {cs : Array Value} {T : TypeId} (ho : o.op = .store t x y) (hx : ρ x = .pointer (some ⟨g, off, none⟩)) (hy : ρ y = v) (hz : sizeIs P t 1 = true) (hb : Blk w g cs T) (hlt : Nat.blt off cs.size = true) (h1 : v.oneCell' = true) :
    (execOp ρ o).run P w = .ok .skip (w.setCell ⟨g, off, none⟩ v) := by
  have hlt' : off < cs.size := Eq.mp Nat.blt_eq hlt
  have hc := hb.cell (o := off) (v := cs[off]) (by simp [hlt'])
  have hf := hb.free off
  have hst := run_store_cell (P := P) hc hf h1
  cases v <;> first
    | (simp [Value.oneCell'] at h1; done)
    | (simp [execOp, ho, hx, hy, Instr.storeAt, Instr.sureAddr, storeVar, run_sizeOf hz, storeCells, Addr.add_zero', hc, hf, go_sem]; done)
    | (simp [execOp, ho, hx, hy, Instr.storeAt, Instr.sureAddr, storeVar, run_sizeOf hz, storeCells, Addr.add_zero', hst, go_sem]; done)

/-- A call of a Go function with a body. -/
def hasBody (P : Program) (f : FuncId) : Bool := match P.funcs[f]? with
  | some fn => !(fn.name == "runtime.NumGoroutine") && fn.body.isSome
  | none => false
theorem run_callFunc_body {f : FuncId} (h : hasBody P f = true) (args : Array Value) : (callFunc f args).run P w = .ok (.enter f args) w := by
  unfold hasBody at h
  cases hf : P.funcs[f]? with
  | none => simp [hf] at h
  | some fn =>
    rw [hf] at h
    simp only [Bool.and_eq_true, Bool.not_eq_true', Option.isSome_iff_exists] at h
    obtain ⟨h1, c, h2⟩ := h
    simp [callFunc, hf, h2] at h1 ⊢
    simp [h1]

theorem r_call {f : FuncId} {xs : Array Operand} {ts : Array TypeId} {args : Array Value} (ho : o.op = .call { callee := .value (.func f), args := xs, argTypes := ts }) (hf : hasBody P f = true) (hρ : ρ (.func f) = .func (.func f) #[] #[]) (hargs : xs.map ρ = args) :
    (execOp ρ o).run P w = .ok (.enter f args) w := by
  simp [execOp, ho, resolve, Deferred.ofValue, hρ, invoke, hargs, run_callFunc_body hf]
end
end Go.Proofs.Ytnjfhmlfpfkllaa

/-
  One operation as a step that goes on behind a continuation; rows that are owned and rows that are read; append, copy, make, slicing.
-/
namespace Go.Proofs.Ytnjfhmlfpfkllaa
open Go
set_option linter.unusedSimpArgs false
set_option linter.unusedVariables false

/-- One operation; K: what is to hold behind it. -/
def SO (P : Program) (N : Nat) (ops : Array Oper) (Q : Exit → Act → World → Prop) (o : Oper) (K : Env → World → Prop) (E : Env) (w : World) : Prop :=
  ∀ K' : Act → World → Prop, (∀ E' w' a', K E' w' → Sat N E' a' → K' a' w') → ∀ a, Sat N E a →
    if Region.wanted o (yielded ops a.tmps) then o.wp P a w K' Q ∨ (o.asks P a w ∧ LetsOut Q) else K' (a.put o.dst undef) w

section
variable {P : Program} {N : Nat} {ops : Array Oper} {Q : Exit → Act → World → Prop} {S : World → Prop} {kind : Nat → Nat} {l : List Oper} {o : Oper} {E : Env} {w w' : World} {d i : Nat} {v : Value} {r : Ord} {K : Env → World → Prop}

theorem WL.cons (h : SO P N ops Q o (WL P N ops Q l) E w) : WL P N ops Q (o :: l) E w := fun a ha => by
  unfold wpList
  exact h (wpList P ops Q l) (fun E' w' a' hK hs => hK a' hs) a ha

theorem WN.step (o : Oper) (hi : ops[i]? = some o) (h : SO P N ops Q o (fun E' w' => Keeps S (kind i) w w' ∧ WN P N ops Q S kind r E' w') E w) : WN P N ops Q S kind (.one i r) E w :=
  WN.one fun K' hK a ha => by
    unfold wpOp
    simp only [hi]
    exact h K' hK a ha

theorem WN.fork {j : Nat} {s : Ord} (o o' : Oper) (hi : ops[i]? = some o) (hj : ops[j]? = some o') (h : SO P N ops Q o (fun E' w' => Keeps S (kind i) w w' ∧ WN P N ops Q S kind r E' w') E w)
    (h' : SO P N ops Q o' (fun E' w' => Keeps S (kind j) w w' ∧ WN P N ops Q S kind s E' w') E w) : WN P N ops Q S kind (.two i j r s) E w :=
  WN.two (fun K' hK a ha => by
    unfold wpOp
    simp only [hi]
    exact h K' hK a ha) (fun K' hK a ha => by
    unfold wpOp
    simp only [hj]
    exact h' K' hK a ha)

theorem SO.val (hd : o.dst = some d) (hN : Nat.blt d N = true) (ho : opsOK E o = true) (hw : wantedE ops E o = some true)
    (hrun : (execOp E.ev o).run P w = .ok (.value v) w') (k : K ((d, v) :: E) w') : SO P N ops Q o K E w := by
  intro K' hK a h
  have hd' : d < N := Eq.mp Nat.blt_eq hN
  rw [if_pos (wantedE_spec h hw)]
  refine .inl ?_
  unfold Oper.wp
  rw [opsOK_exec h ho, hrun, Oper.upon_value, hd]
  exact hK _ _ _ k (h.put hd' v)

theorem SO.eff (hd : o.dst = none) (ho : opsOK E o = true) (hw : wantedE ops E o = some true)
    (hrun : (execOp E.ev o).run P w = .ok .skip w') (k : K E w') : SO P N ops Q o K E w := by
  intro K' hK a h
  rw [if_pos (wantedE_spec h hw)]
  refine .inl ?_
  unfold Oper.wp
  rw [opsOK_exec h ho, hrun, Oper.upon_skip, hd]
  exact hK _ _ _ k h

theorem SO.skip (hd : o.dst = some d) (hN : Nat.blt d N = true) (hw : wantedE ops E o = some false) (k : K ((d, undef) :: E) w) : SO P N ops Q o K E w := by
  intro K' hK a h
  have hd' : d < N := Eq.mp Nat.blt_eq hN
  rw [if_neg (by rw [wantedE_spec h hw]; simp), hd]
  exact hK _ _ _ k (h.put hd' undef)

theorem SO.skip0 (hd : o.dst = none) (hw : wantedE ops E o = some false) (k : K E w) : SO P N ops Q o K E w := by
  intro K' hK a h
  rw [if_neg (by rw [wantedE_spec h hw]; simp), hd]
  exact hK _ _ _ k h

theorem SO.enter {f : FuncId} {args : Array Value} {R : Value → World → Prop} (hd : o.dst = some d) (hN : Nat.blt d N = true) (ho : opsOK E o = true) (hw : wantedE ops E o = some true)
    (hrun : (execOp E.ev o).run P w = .ok (.enter f args) w') (hc : Ret P f args w' R) (k : ∀ v w'', R v w'' → K ((d, v) :: E) w'') : SO P N ops Q o K E w := by
  intro K' hK a h
  have hd' : d < N := Eq.mp Nat.blt_eq hN
  rw [if_pos (wantedE_spec h hw)]
  refine .inl ?_
  unfold Oper.wp
  rw [opsOK_exec h ho, hrun, Oper.upon_enter]
  refine Calls.mono hc ?_
  rintro e w'' ⟨v, rfl, hR⟩
  simp only [hd]
  exact hK _ _ _ (k v w'' hR) (h.put hd' v)

/-- what operands hold -/
def evs (E : Env) : List Operand → List Value → Prop
  | [], [] => True
  | x :: l, v :: vs => Env.ev E x = v ∧ evs E l vs
  | _, _ => False
theorem evs_map {E : Env} : ∀ {l : List Operand} {vs : List Value}, evs E l vs → l.map (Env.ev E) = vs
  | [], [], _ => rfl
  | x :: l, v :: vs, h => by simp [h.1, evs_map h.2]

theorem SO.call {f : FuncId} {xs : List Operand} {ts : Array TypeId} {vs : List Value} {R : Value → World → Prop} (hc : Ret P f vs.toArray w R)
    (hop : o.op = .call { callee := .value (.func f), args := xs.toArray, argTypes := ts }) (hb : hasBody P f = true) (hvs : evs E xs vs)
    (hd : o.dst = some d) (hN : Nat.blt d N = true) (ho : opsOK E o = true) (hw : wantedE ops E o = some true) (k : ∀ v w'', R v w'' → K ((d, v) :: E) w'') : SO P N ops Q o K E w :=
  SO.enter hd hN ho hw (r_call hop hb rfl (by rw [List.map_toArray, evs_map hvs])) hc k

theorem SO.store {x y : Operand} {t : TypeId} {g off : Nat} {cs : Array Value} {T : TypeId} (hop : o.op = .store t x y) (hx : Env.ev E x = .pointer (some ⟨g, off, none⟩)) (hy : Env.ev E y = v) (hz : sizeIs P t 1 = true) (hb : Blk w g cs T)
    (hlt : Nat.blt off cs.size = true) (h1 : v.oneCell' = true) (hd : o.dst = none) (ho : opsOK E o = true) (hw : wantedE ops E o = some true)
    (k : ∀ w', Upd (At g) w w' → Blk w' g (cs.setIfInBounds off v) T → w'.heap.size = w.heap.size → K E w') : SO P N ops Q o K E w :=
  SO.eff hd ho hw (r_store hop hx hy hz hb hlt h1) (k _ (Upd.setCell w ⟨g, off, none⟩ v) (hb.set off v) (World.size_setCell _ _ _))

/-- a new row with what is written out -/
theorem run_buildSlice {e : TypeId} {z : Value} {sz n : Nat} {t : TypeId} {parts : Array (Nat × Value)} {cs : Array Value} (ht : P.underlying t = some (.slice e)) (hz : sizeIs P e sz = true) (hzero : (P.info? e).bind (·.zero) = some z) (hn : n * sz ≤ 16777216)
    (hf : Instr.fill (fun i => some (i * sz, sz)) ((Array.range (n * sz)).map (z.cells[· % z.cells.size]!)) parts.toList = some cs) :
    (Instr.buildSlice t n parts).run P w = .ok (.slice (some ⟨w.heap.size, 0, none⟩) n n) (w.alloc (.cells cs e)) := by
  unfold sizeIs at hz
  cases hi : P.info? e with
  | none => simp [hi] at hz
  | some i =>
    rw [hi] at hz
    simp only [beq_iff_eq] at hz
    subst hz
    simp only [hi, Option.bind_some] at hzero
    by_cases h0 : n * i.size = 0
    · rw [h0] at hf
      simp only [Array.range_zero', Array.map_empty] at hf
      simp [Instr.buildSlice, run_underlying ht, sizeOf, typeInfo, hi, h0, Array.range_zero', hf, newRow]
    · have h2 : ¬ (2 ^ 24 < n * i.size) := by omega
      have h0' : ¬ (n = 0 ∨ i.size = 0) := by rw [← Nat.mul_eq_zero]; exact h0
      simp [Instr.buildSlice, run_underlying ht, sizeOf, typeInfo, hi, h0', h2, zeroValue, hzero, hf, newRow]
      exact fun h => absurd h h0

theorem SO.alloc {cs : Array Value} {T : TypeId} (hd : o.dst = some d) (hN : Nat.blt d N = true) (ho : opsOK E o = true) (hw : wantedE ops E o = some true)
    (hrun : (execOp E.ev o).run P w = .ok (.value v) (w.alloc (.cells cs T)))
    (k : ∀ w', Upd No w w' → Blk w' w.heap.size cs T → w'.heap.size = w.heap.size + 1 → K ((d, v) :: E) w') : SO P N ops Q o K E w :=
  SO.val hd hN ho hw hrun (k _ (Upd.alloc _ _ _) (Blk.alloc_new _ _ _) (World.size_alloc _ _))
end

/-- The type of a slice, its elements', how many cells and bytes these take, and their zero. -/
structure RowT (P : Program) (t e : TypeId) (sz by_ : Nat) (z : Value) : Prop where
  und : P.underlying t = some (.slice e)
  info : (P.info? e).map (fun i => (i.zero, i.size, i.bytes)) = some (some z, sz, by_)
  cells : z.cells.size = sz
  pos : 0 < sz

theorem RowT.parts {P : Program} {t e : TypeId} {sz by_ : Nat} {z : Value} (h : RowT P t e sz by_ z) : ∃ i, P.info? e = some i ∧ i.zero = some z ∧ i.size = sz ∧ i.bytes = by_ := by
  have h1 := h.info
  cases hi : P.info? e with
  | none => rw [hi] at h1; cases h1
  | some i =>
    rw [hi] at h1
    simp only [Option.map_some, Option.some.injEq, Prod.mk.injEq] at h1
    exact ⟨i, rfl, h1.1, h1.2.1, h1.2.2⟩
theorem RowT.sizeIs {P : Program} {t e : TypeId} {sz by_ : Nat} {z : Value} (h : RowT P t e sz by_ z) : sizeIs P e sz = true := by
  obtain ⟨i, hi, _, hs, _⟩ := h.parts
  simp [Go.Proofs.Ytnjfhmlfpfkllaa.sizeIs, hi, hs]

/-- F, and the blocks that are new. -/
def Grow (F : Nat → Prop) (w w' : World) : Nat → Prop := fun k => F k ∨ (w.heap.size ≤ k ∧ k < w'.heap.size)

/-- The blocks that are new. -/
def New (w w' : World) : Nat → Prop := fun k => w.heap.size ≤ k ∧ k < w'.heap.size

/-- The slice value v, of n elements, owns the cells xs; its block is one of F. -/
def Own (w : World) (F : Nat → Prop) (T : TypeId) (sz : Nat) (v : Value) (n : Nat) (xs : List Value) : Prop :=
  w.ownsRow 0 T sz v n xs ∧ ∀ k, v.ownBlock = some k → F k

/-- The slice value v, of n elements, reads as the cells xs; its block is one of F. -/
def Rd (w : World) (F : Nat → Prop) (v : Value) (n sz : Nat) (xs : List Value) : Prop :=
  ∃ A c, v = .slice A n c ∧ n ≤ c ∧ n ≤ 140737488355328 ∧ xs.length = n * sz ∧
    (n ≠ 0 → ∃ b off, A = some ⟨b, off, none⟩ ∧ F b ∧ b < w.heap.size ∧ ∀ j u, xs[j]? = some u → w.cell? ⟨b, off + j, none⟩ = some u)

section
variable {P : Program} {w w' : World} {F F' S : Nat → Prop} {T : TypeId} {sz n : Nat} {v : Value} {xs : List Value}

theorem Own.nil (w : World) (F : Nat → Prop) (T : TypeId) (sz : Nat) : Own w F T sz (.slice none 0 0) 0 [] := ⟨World.ownsRow_nil _ _ _ _, fun k h => by simp [Value.ownBlock] at h⟩
theorem Own.mono (h : Own w F T sz v n xs) (hF : ∀ k, F k → F' k) : Own w F' T sz v n xs := ⟨h.1, fun k hk => hF k (h.2 k hk)⟩
theorem Own.lt (h : Own w F T sz v n xs) : ∀ k, v.ownBlock = some k → k < w.heap.size := fun k hk => (h.1.lt k hk).2
theorem Own.upd (h : Own w F T sz v n xs) (hu : Upd S w w') (hn : ∀ k, F k → k < w.heap.size → ¬ S k) : Own w' F T sz v n xs := by
  refine ⟨⟨h.1.1, ?_⟩, h.2⟩
  rcases h.1.2 with hh | ⟨g, cap, cur, rfl, hb, hg, rest⟩
  · exact .inl hh
  · exact .inr ⟨g, cap, cur, rfl, hb, (hu.block g (Array.getElem?_eq_some_iff.1 hg).1 (hn g (h.2 g rfl) (Array.getElem?_eq_some_iff.1 hg).1)).trans hg, rest⟩
theorem Own.len (h : Own w F T sz v n xs) : xs.length = n * sz := h.1.1
theorem Own.drew (h : Own w F T sz v n xs) : Own w.drew F T sz v n xs := h
theorem Own.form (h : Own w F T sz v n xs) : ∃ A c, v = .slice A n c ∧ n ≤ c := by
  rcases h.1.2 with ⟨rfl, rfl⟩ | ⟨g, cap, cur, rfl, _, _, hc, _⟩
  · exact ⟨_, _, rfl, Nat.le_refl _⟩
  · exact ⟨_, _, rfl, hc⟩
/-- a block that is a row's whole -/
theorem Own.of_blk {b : Nat} {cs : Array Value} (h : Blk w b cs T) (hF : F b) (hn : cs.size = n * sz) (hm : n ≤ maxLen) : Own w F T sz (.slice (some ⟨b, 0, none⟩) n n) n cs.toList := by
  refine ⟨⟨by simp [hn], .inr ⟨b, n, cs, rfl, Nat.zero_le _, h, Nat.le_refl _, hm, hn, ?_⟩⟩, fun k hk => ?_⟩
  · rw [← hn]; exact List.take_of_length_le (by simp)
  · simp [Value.ownBlock] at hk; subst hk; exact hF

theorem Own.rd (h : Own w F T sz v n xs) (hm : n ≤ 140737488355328) : Rd w F v n sz xs := by
  rcases h.1.2 with ⟨rfl, rfl⟩ | ⟨g, cap, cur, rfl, _, hg, hc, _⟩
  · exact ⟨_, _, rfl, Nat.le_refl _, hm, h.1.1, fun h0 => absurd rfl h0⟩
  · refine ⟨_, _, rfl, hc, hm, h.1.1, fun _ => ⟨g, 0, rfl, h.2 g rfl, (Array.getElem?_eq_some_iff.1 hg).1, fun j u hu => ?_⟩⟩
    have := h.1.cells (g := g) rfl j u hu
    rwa [Addr.add_lit] at this

theorem Rd.mono (h : Rd w F v n sz xs) (hF : ∀ k, F k → F' k) : Rd w F' v n sz xs := by
  obtain ⟨A, c, hv, h1, h2, h3, h4⟩ := h
  refine ⟨A, c, hv, h1, h2, h3, fun h0 => ?_⟩
  obtain ⟨b, off, hA, hb, hl, hc⟩ := h4 h0
  exact ⟨b, off, hA, hF b hb, hl, hc⟩
theorem Rd.upd (h : Rd w F v n sz xs) (hu : Upd S w w') (hn : ∀ k, F k → k < w.heap.size → ¬ S k) : Rd w' F v n sz xs := by
  obtain ⟨A, c, hv, h1, h2, h3, h4⟩ := h
  refine ⟨A, c, hv, h1, h2, h3, fun h0 => ?_⟩
  obtain ⟨b, off, hA, hb, hl, hc⟩ := h4 h0
  exact ⟨b, off, hA, hb, Nat.lt_of_lt_of_le hl hu.size, fun j u hj => (cell?_of_eq (hu.block b hl (hn b hb hl)) _ _).trans (hc j u hj)⟩
/-- the footprint lies among the blocks that are there -/
theorem Rd.bound (h : Rd w F v n sz xs) : Rd w (fun k => F k ∧ k < w.heap.size) v n sz xs := by
  obtain ⟨A, c, hv, h1, h2, h3, h4⟩ := h
  refine ⟨A, c, hv, h1, h2, h3, fun h0 => ?_⟩
  obtain ⟨b, off, hA, hb, hl, hc⟩ := h4 h0
  exact ⟨b, off, hA, ⟨hb, hl⟩, hl, hc⟩
theorem Own.bound (h : Own w F T sz v n xs) : Own w (fun k => F k ∧ k < w.heap.size) T sz v n xs := ⟨h.1, fun k hk => ⟨h.2 k hk, (h.1.lt k hk).2⟩⟩
theorem Rd.drew (h : Rd w F v n sz xs) : Rd w.drew F v n sz xs := h
theorem Rd.len (h : Rd w F v n sz xs) : xs.length = n * sz := by obtain ⟨_, _, _, _, _, h, _⟩ := h; exact h
theorem Rd.le (h : Rd w F v n sz xs) : n ≤ 140737488355328 := by obtain ⟨_, _, _, _, h, _⟩ := h; exact h
theorem Rd.nil (w : World) (F : Nat → Prop) (sz : Nat) : Rd w F (.slice none 0 0) 0 sz [] := ⟨_, _, rfl, Nat.le_refl _, by omega, by simp, fun h => absurd rfl h⟩

/-- what append reads -/
theorem Rd.src (h : Rd w F v n sz xs) (hsz : 0 < sz) : (n = 0 ∧ xs = [] ∧ ∃ A c, v = .slice A 0 c) ∨ (∃ ad c, v = .slice (some ad) n c ∧ ∀ j u, xs[j]? = some u → w.cell? (ad.add j) = some u) := by
  obtain ⟨A, c, hv, h1, h2, h3, h4⟩ := h
  by_cases h0 : n = 0
  · subst h0; exact .inl ⟨rfl, List.eq_nil_of_length_eq_zero (by simpa using h3), A, c, hv⟩
  · obtain ⟨b, off, rfl, _, _, hc⟩ := h4 h0
    refine .inr ⟨_, c, hv, fun j u hj => ?_⟩
    rw [Addr.add_lit]; exact hc j u hj

theorem run_append_Own {t e : TypeId} {by_ : Nat} {z : Value} (ht : RowT P t e sz by_ z) (ty : TypeId) {v2 : Value} {m : Nat} {news : List Value} {F2 : Nat → Prop}
    (hown : Own w F e sz v n xs) (hsrc : Rd w F2 v2 m sz news) (h1 : ∀ u ∈ news, u.oneCell' = true) (h63 : n + m ≤ maxLen) (hbytes : (n + m) * by_ ≤ 140737488355328) :
    ∃ v' w', (Builtin.append_ #[t, t] ty #[v, v2]).run P w = .ok v' w' ∧ Own w' (Grow F w w') e sz v' (n + m) (xs ++ news) ∧ Upd F w w' := by
  obtain ⟨i, hi, hz, hs, hb⟩ := ht.parts
  have fin : ∀ {v' w'}, w'.ownsRow 0 e sz v' (n + m) (xs ++ news) → w.grownBy w' v.ownBlock → (v'.ownBlock = v.ownBlock ∨ ∀ k, v'.ownBlock = some k → w.heap.size ≤ k) → Own w' (Grow F w w') e sz v' (n + m) (xs ++ news) ∧ Upd F w w' := by
    intro v' w' h2 h3 h4
    refine ⟨⟨h2, fun k hk => ?_⟩, ⟨h3.os, h3.tape, h3.output, h3.size, fun k hk hn => h3.block k hk fun e => hn (hown.2 k e.symm)⟩⟩
    rcases h4 with h4 | h4
    · exact .inl (hown.2 k (h4 ▸ hk))
    · exact .inr ⟨h4 k hk, (h2.lt k hk).2⟩
  rcases hsrc.src ht.pos with ⟨rfl, rfl, A, c, rfl⟩ | ⟨ad, c, rfl, hcells⟩
  · -- nothing is appended
    refine ⟨v, w, ?_, ?_, Upd.refl _ _⟩
    · obtain ⟨A', c', rfl, hle⟩ := hown.form
      have hA : (Builtin.firstCells i.size 0 (.slice A 0 c)).run P w = .ok #[] w := by
        cases A with
        | none => simp [Builtin.firstCells]
        | some a => simp [Builtin.firstCells, loadCells, loadCellsFrom]
      cases A' with
      | none => simp [Builtin.append_, run_underlying ht.und, sizeOf, typeInfo, hi, Builtin.lenOf, hle, hA]
      | some a => simp [Builtin.append_, run_underlying ht.und, sizeOf, typeInfo, hi, Builtin.lenOf, hle, hA, storeCells]
    · simpa using hown.mono (F' := Grow F w w) (fun k hk => .inl hk)
  · have hl := hsrc.len
    by_cases hnil : v.ownBlock = none
    · have hn0 : v = .slice none 0 0 ∧ n = 0 := by
        rcases hown.1.2 with h | ⟨g, cap, cur, rfl, _⟩
        · exact h
        · simp [Value.ownBlock] at hnil
      obtain ⟨rfl, rfl⟩ := hn0
      have hxs : xs = [] := List.eq_nil_of_length_eq_zero (by simpa using hown.len)
      subst hxs
      obtain ⟨v', w', hr, h2, h3, _⟩ := run_append_own (P := P) w w.heap.size t ty e i z sz by_ ht.und hi hz hs hb ht.cells ht.pos (.slice none 0 0) 0 [] (World.ownsRow_nil _ _ _ _) ad m c news hl hcells h1 h63 hbytes (Nat.le_refl _)
      refine ⟨v', w', hr, fin ⟨h2.1, ?_⟩ h3 (.inr fun k hk => (h2.lt k hk).1)⟩
      rcases h2.2 with h | ⟨g, cap, cur, hv, _, rest⟩
      · exact .inl h
      · exact .inr ⟨g, cap, cur, hv, Nat.zero_le _, rest⟩
    · rcases hown.1.2 with ⟨rfl, _⟩ | ⟨g, cap, cur, hv, hbg, hg, hnc, hcm, hcs, htake⟩
      · simp [Value.ownBlock] at hnil
      · by_cases hroom : n + m ≤ cap
        · obtain ⟨v', w', hr, h2, h3, _⟩ := run_append_own (P := P) w 0 t ty e i z sz by_ ht.und hi hz hs hb ht.cells ht.pos v n xs hown.1 ad m c news hl hcells h1 h63 hbytes (Nat.zero_le _)
          refine ⟨v', w', hr, fin h2 h3 (.inl ?_)⟩
          subst hv
          have hsz : i.size = sz := hs
          have hr2 := run_append_room (P := P) w t ty e i ht.und hi g n cap cur hg ad m c news (by rw [hsz]; exact hl) hcells h1 hroom (by rw [hsz, hl, hcs, ← Nat.add_mul]; exact Nat.mul_le_mul_right _ hroom)
          rw [hr2] at hr
          injection hr with hr _
          subst hr
          rfl
        · subst hv
          obtain ⟨v', w', hr, h2, h3⟩ := run_append_arg_grows (P := P) w t ty e i z sz by_ ht.und hi hz hs hb ht.cells ht.pos ⟨g, 0, none⟩ n cap xs hown.len (fun j u hu => hown.1.cells (g := g) rfl j u hu) ad m c news hl hcells (by omega) h63 hbytes
          refine ⟨v', w', hr, fin ⟨h2.1, ?_⟩ ⟨h3.os, h3.tape, h3.output, h3.size, fun k hk _ => h3.block k hk (by simp)⟩ (.inr fun k hk => (h2.lt k hk).1)⟩
          rcases h2.2 with h | ⟨g, cap, cur, hv, _, rest⟩
          · exact .inl h
          · exact .inr ⟨g, cap, cur, hv, Nat.zero_le _, rest⟩
end

section
variable {P : Program} {N : Nat} {ops : Array Oper} {Q : Exit → Act → World → Prop} {o : Oper} {E : Env} {w : World} {d : Nat} {v v2 : Value} {K : Env → World → Prop} {F F2 : Nat → Prop} {sz n m : Nat} {xs news : List Value}

theorem SO.append {x y : Operand} {t e : TypeId} {by_ : Nat} {z : Value} (hown : Own w F e sz v n xs) (hsrc : Rd w F2 v2 m sz news) (ht : RowT P t e sz by_ z) (h1 : ∀ u ∈ news, u.oneCell' = true) (h63 : n + m ≤ maxLen) (hbytes : (n + m) * by_ ≤ 140737488355328)
    (hop : o.op = .call { callee := .builtin .append, args := #[x, y], argTypes := #[t, t] }) (hx : Env.ev E x = v) (hy : Env.ev E y = v2)
    (hd : o.dst = some d) (hN : Nat.blt d N = true) (ho : opsOK E o = true) (hw : wantedE ops E o = some true)
    (k : ∀ v' w', Own w' (Grow F w w') e sz v' (n + m) (xs ++ news) → Upd F w w' → K ((d, v') :: E) w') : SO P N ops Q o K E w := by
  obtain ⟨v', w', hr, h2, h3⟩ := run_append_Own (P := P) (ty := o.type) ht hown hsrc h1 h63 hbytes
  refine SO.val (v := v') (w' := w') hd hN ho hw ?_ (k v' w' h2 h3)
  unfold execOp
  simp only [hop, resolve, invoke, builtin, Sem.run_bind, Sem.run_pure, Result.andThen_ok, List.map_toArray, List.map_cons, List.map_nil, hx, hy, hr]
end
end Go.Proofs.Ytnjfhmlfpfkllaa

/-
  Entry and return; slicing; strings.
-/
namespace Go.Proofs.Ytnjfhmlfpfkllaa
open Go
set_option linter.unusedSimpArgs false
set_option linter.unusedVariables false

section
variable {P : Program} {N : Nat} {E : Env} {w : World} {fn : Func} {R : Value → World → Prop} {v : Value}

/-- the parameters -/
def argEnv : Nat → List Value → Env
  | _, [] => []
  | i, v :: l => (i, v) :: argEnv (i + 1) l

theorem argEnv_get : ∀ (l : List Value) (i t : Nat) (v : Value), Env.get (argEnv i l) t = some v → i ≤ t ∧ l[t - i]? = some v
  | [], _, _, _, h => by simp [argEnv, Env.get] at h
  | u :: l, i, t, v, h => by
    simp only [argEnv, Env.get] at h
    split at h
    · rename_i hb
      have := Nat.eq_of_beq_eq_true hb
      subst this
      injection h with h
      subst h
      simp
    · rename_i hb
      have := argEnv_get l (i + 1) t v h
      refine ⟨by omega, ?_⟩
      rw [show t - i = (t - (i + 1)) + 1 by omega]
      simpa using this.2

theorem enter {f : FuncId} {c : Code} {vs : List Value} {R : Ending → World → Prop} (hf : P.funcs[f]? = some fn) (hb : fn.body = some c) (hN : fn.ntmps = N) (hle : Nat.ble vs.length N = true)
    (k : WC P N (bodyPost P fn R) c (argEnv 0 vs) w) : Calls P f vs.toArray w R := by
  have hle' : vs.length ≤ N := Nat.le_of_ble_eq_true hle
  refine calls_of_wp hf hb (k _ ⟨by simp [hN]; omega, rfl, fun t v ht => ?_⟩)
  have := (argEnv_get vs 0 t v ht).2
  rw [Nat.sub_zero] at this
  have hlt : t < vs.length := (List.getElem?_eq_some_iff.1 this).1
  rw [Array.getElem?_append_left (by simpa using hlt)]
  simpa using this

theorem enterRet {f : FuncId} {c : Code} {vs : List Value} (hf : P.funcs[f]? = some fn) (hb : fn.body = some c) (hN : fn.ntmps = N) (hle : Nat.ble vs.length N = true)
    (k : WC P N (bodyPost P fn fun e w' => ∃ v, e = .returned v ∧ R v w') c (argEnv 0 vs) w) : Ret P f vs.toArray w R := enter hf hb hN hle k

def resE (E : Env) : List ResultVar → List Value → Prop
  | [], [] => True
  | .tmp t :: l, v :: vs => Env.get E t = some v ∧ resE E l vs
  | _, _ => False

def tupleOf : List Value → Value
  | [v] => v
  | l => .tuple l.toArray

theorem resE_run {a : Act} (h : Sat N E a) : ∀ {l : List ResultVar} {vs : List Value}, resE E l vs →
    (l.mapM (m := Sem) fun r => match r with | .tmp t => pure (a.tmps.getD t undef) | .cell b t => do loadVar t (← asAddr (a.tmps.getD b undef))).run P w = .ok vs w
  | [], [], _ => by simp [go_sem]
  | .tmp t :: l, v :: vs, hr => by
    have h1 := h.vals t v hr.1
    have h2 := resE_run h hr.2
    have h3 : a.tmps[t]?.getD undef = v := by rw [h1]; rfl
    simp only [Array.getD_eq_getD_getElem?] at h2 ⊢
    simp [List.mapM_cons, h2, h3]

theorem results_run {a : Act} (h : Sat N E a) {l : List ResultVar} {vs : List Value} (hl : fn.results = l.toArray) (hr : resE E l vs) : (results fn a.tmps).run P w = .ok (tupleOf vs) w := by
  have h1 := resE_run (P := P) (w := w) h hr
  have hlen : vs.length = l.length := by
    clear h1
    revert vs
    clear hl
    induction l with
    | nil => intro vs hr; cases vs with
      | nil => rfl
      | cons => exact hr.elim
    | cons x l ih => intro vs hr; cases x <;> cases vs <;> first | exact hr.elim | (simp [ih hr.2])
  unfold results
  rw [hl, List.mapM_toArray]
  simp only [Sem.run_bind]
  have h2 : (Sem.run P (List.mapM (m := Sem) (fun x => match x with
    | ResultVar.tmp t => pure (a.tmps[t]?.getD undef)
    | ResultVar.cell b t => do loadVar t (← asAddr (a.tmps[b]?.getD undef))) l) w) = .ok vs w := by
    simpa only [Array.getD_eq_getD_getElem?] using h1
  simp only [Array.getD_eq_getD_getElem?]
  simp
  erw [h2]
  match vs with
  | [] => rfl
  | [v] => rfl
  | a :: b :: r => simp [tupleOf]

theorem WX.retE {l : List ResultVar} {vs : List Value} (hl : fn.results = l.toArray) (hr : resE E l vs) (k : R (tupleOf vs) w) :
    WX N (bodyPost P fn fun e w' => ∃ v, e = .returned v ∧ R v w') .ret E w := fun a h => ⟨h.defers, _, results_run h hl hr, _, rfl, k⟩
theorem WX.retE1 {t : Nat} {v : Value} (hl : fn.results = #[.tmp t]) (hr : Env.get E t = some v) (k : R v w) :
    WX N (bodyPost P fn fun e w' => ∃ v, e = .returned v ∧ R v w') .ret E w := WX.retE (l := [.tmp t]) (vs := [v]) hl ⟨hr, trivial⟩ k
theorem WX.retE2 {t u : Nat} {v v' : Value} (hl : fn.results = #[.tmp t, .tmp u]) (hr : Env.get E t = some v) (hr' : Env.get E u = some v') (k : R (.tuple #[v, v']) w) :
    WX N (bodyPost P fn fun e w' => ∃ v, e = .returned v ∧ R v w') .ret E w := WX.retE (l := [.tmp t, .tmp u]) (vs := [v, v']) hl ⟨hr, hr', trivial⟩ k
theorem le_maxLen {n : Nat} (h : n ≤ 140737488355328) : n ≤ maxLen := by
  have : (140737488355328 : Nat) ≤ maxLen := by decide
  omega
theorem WX.endE {l : List ResultVar} {vs : List Value} (hl : fn.results = l.toArray) (hr : resE E l vs) (k : R (tupleOf vs) w) :
    WX N (bodyPost P fn fun e w' => ∃ v, e = .returned v ∧ R v w') .normal E w := fun a h => ⟨h.defers, _, results_run h hl hr, _, rfl, k⟩
end

section
variable {P : Program} {ρ : Operand → Value} {o : Oper} {w : World} {x y z : Operand} {t u e : TypeId} {k k' : IntKind} {a b : Int} {F : Nat → Prop}

/-- a bound of a slice expression -/
def bnd (ρ : Operand → Value) (x : Option Operand) (dflt r : Nat) : Prop := (x = none ∧ r = dflt) ∨ ∃ y k b, x = some y ∧ ρ y = .int k b ∧ b = (r : Int)
theorem bnd_none {d : Nat} : bnd ρ none d d := .inl ⟨rfl, rfl⟩
theorem bnd_some {d r : Nat} (h : ρ y = .int k b) (hb : b = (r : Int)) : bnd ρ (some y) d r := .inr ⟨y, k, b, rfl, h, hb⟩

def cutA (A : Option Addr) (c l sz : Nat) : Option Addr := if c = l then A else A.map (·.add (l * sz))

theorem run_sliceBound_in {k : IntKind} {b : Int} {r y : Nat} {code : BoundsCode} (hb : b = (r : Int)) (hr : r ≤ y) : (Instr.sliceBound (.int k b) y code).run P w = .ok r w := by
  subst hb
  simp [Instr.sliceBound, asIntOf, hr]

theorem r_slice {A : Option Addr} {n c l h sz : Nat} {lo hi : Option Operand} (ho : o.op = .slice t x lo hi none) (hx : ρ x = .slice A n c) (hu : sliceElem P t = some e) (hz : sizeIs P e sz = true)
    (hlo : bnd ρ lo 0 l) (hhi : bnd ρ hi n h) (h1 : l ≤ h) (h2 : h ≤ n) (h3 : n ≤ c) : (execOp ρ o).run P w = .ok (.value (.slice (cutA A c l sz) (h - l) (c - l))) w := by
  unfold sliceElem at hu
  cases hd : P.underlying t with
  | none => simp [hd] at hu
  | some d =>
    rw [hd] at hu
    cases d <;> simp at hu
    subst hu
    have hc : h ≤ c := by omega
    have hsz := run_sizeOf (P := P) (w := w) hz
    unfold cutA
    rcases hlo with ⟨rfl, rfl⟩ | ⟨y1, k1, b1, rfl, hy1, hb1⟩ <;> rcases hhi with ⟨rfl, rfl⟩ | ⟨y2, k2, b2, rfl, hy2, hb2⟩
    · simp [execOp, ho, hx, Instr.sliceAt, Instr.slice, run_underlying hd, Instr.sliceBounds, hsz]
    · simp [execOp, ho, hx, hy2, Instr.sliceAt, Instr.slice, run_underlying hd, Instr.sliceBounds, hsz, run_sliceBound_in hb2 hc]
    · simp [execOp, ho, hx, hy1, Instr.sliceAt, Instr.slice, run_underlying hd, Instr.sliceBounds, hsz, run_sliceBound_in hb1 h1]
    · simp [execOp, ho, hx, hy1, hy2, Instr.sliceAt, Instr.slice, run_underlying hd, Instr.sliceBounds, hsz, run_sliceBound_in hb1 h1, run_sliceBound_in hb2 hc]

theorem Rd.slice {A : Option Addr} {n c l h sz : Nat} {xs : List Value} (hr : Rd w F (.slice A n c) n sz xs) (h1 : l ≤ h) (h2 : h ≤ n) : Rd w F (.slice (cutA A c l sz) (h - l) (c - l)) (h - l) sz ((xs.drop (l * sz)).take ((h - l) * sz)) := by
  obtain ⟨A', c', hv, hc, hm, hl, hcell⟩ := hr
  injection hv with hA hn hc'
  subst hA hc'
  refine ⟨_, _, rfl, by omega, by omega, ?_, fun h0 => ?_⟩
  · rw [List.length_take, List.length_drop, hl, Nat.sub_mul]
    have : h * sz ≤ n * sz := Nat.mul_le_mul_right _ h2
    omega
  · obtain ⟨b, off, rfl, hF, hlt, hcl⟩ := hcell (by omega)
    refine ⟨b, off + l * sz, ?_, hF, hlt, fun j u hu => ?_⟩
    · unfold cutA
      rw [if_neg (by omega)]
      simp [Addr.add_lit]
    · rw [List.getElem?_take] at hu
      split at hu
      · rw [List.getElem?_drop] at hu
        rw [Nat.add_assoc]
        exact hcl _ u hu
      · cases hu

theorem Rd.open {A : Option Addr} {n c sz : Nat} {xs : List Value} (hr : Rd w F (.slice A n c) n sz xs) (h0 : 0 < n) : ∃ b off, A = some ⟨b, off, none⟩ ∧ F b ∧ b < w.heap.size ∧ ∀ j u, xs[j]? = some u → w.cell? ⟨b, off + j, none⟩ = some u := by
  obtain ⟨A', c', hv, hc, hm, hl, hcell⟩ := hr
  injection hv with hA hn hc'
  subst hA
  exact hcell (by omega)
theorem Rd.cap {A : Option Addr} {n c sz : Nat} {xs : List Value} (hr : Rd w F (.slice A n c) n sz xs) : n ≤ c := by
  obtain ⟨A', c', hv, hc, _⟩ := hr
  injection hv with hA hn hc'
  subst hc'
  exact hc
theorem Rd.cell {b off n c sz q j : Nat} {xs : List Value} {u : Value} (hr : Rd w F (.slice (some ⟨b, off, none⟩) n c) n sz xs) (hq : q = off + j) (hu : xs[j]? = some u) : w.cell? ⟨b, q, none⟩ = some u := by
  subst hq
  obtain ⟨A', c', hv, hc, hm, hl, hcell⟩ := hr
  injection hv with hA hn hc'
  subst hA
  have h0 : n ≠ 0 := fun e => by
    subst e
    have : xs = [] := List.eq_nil_of_length_eq_zero (by simpa using hl)
    subst this
    simp at hu
  obtain ⟨b', off', hA, _, _, hcl⟩ := hcell h0
  injection hA with hA
  injection hA with hA1 hA2
  subst hA1 hA2
  exact hcl j u hu
theorem Rd.slice_form {v : Value} {n sz : Nat} {xs : List Value} (hr : Rd w F v n sz xs) : ∃ A c, v = .slice A n c ∧ n ≤ c := by
  obtain ⟨A, c, hv, hc, _⟩ := hr
  exact ⟨A, c, hv, hc⟩

theorem r_extract {vs : Array Value} {i : Nat} {v : Value} (ho : o.op = .extract x i) (hx : ρ x = .tuple vs) (hv : vs[i]? = some v) : (execOp ρ o).run P w = .ok (.value v) w := by
  simp [execOp, ho, hx, Instr.extract, hv]

/-- bytes -/
def U8 (c : UInt8) : Value := .int .u8 (c.toNat : Int)
theorem U8_one (l : List UInt8) : ∀ u ∈ l.map U8, u.oneCell' = true := fun u hu => by
  obtain ⟨c, _, rfl⟩ := List.mem_map.1 hu
  rfl
theorem U8_inj {a b : UInt8} (h : U8 a = U8 b) : a = b := by
  unfold U8 at h
  injection h with _ h
  exact UInt8.toNat_inj.1 (by omega)
theorem map_U8_inj : ∀ {a b : List UInt8}, a.map U8 = b.map U8 → a = b
  | [], [], _ => rfl
  | [], _ :: _, h => by simp at h
  | _ :: _, [], h => by simp at h
  | x :: a, y :: b, h => by
    simp only [List.map_cons, List.cons.injEq] at h
    rw [U8_inj h.1, map_U8_inj h.2]
theorem Rd.sliceB {A : Option Addr} {n c lo h : Nat} {l : List UInt8} (hr : Rd w F (.slice A n c) n 1 (l.map U8)) (h1 : lo ≤ h) (h2 : h ≤ n) : Rd w F (.slice (cutA A c lo 1) (h - lo) (c - lo)) (h - lo) 1 (((l.drop lo).take (h - lo)).map U8) := by
  have := hr.slice (l := lo) (h := h) h1 h2
  simpa using this
theorem Rd.lenB {v : Value} {n : Nat} {l : List UInt8} (h : Rd w F v n 1 (l.map U8)) : l.length = n := by
  have := h.len
  simpa using this
theorem Rd.of_blk {b n sz : Nat} {cs : Array Value} {T : TypeId} (h : Blk w b cs T) (hF : F b) (hn : cs.size = n * sz) (hm : n ≤ 140737488355328) : Rd w F (.slice (some ⟨b, 0, none⟩) n n) n sz cs.toList :=
  ⟨_, _, rfl, Nat.le_refl _, hm, by simpa using hn, fun _ => ⟨b, 0, rfl, hF, h.lt, fun j u hu => by
    rw [Nat.zero_add]
    exact h.cell (by simpa using hu)⟩⟩
theorem oneCell_one {v : Value} (h : v.oneCell' = true) : ∀ u ∈ (#[v] : Array Value).toList, u.oneCell' = true := fun u hu => by
  simp at hu
  subst hu
  exact h
theorem Grow.trans {F : Nat → Prop} {w w1 w2 : World} (h : w.heap.size ≤ w1.heap.size) (h' : w1.heap.size ≤ w2.heap.size) {k : Nat} (hk : Grow (Grow F w w1) w1 w2 k) : Grow F w w2 k := by
  rcases hk with (hk | hk) | hk
  · exact .inl hk
  · exact .inr ⟨hk.1, by omega⟩
  · exact .inr ⟨by omega, hk.2⟩
theorem Grow.le {F : Nat → Prop} {w w1 w2 : World} (h' : w1.heap.size ≤ w2.heap.size) {k : Nat} (hk : Grow F w w1 k) : Grow F w w2 k := by
  rcases hk with hk | hk
  · exact .inl hk
  · exact .inr ⟨hk.1, by omega⟩
theorem Grow.old {F : Nat → Prop} {w w' : World} {g : Nat} (hg : g < w.heap.size) (hF : ¬ F g) : ¬ Grow F w w' g := fun h => by
  rcases h with h | h
  · exact hF h
  · omega
end
theorem Upd.fresh {S : Nat → Prop} {w w1 w2 : World} (h : Upd No w w1) (h' : Upd S w1 w2) (hS : ∀ k, S k → w.heap.size ≤ k) : Upd No w w2 := h.trans h' fun k hk hk' => by
  have := hS k hk'
  omega
theorem mk_toList (l : List UInt8) : (ByteArray.mk l.toArray).toList = l := by simp [ByteArray.toList_eq]
end Go.Proofs.Ytnjfhmlfpfkllaa

/-
  More operations: slices against nil, strings, bytes and strings, literals in memory.
-/
namespace Go.Proofs.Ytnjfhmlfpfkllaa
open Go
set_option linter.unusedSimpArgs false
set_option linter.unusedVariables false

section
variable {P : Program} {ρ : Operand → Value} {o : Oper} {w : World} {x y z : Operand} {t u e : TypeId} {k k' : IntKind} {a b : Int} {F : Nat → Prop}

theorem sliceElem_und (h : sliceElem P t = some e) : P.underlying t = some (.slice e) := by
  unfold sliceElem at h
  cases hd : P.underlying t with
  | none => simp [hd] at h
  | some d => rw [hd] at h; cases d <;> simp at h; subst h; rfl

theorem run_binop_eql_slice_nil {A : Option Addr} {n c : Nat} (h : P.underlying t = some (.slice e)) : (binOp .eql t (.slice A n c) (.slice none 0 0)).run P w = .ok (.bool A.isNone) w := by
  simp only [binOp, Sem.run_bind, run_equal_slice_nil w t e A n c h, Result.andThen_ok, Sem.run_pure]
theorem run_binop_neq_slice_nil {A : Option Addr} {n c : Nat} (h : P.underlying t = some (.slice e)) : (binOp .neq t (.slice A n c) (.slice none 0 0)).run P w = .ok (.bool (!A.isNone)) w := by
  simp only [binOp, Sem.run_bind, run_equal_slice_nil w t e A n c h, Result.andThen_ok, Sem.run_pure]

theorem r_eqlSliceNil {A : Option Addr} {n c : Nat} (ho : o.op = .binOp .eql t x y u) (hx : ρ x = .slice A n c) (hy : ρ y = .slice none 0 0) (h : sliceElem P t = some e) : (execOp ρ o).run P w = .ok (.value (.bool A.isNone)) w := by
  have h1 := run_binop_eql_slice_nil (w := w) (A := A) (n := n) (c := c) (sliceElem_und h)
  simp [execOp, ho, hx, hy, h1, eqGuard]
theorem r_neqSliceNil {A : Option Addr} {n c : Nat} (ho : o.op = .binOp .neq t x y u) (hx : ρ x = .slice A n c) (hy : ρ y = .slice none 0 0) (h : sliceElem P t = some e) : (execOp ρ o).run P w = .ok (.value (.bool (!A.isNone))) w := by
  have h1 := run_binop_neq_slice_nil (w := w) (A := A) (n := n) (c := c) (sliceElem_und h)
  simp [execOp, ho, hx, hy, h1, eqGuard]

theorem r_eqlStr {s s' : ByteArray} (ho : o.op = .binOp .eql t x y u) (hx : ρ x = .string s) (hy : ρ y = .string s') : (execOp ρ o).run P w = .ok (.value (.bool (decide (s.toList = s'.toList)))) w := by
  simp [execOp, ho, hx, hy, go_sem]; rw [Bool.eq_iff_iff]; simp
theorem r_neqStr {s s' : ByteArray} (ho : o.op = .binOp .neq t x y u) (hx : ρ x = .string s) (hy : ρ y = .string s') : (execOp ρ o).run P w = .ok (.value (.bool (decide (s.toList ≠ s'.toList)))) w := by
  simp [execOp, ho, hx, hy, go_sem]; rw [Bool.eq_iff_iff]; simp
theorem r_lssStr {s s' : ByteArray} (ho : o.op = .binOp .lss t x y u) (hx : ρ x = .string s) (hy : ρ y = .string s') : (execOp ρ o).run P w = .ok (.value (.bool (Op.bytesLess s.toList s'.toList))) w := by
  simp [execOp, ho, hx, hy, go_sem]
theorem r_addStr {s s' : ByteArray} (ho : o.op = .binOp .add t x y u) (hx : ρ x = .string s) (hy : ρ y = .string s') (h : s.size + s'.size ≤ 9223372036854775807) : (execOp ρ o).run P w = .ok (.value (.string (s ++ s'))) w := by
  have h1 := run_string_add_sum (P := P) w s s' h
  simp [execOp, ho, hx, hy, binOp, h1, go_sem]

theorem r_com (ho : o.op = .unOp .xor t x) (hx : ρ x = .int k a) : (execOp ρ o).run P w = .ok (.value (.int k (bits .xor k (if k.signed = true then -1 else k.max) a))) w := by
  simp [execOp, ho, hx, Op.unary, go_sem]

theorem r_eqlBool {c d : Bool} (ho : o.op = .binOp .eql t x y u) (hx : ρ x = .bool c) (hy : ρ y = .bool d) (h : P.underlying t = some .bool) : (execOp ρ o).run P w = .ok (.value (.bool (c == d))) w := by
  have h1 := run_eql_bool (P := P) w t c d h
  simp [execOp, ho, hx, hy, h1, eqGuard]
theorem r_neqBool {c d : Bool} (ho : o.op = .binOp .neq t x y u) (hx : ρ x = .bool c) (hy : ρ y = .bool d) (h : P.underlying t = some .bool) : (execOp ρ o).run P w = .ok (.value (.bool (!(c == d)))) w := by
  have h1 : (Op.equal t (.bool c) (.bool d)).run P w = .ok (c == d) w := by
    simp only [Op.equal, Op.maxDepth]
    exact run_equalIn_bool' _ _ _ _ _ h
  simp [execOp, ho, hx, hy, binOp, h1, eqGuard]

/-- bytes as a string -/
theorem r_toStr {v : Value} {n : Nat} {l : List UInt8} (ho : o.op = .convert t u x) (hx : ρ x = v) (hr : Rd w F v n 1 (l.map U8)) (hs : sliceElem P t = some e) (he : P.underlying e = some (.int .u8)) (hd : P.underlying u = some .string) :
    (execOp ρ o).run P w = .ok (.value (.string ⟨l.toArray⟩)) w := by
  have hs' := sliceElem_und hs
  · obtain ⟨A, c, rfl, hc, hm, hl, hcell⟩ := hr
    rw [List.length_map, Nat.mul_one] at hl
    subst hl
    suffices h : (convert t u (.slice A l.length c)).run P w = .ok (.string ⟨l.toArray⟩) w by
      simp [execOp, ho, hx, h]
    by_cases h0 : l.length = 0
    · have : l = [] := List.eq_nil_of_length_eq_zero h0
      subst this
      show (convert t u (.slice A 0 c)).run P w = _
      rw [run_convert_bytes_string w t u e A 0 c hs' he hd]
      cases A with
      | none => rfl
      | some p => simp [Conv.bytesToString, loadCells, loadCellsFrom]; rfl
    · obtain ⟨b, off, rfl, _, _, hcl⟩ := hcell h0
      refine run_convert_bytes_back w t u e _ c l hs' he hd fun j hj => ?_
      rw [Addr.add_lit]
      exact hcl j _ (by simp [hj, U8])
end

section
variable {P : Program} {N : Nat} {ops : Array Oper} {Q : Exit → Act → World → Prop} {o : Oper} {E : Env} {w : World} {d : Nat} {v : Value} {K : Env → World → Prop} {F : Nat → Prop}

/-- where a struct's fields stand: offset and cells -/
def placesOf (P : Program) (t : TypeId) : Option (List (Nat × Nat)) :=
  match P.underlying t with
  | some (.struct fs) => fs.toList.mapM fun f => (P.info? f.type).map fun q => (f.offset, q.size)
  | _ => none
def zeroOf (P : Program) (t : TypeId) : Option Value := (P.info? t).bind (·.zero)
/-- an array's elements -/
def arrayOf (P : Program) (t : TypeId) : Option Nat :=
  match P.underlying t with
  | some (.array _ el) => (P.info? el).map (·.size)
  | _ => none

theorem run_mapM_list {α β : Type} {f : α → Sem β} {g : α → β} : ∀ (l : List α), (∀ x ∈ l, ∀ w, (f x).run P w = .ok (g x) w) → ∀ w, (l.mapM f).run P w = .ok (l.map g) w
  | [], _, w => by simp
  | x :: l, h, w => by
    have h1 := h x (by simp) w
    have h2 := run_mapM_list l (fun y hy => h y (by simp [hy])) w
    simp [List.mapM_cons, h1, h2]

theorem run_zeroValue {t : TypeId} {z : Value} (hz : zeroOf P t = some z) : (zeroValue t).run P w = .ok z w := by
  unfold zeroOf at hz
  cases hi : P.info? t with
  | none => simp [hi] at hz
  | some i => simp only [hi, Option.bind_some] at hz; simp [zeroValue, typeInfo, hi, hz]

theorem mapM_option {α β : Type} {f : α → Option β} : ∀ {l : List α} {r : List β}, l.mapM f = some r → r.length = l.length ∧ ∀ i : Nat, ∀ x, l[i]? = some x → f x = r[i]?
  | [], r, h => by simp at h; subst h; simp
  | a :: l, r, h => by
    simp only [List.mapM_cons, Option.bind_eq_bind, Option.bind_eq_some_iff] at h
    obtain ⟨b, hb, r', hr, h⟩ := h
    simp only [Option.pure_def, Option.some.injEq] at h
    subst h
    have := mapM_option hr
    refine ⟨by simp [this.1], fun i x hx => ?_⟩
    cases i with
    | zero => simp at hx; subst hx; simpa using hb
    | succ i => simpa using this.2 i x (by simpa using hx)

theorem run_build {t : TypeId} {parts : Array (Nat × Value)} {pl : List (Nat × Nat)} {z : Value} {cs : Array Value} (hp : placesOf P t = some pl) (hz : zeroOf P t = some z) (hb : Instr.fill (fun i => pl[i]?) z.cells parts.toList = some cs) :
    (Instr.build t parts).run P w = .ok (.agg cs) w := by
  unfold placesOf at hp
  cases hu : P.underlying t with
  | none => simp [hu] at hp
  | some d =>
    rw [hu] at hp
    cases d <;> simp at hp
    rename_i fs
    have hpl := mapM_option hp
    have hok' : ∀ f ∈ fs.toList, (P.info? f.type).isSome = true := fun f hf => by
      obtain ⟨i, hi, he⟩ := List.getElem_of_mem hf
      have h1 := hpl.2 i f (by rw [List.getElem?_eq_getElem hi, he])
      rw [List.getElem?_eq_getElem (by rw [hpl.1]; exact hi)] at h1
      cases hq : P.info? f.type with
      | none => simp [hq] at h1
      | some q => rfl
    have hm : (fs.mapM (m := Sem) fun f => do pure (f.offset, ← sizeOf f.type)).run P w = .ok (fs.map fun f => (f.offset, ((P.info? f.type).map (·.size)).getD 0)) w := by
      have h1 := run_mapM_list (P := P) (f := fun f : Field => do pure (f.offset, ← sizeOf f.type)) (g := fun f => (f.offset, ((P.info? f.type).map (·.size)).getD 0)) fs.toList (fun f hf w => by
        have := hok' f hf
        obtain ⟨q, hq⟩ := Option.isSome_iff_exists.1 this
        simp [sizeOf, typeInfo, hq]) w
      rw [Array.mapM_eq_mapM_toList]
      simp only [Sem.run_map, h1]
      simp only [Result.andThen_ok]
      exact congrArg (fun q => Result.ok q w) (Array.ext' (by simp))
    have hf : (fun (i : Nat) => (fs.map fun (f : Field) => (f.offset, ((P.info? f.type).map (·.size)).getD 0))[i]?) = (fun i => pl[i]?) := by
      funext i
      rw [Array.getElem?_map]
      cases hg : fs[i]? with
      | none =>
        have : pl.length ≤ i := by rw [hpl.1]; simpa using hg
        rw [List.getElem?_eq_none this]; rfl
      | some f =>
        have h1 := hpl.2 i f (by simpa using hg)
        rw [← h1]
        have : f ∈ fs.toList := by rw [Array.mem_toList_iff]; exact Array.mem_of_getElem? hg
        obtain ⟨q, hq⟩ := Option.isSome_iff_exists.1 (hok' f this)
        simp [hq]
    simp only [Instr.build, Sem.run_bind, run_zeroValue hz, Result.andThen_ok, run_underlying hu, hm, hf]
    simp only [hb]
    rfl

theorem run_buildA {t : TypeId} {parts : Array (Nat × Value)} {sz : Nat} {z : Value} {cs : Array Value} (hp : arrayOf P t = some sz) (hz : zeroOf P t = some z) (hb : Instr.fill (fun i => some (i * sz, sz)) z.cells parts.toList = some cs) :
    (Instr.build t parts).run P w = .ok (.agg cs) w := by
  unfold arrayOf at hp
  cases hu : P.underlying t with
  | none => simp [hu] at hp
  | some d =>
    rw [hu] at hp
    cases d <;> simp at hp
    obtain ⟨q, hq, rfl⟩ := hp
    simp [Instr.build, run_underlying hu, run_zeroValue hz, sizeOf, typeInfo, hq, hb]

def evps (E : Env) : List (Nat × Operand) → List (Nat × Value) → Prop
  | [], [] => True
  | (i, x) :: l, (j, v) :: vs => (i = j ∧ Env.ev E x = v) ∧ evps E l vs
  | _, _ => False
theorem evps_map {E : Env} : ∀ {l : List (Nat × Operand)} {vs : List (Nat × Value)}, evps E l vs → l.map (fun p => (p.1, Env.ev E p.2)) = vs
  | [], [], _ => rfl
  | (i, x) :: l, (j, v) :: vs, h => by simp [h.1.1, h.1.2, evps_map h.2]

theorem r_build {t : TypeId} {ps : Array (Nat × Operand)} {vs : List (Nat × Value)} {pl : List (Nat × Nat)} {z : Value} {cs : Array Value} (ho : o.op = .build t ps) (hv : evps E ps.toList vs) (hp : placesOf P t = some pl) (hz : zeroOf P t = some z) (hb : Instr.fill (fun i => pl[i]?) z.cells vs = some cs) :
    (execOp (Env.ev E) o).run P w = .ok (.value (.agg cs)) w := by
  have h1 : (ps.map fun (p : Nat × Operand) => (p.1, Env.ev E p.2)).toList = vs := by rw [← evps_map hv]; simp
  have h2 := run_build (P := P) (w := w) (parts := ps.map fun (p : Nat × Operand) => (p.1, Env.ev E p.2)) hp hz (by rw [h1]; exact hb)
  simp only [execOp, ho, Sem.run_bind, h2, Result.andThen_ok, Sem.run_pure]
theorem r_buildA {t : TypeId} {ps : Array (Nat × Operand)} {vs : List (Nat × Value)} {sz : Nat} {z : Value} {cs : Array Value} (ho : o.op = .build t ps) (hv : evps E ps.toList vs) (hp : arrayOf P t = some sz) (hz : zeroOf P t = some z) (hb : Instr.fill (fun i => some (i * sz, sz)) z.cells vs = some cs) :
    (execOp (Env.ev E) o).run P w = .ok (.value (.agg cs)) w := by
  have h1 : (ps.map fun (p : Nat × Operand) => (p.1, Env.ev E p.2)).toList = vs := by rw [← evps_map hv]; simp
  have h2 := run_buildA (P := P) (w := w) (parts := ps.map fun (p : Nat × Operand) => (p.1, Env.ev E p.2)) hp hz (by rw [h1]; exact hb)
  simp only [execOp, ho, Sem.run_bind, h2, Result.andThen_ok, Sem.run_pure]

/-- a new row of values that are written out -/
def rowCells (z : Value) (n : Nat) : Array Value := (List.replicate n z.cells.toList).flatten.toArray
theorem rowCells_eq (z : Value) (n sz : Nat) (hz : z.cells.size = sz) (h0 : 0 < sz) : (Array.range (n * sz)).map (z.cells[· % z.cells.size]!) = rowCells z n := by
  apply Array.ext
  · simp [rowCells, hz, List.length_flatten, List.map_replicate, List.sum_replicate_nat]
  · intro i h1 h2
    simp at h1
    simp only [Array.getElem_map, Array.getElem_range, rowCells, List.getElem_toArray]
    have hlt : i % z.cells.size < z.cells.size := Nat.mod_lt _ (by omega)
    rw [getElem!_pos z.cells (i % z.cells.size) hlt]
    have key : ∀ (n i : Nat) (h : i < (List.replicate n z.cells.toList).flatten.length), (List.replicate n z.cells.toList).flatten[i] = z.cells[i % z.cells.size]'(Nat.mod_lt _ (by omega)) := by
      intro n
      induction n with
      | zero => intro i h; simp at h
      | succ n ih =>
        intro i h
        simp only [List.replicate_succ, List.flatten_cons]
        rw [List.getElem_append]
        split
        · rename_i h3
          simp only [Array.getElem_toList]
          congr 1
          exact (Nat.mod_eq_of_lt (by simpa using h3)).symm
        · rename_i h3
          rw [ih]
          congr 1
          simp at h3 ⊢
          rw [← Nat.mod_eq_sub_mod h3]
    exact (key n i (by simpa [rowCells] using h2)).symm

theorem r_buildSlice {t e : TypeId} {by_ sz n : Nat} {z : Value} {ps : Array (Nat × Operand)} {vs : List (Nat × Value)} {cs : Array Value} (ho : o.op = .buildSlice t n ps) (hv : evps E ps.toList vs) (hr : RowT P t e sz by_ z) (hn : Nat.ble (n * sz) 16777216 = true)
    (hb : Instr.fill (fun i => some (i * sz, sz)) (rowCells z n) vs = some cs) : (execOp (Env.ev E) o).run P w = .ok (.value (.slice (some ⟨w.heap.size, 0, none⟩) n n)) (w.alloc (.cells cs e)) := by
  have h1 : (ps.map fun (p : Nat × Operand) => (p.1, Env.ev E p.2)).toList = vs := by rw [← evps_map hv]; simp
  obtain ⟨i, hi, hz, _, _⟩ := hr.parts
  have h2 := run_buildSlice (P := P) (w := w) (z := z) (n := n) (parts := ps.map fun (p : Nat × Operand) => (p.1, Env.ev E p.2)) hr.und hr.sizeIs (by simp [hi, hz]) (Nat.le_of_ble_eq_true hn) (by rw [rowCells_eq z n sz hr.cells hr.pos, h1]; exact hb)
  simp only [execOp, ho, Sem.run_bind, h2, Result.andThen_ok, Sem.run_pure]

theorem fill_one : ∀ (vs : List Value) (i : Nat) (cells : Array Value), (∀ v ∈ vs, v.oneCell' = true) → i + vs.length ≤ cells.size →
    Instr.fill (fun i => some (i * 1, 1)) cells (vs.zipIdx i |>.map fun p => (p.2, p.1)) = some (cells.toList.take i ++ vs ++ cells.toList.drop (i + vs.length)).toArray
  | [], i, cells, _, _ => by simp [Instr.fill]
  | v :: vs, i, cells, h, hl => by
    have hv := oneCell_cells (h v (by simp))
    simp only [List.length_cons] at hl
    have hi : i < cells.size := by omega
    have ih := fill_one vs (i + 1) (cells.setIfInBounds i v) (fun u hu => h u (by simp [hu])) (by simp; omega)
    simp only [List.zipIdx_cons, List.map_cons, Instr.fill, hv]
    have h1 : ¬ (1 ≠ 1 || decide (i * 1 + 1 > cells.size)) = true := by simp; omega
    simp only [List.size_toArray, List.length_cons, List.length_nil, Nat.zero_add]
    rw [if_neg h1]
    have h2 : (#[v].zipIdx.foldl (fun cs (x : Value × Nat) => cs.setIfInBounds (i * 1 + x.2) x.1) cells) = cells.setIfInBounds i v := by simp
    rw [h2, ih]
    congr 2
    simp only [Array.toList_setIfInBounds]
    rw [List.drop_set_of_lt (by omega), show i + 1 + vs.length = i + (vs.length + 1) by omega]
    have h3 : (cells.toList.set i v).take (i + 1) = cells.toList.take i ++ [v] := by
      rw [List.take_succ_eq_append_getElem (by simpa using hi)]
      simp [List.take_set_of_le]
    rw [h3]
    simp

/-- one-cell elements, all written out -/
theorem r_buildSlice1 {t e : TypeId} {by_ n : Nat} {z : Value} {ps : Array (Nat × Operand)} {vs : List Value} (ho : o.op = .buildSlice t n ps) (hv : evs E (ps.toList.map (·.2)) vs) (hi : ps.toList.map (·.1) = List.range n) (hr : RowT P t e 1 by_ z) (hn : Nat.ble n 16777216 = true)
    (h1 : vs.all Value.oneCell' = true) : (execOp (Env.ev E) o).run P w = .ok (.value (.slice (some ⟨w.heap.size, 0, none⟩) n n)) (w.alloc (.cells vs.toArray e)) := by
  have hl : vs.length = n := by
    have h2 := congrArg List.length (evs_map hv)
    have h3 := congrArg List.length hi
    simp at h2 h3
    omega
  have hps : (ps.map fun (p : Nat × Operand) => (p.1, Env.ev E p.2)).toList = (vs.zipIdx 0 |>.map fun p => (p.2, p.1)) := by
    apply List.ext_getElem?
    intro i
    have h2 := evs_map hv
    simp only [Array.toList_map, List.getElem?_map, List.getElem?_zipIdx]
    have h3 : vs[i]? = (ps.toList[i]?).map (fun p => Env.ev E p.2) := by rw [← h2]; simp [Function.comp_def]
    have h4 : (ps.toList[i]?).map (·.1) = (List.range n)[i]? := by rw [← hi]; simp
    cases hp : ps.toList[i]? with
    | none => rw [hp] at h3; simp at h3; simp [h3]
    | some p =>
      rw [hp] at h3 h4
      simp only [Option.map_some] at h3 h4
      have h5 : i < n := by
        rcases Nat.lt_or_ge i n with h | h
        · exact h
        · rw [List.getElem?_eq_none (by simpa using h)] at h4; cases h4
      rw [List.getElem?_range h5] at h4
      injection h4 with h4
      simp [h3, h4]
  obtain ⟨i, hi', hz, _, _⟩ := hr.parts
  have hfill := fill_one vs 0 (rowCells z n) (fun v hv => List.all_eq_true.1 h1 v hv) (by
    have hzc := hr.cells
    simp [rowCells, hzc, List.length_flatten, List.map_replicate, List.sum_replicate_nat, hl])
  have hb : Instr.fill (fun i => some (i * 1, 1)) (rowCells z n) (ps.map fun (p : Nat × Operand) => (p.1, Env.ev E p.2)).toList = some vs.toArray := by
    rw [hps, hfill]
    have hzc := hr.cells
    have : (rowCells z n).toList.drop (0 + vs.length) = [] := List.drop_eq_nil_of_le (by simp [rowCells, hzc, List.length_flatten, List.map_replicate, List.sum_replicate_nat, hl])
    rw [this]
    simp
  have h2 := run_buildSlice (P := P) (w := w) (z := z) (n := n) (sz := 1) (parts := ps.map fun (p : Nat × Operand) => (p.1, Env.ev E p.2)) hr.und hr.sizeIs (by simp [hi', hz]) (by have := Nat.le_of_ble_eq_true hn; omega) (by rw [rowCells_eq z n 1 hr.cells hr.pos]; exact hb)
  simp only [execOp, ho, Sem.run_bind, h2, Result.andThen_ok, Sem.run_pure]

theorem r_boxAgg {ρ : Operand → Value} {t : TypeId} {x : Operand} {cs : Array Value} (ho : o.op = .box t x) (hx : ρ x = .agg cs) : (execOp ρ o).run P w = .ok (.value (.pointer (some ⟨w.heap.size, 0, none⟩))) (w.alloc (.cells cs t)) := by
  simp [execOp, ho, hx, Instr.box, newVar, newRow, Value.cells]
theorem r_box1 {ρ : Operand → Value} {t : TypeId} {x : Operand} (ho : o.op = .box t x) (hx : ρ x = v) (h1 : v.oneCell' = true) : (execOp ρ o).run P w = .ok (.value (.pointer (some ⟨w.heap.size, 0, none⟩))) (w.alloc (.cells #[v] t)) := by
  have := oneCell_cells h1
  simp only [execOp, ho, hx, Instr.box, newVar, newRow, this]
  simp
theorem r_alloc {ρ : Operand → Value} {t : TypeId} {z : Value} (ho : o.op = .alloc t) (hz : zeroOf P t = some z) : (execOp ρ o).run P w = .ok (.value (.pointer (some ⟨w.heap.size, 0, none⟩))) (w.alloc (.cells z.cells t)) := by
  simp [execOp, ho, Instr.alloc, run_zeroValue hz, newVar, newRow]

/-- a string's bytes, in memory of their own -/
theorem SO.toBytes {x : Operand} {t u e : TypeId} {s : ByteArray} (ho' : o.op = .convert t u x) (hx : Env.ev E x = .string s) (ht : P.underlying t = some .string) (hu : sliceElem P u = some e) (he : P.underlying e = some (.int .u8)) (hm : s.size ≤ 140737488355328)
    (hd : o.dst = some d) (hN : Nat.blt d N = true) (ho : opsOK E o = true) (hw : wantedE ops E o = some true)
    (k : ∀ A c w', Rd w' (New w w') (.slice A s.size c) s.size 1 (s.toList.map U8) → Upd No w w' → K ((d, .slice A s.size c) :: E) w') : SO P N ops Q o K E w := by
  have hu' := sliceElem_und hu
  have hrun := run_bytes_of_string (P := P) w t u e s ht hu' he
  have hrun2 : (execOp (Env.ev E) o).run P w = .ok (.value (.slice (some ⟨w.heap.size, 0, none⟩) s.size (grownCap w s.size 0 e)))
      (w.drew.alloc (.cells (bytesRow s (grownCap w s.size 0 e)) e ((bytesRow s (grownCap w s.size 0 e)).size, (bytesRow s (grownCap w s.size 0 e)).size + 1))) := by
    simp only [execOp, ho', hx, Sem.run_bind, hrun, Result.andThen_ok, Sem.run_pure]
  refine SO.val hd hN ho hw hrun2 (k _ _ _ ?_ ?_)
  · have hlen : s.size ≤ grownCap w s.size 0 e := grownCap_ge _ _ _ _
    refine ⟨_, _, rfl, hlen, hm, by simp [ByteArray.toList_eq], fun _ => ⟨_, 0, rfl, ⟨Nat.le_refl _, by simp⟩, by simp, fun j u hj => ?_⟩⟩
    have hj' : j < s.size := by
      have := (List.getElem?_eq_some_iff.1 hj).1
      simpa [ByteArray.toList_eq] using this
    rw [Nat.zero_add]
    have hh : (w.drew.alloc (.cells (bytesRow s (grownCap w s.size 0 e)) e ((bytesRow s (grownCap w s.size 0 e)).size, (bytesRow s (grownCap w s.size 0 e)).size + 1))).cell? ⟨w.heap.size, j, none⟩ = (bytesRow s (grownCap w s.size 0 e))[j]? := by
      have hp : (w.drew.alloc (.cells (bytesRow s (grownCap w s.size 0 e)) e ((bytesRow s (grownCap w s.size 0 e)).size, (bytesRow s (grownCap w s.size 0 e)).size + 1))).heap[w.heap.size]? = some (.cells (bytesRow s (grownCap w s.size 0 e)) e ((bytesRow s (grownCap w s.size 0 e)).size, (bytesRow s (grownCap w s.size 0 e)).size + 1)) := heap_alloc_new w.drew _
      unfold World.cell?
      rw [hp]
      rfl
    rw [hh]
    simp only [ByteArray.toList_eq, List.getElem?_map] at hj
    simp only [bytesRow]
    rw [Array.getElem?_append_left (by simpa using hj')]
    simp only [Array.getElem?_map]
    have hd' : s.data[j]? = some s.data[j] := by rw [Array.getElem?_eq_getElem]
    have hd2 : s.data.toList[j]? = some s.data[j] := by simp
    rw [hd2] at hj
    rw [hd']
    simpa [U8] using hj
  · exact ⟨rfl, rfl, rfl, by simp, fun k hk _ => Go.RowKit.Below.heap_alloc w.drew _ k hk⟩
end
/-! a conversion of a slice to its own type: its row's mark -/
section
variable {P : Program} {o : Oper} {w : World} {x : Operand} {t e : TypeId} {N d : Nat} {ops : Array Oper} {Q : Exit → Act → World → Prop} {K : Env → World → Prop} {E : Env}

theorem heap_freeze {b n : Nat} {cs : Array Value} {T : TypeId} {z : Nat × Nat} (h : w.heap[b]? = some (.cells cs T z)) : ∃ z', (w.freeze ⟨b, n, none⟩ 1).heap[b]? = some (.cells cs T z') := by
  obtain ⟨lo, hi⟩ := z
  refine ⟨if lo == hi then (n, n + 1) else (min lo n, max hi (n + 1)), ?_⟩
  simp only [World.freeze]
  rw [if_neg (by omega)]
  simp [Array.getElem?_modify, h]

theorem Upd.freeze (w : World) (a : Addr) (n : Nat) : Upd (At a.block) w (w.freeze a n) := by
  unfold World.freeze
  split
  · exact Upd.refl _ _
  · refine ⟨rfl, rfl, rfl, by simp, fun k hk hS => ?_⟩
    have hne : ¬ a.block = k := fun h => hS h.symm
    simp [Array.getElem?_modify, hne]

theorem Rd.of_heap {F : Nat → Prop} {b n sz : Nat} {cs : Array Value} {T : TypeId} {z : Nat × Nat} (h : w.heap[b]? = some (.cells cs T z)) (hF : F b) (hn : cs.size = n * sz) (hm : n ≤ 140737488355328) : Rd w F (.slice (some ⟨b, 0, none⟩) n n) n sz cs.toList := by
  have hlt : b < w.heap.size := by
    rcases Nat.lt_or_ge b w.heap.size with h' | h'
    · exact h'
    · rw [Array.getElem?_eq_none h'] at h; cases h
  refine ⟨_, _, rfl, Nat.le_refl _, hm, by simp [hn], fun _ => ⟨b, 0, rfl, hF, hlt, fun j u hj => ?_⟩⟩
  rw [Array.getElem?_toList] at hj
  simp [World.cell?, h, hj]

theorem SO.convSS {b n c : Nat} {cs : Array Value} {T : TypeId} {z : Nat × Nat} (ho' : o.op = .convert t t x) (hx : Env.ev E x = .slice (some ⟨b, 0, none⟩) n c) (hu : sliceElem P t = some e) (he : P.underlying e = some (.int .u8)) (hb : w.heap[b]? = some (.cells cs T z))
    (hd : o.dst = some d) (hN : Nat.blt d N = true) (ho : opsOK E o = true) (hw : wantedE ops E o = some true)
    (k : ∀ w' z', Upd (At b) w w' → w'.heap[b]? = some (.cells cs T z') → w'.heap.size = w.heap.size → K ((d, .slice (some ⟨b, 0, none⟩) n c) :: E) w') : SO P N ops Q o K E w := by
  have hu' := sliceElem_und hu
  have hsh : w.shape? b = some (T, cs.size) := by simp [World.shape?, hb]
  have hrun : (execOp (Env.ev E) o).run P w = .ok (.value (.slice (some ⟨b, 0, none⟩) n c)) (w.freeze ⟨b, cs.size, none⟩ 1) := by
    simp [execOp, ho', hx, convert, run_underlying hu', run_underlying he, markStringish, shape, freeze, hsh, Sem.run]
  obtain ⟨z', hz'⟩ := heap_freeze (n := cs.size) hb
  exact SO.val hd hN ho hw hrun (k _ z' (Upd.freeze w ⟨b, cs.size, none⟩ 1) hz' (by simp [World.freeze]))
end
theorem Own.open {w : World} {F : Nat → Prop} {T : TypeId} {sz n : Nat} {v : Value} {xs : List Value} (h : Own w F T sz v n xs) (h0 : 0 < n) :
    ∃ g cap cur, v = .slice (some ⟨g, 0, none⟩) n cap ∧ Blk w g cur T ∧ F g ∧ n ≤ cap ∧ cap ≤ maxLen ∧ cur.size = cap * sz ∧ cur.toList.take (n * sz) = xs := by
  rcases h.1.2 with ⟨rfl, rfl⟩ | ⟨g, cap, cur, rfl, _, hg, hc, hm, hs, hx⟩
  · omega
  · exact ⟨g, cap, cur, rfl, hg, h.2 g rfl, hc, hm, hs, hx⟩
theorem Own.shut {w : World} {F : Nat → Prop} {T : TypeId} {sz n g cap : Nat} {cur : Array Value} (hb : Blk w g cur T) (hF : F g) (h1 : n ≤ cap) (h2 : cap ≤ maxLen) (h3 : cur.size = cap * sz) :
    Own w F T sz (.slice (some ⟨g, 0, none⟩) n cap) n (cur.toList.take (n * sz)) := by
  have hle : n * sz ≤ cap * sz := Nat.mul_le_mul_right _ h1
  refine ⟨⟨by rw [List.length_take, Array.length_toList, h3, Nat.min_eq_left hle], .inr ⟨g, cap, cur, rfl, Nat.zero_le _, hb, h1, h2, h3, rfl⟩⟩, fun k hk => ?_⟩
  simp only [Value.ownBlock, Option.some.injEq] at hk
  subst hk
  exact hF
/-! facts carried on, the side proof found by itself -/
theorem Blk.updA {w w' : World} {S : Nat → Prop} {b : Nat} {cs : Array Value} {T : TypeId} (h : Blk w b cs T) (hu : Upd S w w') (hn : ¬ S b := by first | exact (fun h => h) | with_reducible assumption | (simp only [At]; omega) | (simp only [At, New, Grow, From, No]; omega)) : Blk w' b cs T := h.upd hu hn
theorem Own.updA {w w' : World} {F S : Nat → Prop} {T : TypeId} {sz n : Nat} {v : Value} {xs : List Value} (h : Own w F T sz v n xs) (hu : Upd S w w') (hn : ∀ k, F k → k < w.heap.size → ¬ S k := by first | exact (fun _ _ _ h => h) | with_reducible assumption | (intro k hk hl hS; simp only [At] at hS; subst hS; contradiction) | (intro k hk hl hS; simp only [At] at hS; subst hS; exact Grow.old (by omega) (by assumption) hk) | (intro k hk hl hS; (try simp only [At, From, No, Grow, New] at hk hS); omega)) : Own w' F T sz v n xs := h.upd hu hn
theorem Rd.updA {w w' : World} {F S : Nat → Prop} {sz n : Nat} {v : Value} {xs : List Value} (h : Rd w F v n sz xs) (hu : Upd S w w') (hn : ∀ k, F k → k < w.heap.size → ¬ S k := by first | exact (fun _ _ _ h => h) | with_reducible assumption | (intro k hk hl hS; simp only [At] at hS; subst hS; contradiction) | (intro k hk hl hS; simp only [At] at hS; subst hS; exact Grow.old (by omega) (by assumption) hk) | (intro k hk hl hS; (try simp only [At, From, No, Grow, New] at hk hS); omega)) : Rd w' F v n sz xs := h.upd hu hn
theorem Upd.transA {S S' : Nat → Prop} {w w1 w2 : World} (h : Upd S w w1) (h' : Upd S' w1 w2) (hs : ∀ k, k < w.heap.size → S' k → S k := by first | exact (fun _ _ h => h) | exact (fun _ _ h => h.elim) | (intro k hl hk; (try simp only [At, New, Grow, From, No] at hk ⊢); omega)) : Upd S w w2 := h.trans h' hs
end Go.Proofs.Ytnjfhmlfpfkllaa

/-
  From a walk that returns true and leaves what was there to the row's statement.
-/
namespace Go.Proofs.Ytnjfhmlfpfkllaa
open Go Go.ChangeShapes Go.WideShapes Go.ChangeAt Go.RowKit
set_option linter.unusedSimpArgs false
set_option linter.unusedVariables false

theorem own_none : ownKnob Try.prog.godebug = none := by kernel_rfl
theorem laid_out : laidOutB Try.prog = true := by kernel_rfl

theorem trodAll_below {H : Type} {enc : TypeId × Value → H} {P : Program} (hl : laidOutB P = true) {W W' : World} (hb : Below W.heap.size W W') {sp : Nat → Bool} :
    ∀ {ts : List TypeId} {vs : List Value} {ds : List (DataW H)} {ps : List MemPlace}, (ts.all fun t => P.readableRec t && decide (t < P.types.size)) = true →
      DataW.TrodAll enc P W 0 (fun _ => true) true ts vs ds ps → (∀ x ∈ ps, x.block < W.heap.size) → (∀ x ∈ ps, sp x.block = true) → DataW.TrodAll enc P W' 0 sp true ts vs ds ps
  | [], [], [], _, _, h, _, _ => h
  | [], [], _ :: _, _, _, h, _, _ => h.elim
  | [], _ :: _, _, _, _, h, _, _ => h.elim
  | _ :: _, [], _, _, _, h, _, _ => h.elim
  | _ :: _, _ :: _, [], _, _, h, _, _ => h.elim
  | t :: ts, v :: vs, d :: ds, _, hr, ⟨p, q, h1, h2, e⟩, hlt, hs => by
    simp only [List.all_cons, Bool.and_eq_true, decide_eq_true_eq] at hr
    refine ⟨p, q, ?_, ?_, e⟩
    · exact WideElems.Trod_stays hl hr.1.1 hr.1.2 h1 (fun x hx => hb.same (hlt x (by rw [e]; simp [hx]))) (fun x hx => hs x (by rw [e]; simp [hx]))
    · exact trodAll_below hl hb hr.2 h2 (fun x hx => hlt x (by rw [e]; simp [hx])) (fun x hx => hs x (by rw [e]; simp [hx]))

theorem trodAll_length {H : Type} {enc : TypeId × Value → H} {P : Program} {w : World} {b : Nat} {sp : Nat → Bool} {hd : Bool} :
    ∀ {ts : List TypeId} {vs : List Value} {ds : List (DataW H)} {ps : List MemPlace}, DataW.TrodAll enc P w b sp hd ts vs ds ps → ds.length = ts.length
  | [], [], [], _, _ => rfl
  | [], [], _ :: _, _, h => h.elim
  | [], _ :: _, _, _, h => h.elim
  | _ :: _, [], _, _, h => h.elim
  | _ :: _, _ :: _, [], _, h => h.elim
  | _ :: _, _ :: _, _ :: _, _, ⟨_, _, _, h2, _⟩ => by simp [trodAll_length h2]

set_option maxRecDepth 100000 in
theorem law_returns {H : Type} {enc : TypeId × Value → H} {os : Os} {f : FuncId} {fn : Func} {s : ChangeSpec} {tb : TypeId} {conds : List PathCond} (started : os.Started)
    (hfn : Try.prog.funcs[f]? = some fn) (noInit : Try.prog.inits.idxOf? f = none) (hv : s.vars = [])
    (hspec : ∀ ds : List (DataW H), ds.length = fn.params.toList.length → s.fn H ds = { results := [.lit (.bool true)], args := ds })
    (hres : fn.resultTypes = #[tb]) (htb : Try.prog.underlying tb = some .bool)
    (hrd : (fn.params.toList.all fun t => Try.prog.readableRec t && decide (t < Try.prog.types.size)) = true)
    (witness : ∃ (w : World) (tape : Tape) (i : Input), w.os = os ∧ (w.forCall tape i).Shaped Try.checked.prog ∧ i.vars = [] ∧ Input.okWide Try.checked.prog (w.forCall tape i) .any w.heap.size f i ∧
      s.pre6 enc Try.checked.prog fn conds false (w.forCall tape i).memory i.args ∧ ({} : Assume).holds Try.checked.prog (lone (Frame.enter Try.checked.prog f i.args .normal) [] (w.forCall tape i)))
    (walk : ∀ (W : World) (base : Nat) (args : Array Value) (ds : List (DataW H)) (ps : List MemPlace),
      (∀ (j : Nat) t v, fn.params[j]? = some t → args[j]? = some v → Value.okWide Try.prog W .any base t v) →
      DataW.TrodAll enc Try.prog W 0 (fun _ => true) true fn.params.toList args.toList ds ps →
      conds.all (PathCond.test Try.prog ⟨fn.params.toList, ds, [], []⟩) = true →
      (DataW.weightsEach Try.prog fn.params.toList ds).all (· ≤ reachBytes) = true →
      Ret Try.prog f args W fun v W' => v = .bool true ∧ Upd No W W') :
    ReturnsInHanded {} Try.checked os f .any (s.pre6 enc Try.prog fn conds false) (s.post enc Try.prog fn false true false false) := by
  refine returnsInHanded_of_change_shaped (C := Try.checked) own_none started noInit hfn witness ?_
  intro W base args ds gs before hval hW hcnd hwt _ _
  have hW' := hW
  obtain ⟨p, q, hA, hV, rfl, hz, hnd⟩ := hW
  have hvt : s.plain.varTypes Try.checked.prog = [] := by simp [ChangeSpec.plain, DataSpec.varTypes, hv]
  have hV0 := hV
  rw [hv] at hV
  obtain ⟨rfl, rfl⟩ := trodVars_none hV
  simp only [hvt, List.append_nil] at hwt hcnd hW' hz
  have hA' : DataW.TrodAll enc Try.prog W 0 (fun _ => true) true fn.params.toList args.toList ds p := hA
  refine Calls.mono (walk W base args ds p hval hA' hcnd hwt) ?_
  rintro e W' ⟨v, rfl, rfl, hu⟩
  have hb : Below W.heap.size W W' := hu.below (Nat.le_refl _) (fun _ h => h.elim)
  have hlt : ∀ x ∈ p, x.block < W.heap.size := hA'.lt
  have hsf := hspec ds (trodAll_length hA')
  have harg : ∀ sp : Nat → Bool, (∀ x ∈ p, sp x.block = true) → DataW.TrodAll enc Try.prog W' 0 sp true fn.params.toList args.toList ds p := fun sp hs => trodAll_below laid_out hb hrd hA' hlt hs
  have hr1 : ∀ (b : Nat) (sp : Nat → Bool) (hd : Bool), DataW.TrodAll enc Try.prog W' b sp hd fn.resultTypes.toList ((Value.bool true).resultList fn.resultTypes.size) [.lit (.bool true)] [] := fun b sp hd => by
    rw [hres]
    exact trodAll_cons_mk (p' := []) (shut_bool htb _) trodAll_mk0
  have hvars : ∀ sp : Nat → Bool, DataW.TrodVars enc Try.prog W' sp s.vars [] [] := fun sp => by
    rw [hv]; exact rfl
  refine ⟨_, rfl, ds, [], p, [], p, [], hW', ?_, ?_, ?_, World.keptBut_mono (fun _ f => f.elim) (hb.frame fun _ => False), fun h => by cases h⟩
  · rw [List.append_nil, hsf]; exact hr1 _ _ _
  · rw [List.append_nil, hsf]; exact harg _ (fun x hx => by simpa using hlt x hx)
  · rw [List.append_nil, hsf]; exact hvars _
end Go.Proofs.Ytnjfhmlfpfkllaa

/-
  Arguments opened: bytes.
-/
namespace Go.Proofs.Ytnjfhmlfpfkllaa
open Go Go.ChangeShapes Go.WideShapes Go.ChangeAt Go.RowKit Go.Deep
set_option linter.unusedSimpArgs false
set_option linter.unusedVariables false

theorem okWide_slice {P : Program} {W : World} {base : Nat} {t e : TypeId} {v : Value} (ht : P.underlying t = some (.slice e)) (hv : Value.okWide P W .any base t v) :
    v = .slice none 0 0 ∨ ∃ b off len cap, v = .slice (some ⟨b, off, none⟩) len cap ∧ len ≤ cap := by
  cases v with
  | slice A len cap =>
    cases A with
    | none =>
      cases len <;> cases cap <;> first | exact .inl rfl | (exfalso; simp [Value.okWide, ht, Cell.okWide, Cell.ok] at hv)
    | some a =>
      obtain ⟨b, off, sp⟩ := a
      simp only [Value.okWide, ht, Cell.okWide, Cell.ok] at hv
      have := hv.2.2.2.1
      simp only at this
      subst this
      exact .inr ⟨b, off, len, cap, rfl, hv.1⟩
  | _ => exfalso; simp [Value.okWide, ht, Cell.okWide, Cell.ok] at hv

theorem cell_lt {w : World} {b off : Nat} {v : Value} (h : w.cell? ⟨b, off, none⟩ = some v) : b < w.heap.size := by
  rcases Nat.lt_or_ge b w.heap.size with h1 | h1
  · exact h1
  · simp [World.cell?, Array.getElem?_eq_none h1] at h

/-- a byte, off a value -/
def byteOf : Value → UInt8
  | .int _ z => UInt8.ofNat z.toNat
  | _ => 0

theorem open_bytes {H : Type} {enc : TypeId × Value → H} {P : Program} {W : World} {base : Nat} {v : Value} {d : DataW H} {ps : List MemPlace} {t e : TypeId} (ht : P.underlying t = some (.slice e)) (he : P.underlying e = some (.int .u8))
    (hc : P.cellsOf e = 1) (hby : P.bytesOf e = 1) (hv : Value.okWide P W .any base t v) (h : DataW.Trod enc P W 0 (fun _ => true) true t v d ps) (hw : (d.weights P t).all (· ≤ reachBytes) = true) :
    ∃ l : List UInt8, Rd W (fun k => k < W.heap.size) v l.length 1 (l.map U8) ∧ l.length ≤ 140737488351232 := by
  obtain ⟨fuel, h⟩ := h
  rcases okWide_slice ht hv with rfl | ⟨b, off, len, cap, rfl, hle⟩
  · exact ⟨[], Rd.nil _ _ _, by simp⟩
  · rcases open_slice1 ht hc h with ⟨hcs, _⟩ | ⟨a, len', cap', m, n, V, D, Pl, hcs, _, hl, hm, hmm, hx, hcell⟩
    · simp [Value.cells] at hcs
    · simp only [Value.cells, List.cons.injEq, Value.slice.injEq, and_true, Option.some.injEq] at hcs
      obtain ⟨rfl, rfl, rfl⟩ := hcs
      simp only [if_true] at hmm
      subst hmm
      have hd : d = .slice ((List.range len).map D) ((List.range (m - len)).map fun j => D (len + j)) := by
        injection hx
      have hsz : len ≤ 140737488351232 := by
        subst hd
        simp only [DataW.weights, ht, List.all_cons, Bool.and_eq_true, decide_eq_true_eq, List.length_map, List.length_range, hby] at hw
        have h1 := hw.1
        have h2 : reachBytes = 140737488351232 := rfl
        omega
      have hV : ∀ i, i < len → W.cell? ⟨b, off + i, none⟩ = some (U8 (byteOf (V i))) := fun i hi => by
        obtain ⟨h1, h2⟩ := hcell i (by omega)
        obtain ⟨z, hz, _, hwf⟩ := DataW.trod_int he h2
        have hVi : V i = .int .u8 z := by simpa using hz
        have hbd := bounds_u8 hwf
        have : Value.int .u8 z = U8 (byteOf (.int .u8 z)) := by
          simp only [U8, byteOf, UInt8.toNat_ofNat']
          congr 1
          omega
        rw [hVi, ← this, ← hVi]
        simpa [Addr.add_lit] using h1
      refine ⟨(List.range len).map fun i => byteOf (V i), ⟨some ⟨b, off, none⟩, m, by simp, by simpa using hle, by simp; omega, by simp, fun h0 => ⟨b, off, rfl, ?_, ?_, fun j u hj => ?_⟩⟩, by simpa using hsz⟩
      · exact cell_lt (hV 0 (by simp at h0; omega))
      · exact cell_lt (hV 0 (by simp at h0; omega))
      · simp only [List.getElem?_map] at hj
        rcases Nat.lt_or_ge j len with h1 | h1
        · rw [List.getElem?_range h1] at hj
          simp only [Option.map_some, Option.some.injEq] at hj
          rw [← hj]
          exact hV j h1
        · rw [List.getElem?_eq_none (by simpa using h1)] at hj
          simp at hj
end Go.Proofs.Ytnjfhmlfpfkllaa

/-
  Arguments of any shape, opened: numbers, bools, texts, structs and slices, to any depth.
-/
namespace Go.Proofs.Ytnjfhmlfpfkllaa
open Go Go.ChangeShapes Go.WideShapes Go.ChangeAt Go.RowKit Go.Deep
set_option linter.unusedSimpArgs false
set_option linter.unusedVariables false

/-- cells that are of a type: what they lead to lies in memory -/
def Rep (P : Program) (W : World) : Nat → TypeId → List Value → Prop
  | 0, _, _ => False
  | f + 1, t, cs => match P.underlying t with
    | some .bool => ∃ b, cs = [.bool b]
    | some (.int k) => ∃ n, cs = [.int k n] ∧ inK k n
    | some .string => ∃ s : List UInt8, cs = [.string ⟨s.toArray⟩] ∧ s.length ≤ 140737488351232
    | some (.slice e) => 0 < P.cellsOf e → 0 < P.bytesOf e → ∃ v n xs, cs = [v] ∧ n * P.bytesOf e ≤ 140737488351232 ∧ Rd W (fun k => k < W.heap.size) v n (P.cellsOf e) xs ∧ ∀ i, i < n → Rep P W f e ((xs.drop (i * P.cellsOf e)).take (P.cellsOf e))
    | some (.struct fs) => cs.length = P.cellsOf t ∧ ∀ (i : Nat) (q : Field), fs[i]? = some q → Rep P W f q.type ((cs.drop q.offset).take (P.cellsOf q.type))
    | _ => True

theorem Rep.bool {P : Program} {W : World} {f : Nat} {t : TypeId} {cs : List Value} (h : Rep P W f t cs) (ht : P.underlying t = some .bool) : ∃ b, cs = [.bool b] := by
  cases f with
  | zero => exact h.elim
  | succ f => simp only [Rep, ht] at h; exact h
theorem Rep.int {P : Program} {W : World} {f : Nat} {t : TypeId} {k : IntKind} {cs : List Value} (h : Rep P W f t cs) (ht : P.underlying t = some (.int k)) : ∃ n, cs = [.int k n] ∧ inK k n := by
  cases f with
  | zero => exact h.elim
  | succ f => simp only [Rep, ht] at h; exact h
theorem Rep.str {P : Program} {W : World} {f : Nat} {t : TypeId} {cs : List Value} (h : Rep P W f t cs) (ht : P.underlying t = some .string) : ∃ s : List UInt8, cs = [.string ⟨s.toArray⟩] ∧ s.length ≤ 140737488351232 := by
  cases f with
  | zero => exact h.elim
  | succ f => simp only [Rep, ht] at h; exact h
theorem Rep.slice {P : Program} {W : World} {f : Nat} {t e : TypeId} {cs : List Value} (h : Rep P W f t cs) (ht : P.underlying t = some (.slice e)) (hc : 0 < P.cellsOf e) (hb : 0 < P.bytesOf e) :
    ∃ g v n xs, f = g + 1 ∧ cs = [v] ∧ n * P.bytesOf e ≤ 140737488351232 ∧ Rd W (fun k => k < W.heap.size) v n (P.cellsOf e) xs ∧ ∀ i, i < n → Rep P W g e ((xs.drop (i * P.cellsOf e)).take (P.cellsOf e)) := by
  cases f with
  | zero => exact h.elim
  | succ f =>
    simp only [Rep, ht] at h
    obtain ⟨v, n, xs, h1, h2, h3, h4⟩ := h hc hb
    exact ⟨f, v, n, xs, rfl, h1, h2, h3, h4⟩
theorem Rep.struct {P : Program} {W : World} {f : Nat} {t : TypeId} {fs : Array Field} {cs : List Value} (h : Rep P W f t cs) (ht : P.underlying t = some (.struct fs)) :
    ∃ g, f = g + 1 ∧ cs.length = P.cellsOf t ∧ ∀ (i : Nat) (q : Field), fs[i]? = some q → Rep P W g q.type ((cs.drop q.offset).take (P.cellsOf q.type)) := by
  cases f with
  | zero => exact h.elim
  | succ f => simp only [Rep, ht] at h; exact ⟨f, rfl, h.1, h.2⟩

theorem spot_none {w : World} {a : Addr} {v : Value} (h : w.cell? a = some v) : a.spot = none := by
  unfold World.cell? at h
  split at h
  · split at h
    · cases h
    · rename_i hs
      simpa using hs
  · cases h
theorem choose_lt {α : Type} [Nonempty α] {n : Nat} {p : Nat → α → Prop} (h : ∀ i, i < n → ∃ x, p i x) : ∃ f : Nat → α, ∀ i, i < n → p i (f i) :=
  ⟨fun i => if hi : i < n then Classical.choose (h i hi) else Classical.choice inferInstance, fun i hi => by simp only [hi, dif_pos]; exact Classical.choose_spec (h i hi)⟩
theorem weightsAll_mem {H : Type} {P : Program} {e : TypeId} {d : DataW H} : ∀ {l : List (DataW H)}, d ∈ l → ∀ x ∈ d.weights P e, x ∈ DataW.weightsAll P e l
  | [], h, _, _ => by cases h
  | a :: l, h, x, hx => by
    simp only [DataW.weightsAll, List.mem_append]
    rcases List.mem_cons.1 h with rfl | h
    · exact .inl hx
    · exact .inr (weightsAll_mem h x hx)
theorem weightsEach_mem {H : Type} {P : Program} : ∀ {ts : List TypeId} {l : List (DataW H)} {i : Nat} {t : TypeId} {d : DataW H}, ts[i]? = some t → l[i]? = some d → ∀ x ∈ d.weights P t, x ∈ DataW.weightsEach P ts l
  | [], _, _, _, _, h, _, _, _ => by simp at h
  | _ :: _, [], _, _, _, _, h, _, _ => by simp at h
  | t :: ts, d :: l, 0, _, _, h1, h2, x, hx => by
    simp only [List.getElem?_cons_zero, Option.some.injEq] at h1 h2
    subst h1 h2
    simp only [DataW.weightsEach, List.mem_append]
    exact .inl hx
  | t :: ts, d :: l, i + 1, _, _, h1, h2, x, hx => by
    simp only [DataW.weightsEach, List.mem_append]
    exact .inr (weightsEach_mem (i := i) (by simpa using h1) (by simpa using h2) x hx)

theorem flat_get {C : Nat → List Value} {sz : Nat} : ∀ {n : Nat}, (∀ i, i < n → (C i).length = sz) → ((List.range n).flatMap C).length = n * sz ∧ ∀ i, i < n → ((((List.range n).flatMap C).drop (i * sz)).take sz) = C i
  | 0, _ => ⟨by simp, fun i h => by omega⟩
  | n + 1, h => by
    obtain ⟨h1, h2⟩ := flat_get (n := n) fun i hi => h i (by omega)
    have e : (List.range (n + 1)).flatMap C = (List.range n).flatMap C ++ C n := by rw [List.range_succ, List.flatMap_append]; simp
    rw [e]
    refine ⟨by rw [List.length_append, h1, h n (by omega), Nat.add_mul, Nat.one_mul], fun i hi => ?_⟩
    by_cases hin : i = n
    · subst hin
      rw [List.drop_left' h1, List.take_of_length_le (by rw [h i (by omega)]; exact Nat.le_refl _)]
    · have hle : i * sz + sz ≤ n * sz := by
        rw [← Nat.succ_mul]
        exact Nat.mul_le_mul_right _ (by omega)
      rw [List.drop_append_of_le_length (by omega), List.take_append_of_le_length (by rw [List.length_drop]; omega)]
      exact h2 i (by omega)

theorem open_rep {H : Type} {enc : TypeId × Value → H} {P : Program} {W : World} : ∀ (fuel : Nat) (t : TypeId) (cs : List Value) (y : DataW H × List MemPlace), DataW.trod enc P W 0 (fun _ => true) true fuel t cs = some y →
    (y.1.weights P t).all (· ≤ reachBytes) = true → Rep P W fuel t cs
  | 0, t, cs, y, h, _ => by simp [DataW.trod] at h
  | fuel + 1, t, cs, y, h, hw => by
    have hrb : reachBytes = 140737488351232 := rfl
    cases hu : P.underlying t with
    | none => simp only [Rep, hu]
    | some d =>
      cases d with
      | bool =>
        simp only [Rep, hu]
        obtain ⟨b, h1, _⟩ := DataW.trod_bool hu h
        exact ⟨b, h1⟩
      | int k =>
        simp only [Rep, hu]
        obtain ⟨n, h1, _, hwf⟩ := DataW.trod_int hu h
        refine ⟨n, h1, ?_⟩
        have hwf' : k.min ≤ n ∧ n ≤ k.max := by simpa [Lit.wf] using hwf
        cases k <;> simp only [IntKind.min, IntKind.max, IntKind.signed, IntKind.bits, inK] at hwf' ⊢ <;> simp at hwf' <;> omega
      | string =>
        simp only [Rep, hu]
        obtain ⟨s, h1, h2, h3⟩ := DataW.trod_string hu h
        refine ⟨s.data.toList, h1, ?_⟩
        rw [h2] at hw
        simp [DataW.weights, hrb] at hw
        simpa using hw
      | slice e =>
        simp only [Rep, hu]
        intro hc hb
        rcases DataW.trod_slice hu h with ⟨hcs, _⟩ | ⟨a, len, m, elems, rest, n, hn, hcs, rfl, _, hl, hm, hel, hcell, _, _⟩
        · exact ⟨_, 0, [], hcs, by omega, Rd.nil _ _ _, fun i hi => by omega⟩
        · obtain rfl : fuel = n := by omega
          simp only [DataW.weights, hu, List.all_cons, Bool.and_eq_true, decide_eq_true_eq, List.length_map, List.all_append] at hw
          have hby : len * P.bytesOf e ≤ 140737488351232 := by
            have h1 := hw.1
            have h3 : elems.length * P.bytesOf e ≤ (elems.length + rest.length) * P.bytesOf e := Nat.mul_le_mul_right _ (by omega)
            rw [hel] at h3
            rw [hel] at h1
            omega
          have hsz : len ≤ 140737488351232 := by
            have h3 : len * 1 ≤ len * P.bytesOf e := Nat.mul_le_mul_left _ hb
            omega
          have each : ∀ i, i < len → ∃ c : List Value, W.cells? 0 (a.add (i * P.cellsOf e)) (P.cellsOf e) = some c ∧ Rep P W fuel e c := fun i hi => by
            have h1 := hcell i hi
            rw [List.getElem?_eq_getElem (by omega), Option.bind_eq_some_iff] at h1
            obtain ⟨c, h1, h2⟩ := h1
            exact ⟨c, h1, open_rep fuel e c _ h2 (List.all_eq_true.2 fun x hx => List.all_eq_true.1 hw.2.1 x (weightsAll_mem (List.mem_map.2 ⟨_, List.getElem_mem (by omega), rfl⟩) x hx))⟩
          obtain ⟨C, hC⟩ := choose_lt each
          have hCl : ∀ i, i < len → (C i).length = P.cellsOf e := fun i hi => (World.cells?_some (hC i hi).1).2.1
          obtain ⟨f1, f2⟩ := flat_get hCl
          refine ⟨_, len, (List.range len).flatMap C, hcs, hby, ?_, fun i hi => by rw [f2 i hi]; exact (hC i hi).2⟩
          refine ⟨some a, m, rfl, hl, by omega, f1, fun h0 => ?_⟩
          have hcl : ∀ i j, i < len → j < P.cellsOf e → W.cell? (a.add (i * P.cellsOf e + j)) = (C i)[j]? := fun i j hi hj => by
            rw [← add_add]
            exact (World.cells?_some (hC i hi).1).2.2 j hj
          have hs : a.spot = none := by
            have h1 := hcl 0 0 (by omega) hc
            rw [List.getElem?_eq_getElem (by rw [hCl 0 (by omega)]; exact hc)] at h1
            simp only [Nat.zero_mul, Nat.zero_add, Addr.add, if_true] at h1
            exact spot_none h1
          obtain ⟨b, off, sp⟩ := a
          simp only at hs
          subst hs
          have hlt : b < W.heap.size := by
            have h1 := hcl 0 0 (by omega) hc
            rw [List.getElem?_eq_getElem (by rw [hCl 0 (by omega)]; exact hc), Addr.add_lit] at h1
            exact cell_lt h1
          refine ⟨b, off, rfl, hlt, hlt, fun j u hj => ?_⟩
          have hj2 : j < len * P.cellsOf e := by
            have := (List.getElem?_eq_some_iff.1 hj).1
            rw [f1] at this
            exact this
          have hdv : j / P.cellsOf e < len := Nat.div_lt_of_lt_mul (by rw [Nat.mul_comm]; exact hj2)
          have hmd : j % P.cellsOf e < P.cellsOf e := Nat.mod_lt _ hc
          have h1 := hcl (j / P.cellsOf e) (j % P.cellsOf e) hdv hmd
          have ej : j / P.cellsOf e * P.cellsOf e + j % P.cellsOf e = j := by rw [Nat.mul_comm]; exact Nat.div_add_mod j _
          rw [ej, Addr.add_lit] at h1
          rw [h1, ← f2 _ hdv, List.getElem?_take, if_pos hmd, List.getElem?_drop, ej]
          exact hj
      | struct fs =>
        simp only [Rep, hu]
        obtain ⟨xs, n, hn, rfl, hlen, hxl, hf⟩ := DataW.trod_struct hu h
        obtain rfl : fuel = n := by omega
        refine ⟨hlen, fun i q hq => ?_⟩
        have h1 := hf i q hq
        have hi : i < fs.size := (Array.getElem?_eq_some_iff.1 hq).1
        rw [List.getElem?_eq_getElem (by omega)] at h1
        refine open_rep fuel q.type _ _ h1 (List.all_eq_true.2 fun x hx => List.all_eq_true.1 hw x ?_)
        simp only [DataW.weights, hu]
        refine weightsEach_mem (i := i) ?_ ?_ x hx
        · simp [hq]
        · rw [List.getElem?_map, List.getElem?_eq_getElem (by omega)]
          rfl
      | _ => simp only [Rep, hu]

theorem list_of {α : Type} {dec : α → List Value} {Q : α → Prop} {sz : Nat} : ∀ (n : Nat) (xs : List Value), xs.length = n * sz → (∀ i, i < n → ∃ a, (xs.drop (i * sz)).take sz = dec a ∧ Q a) → ∃ l : List α, l.length = n ∧ xs = l.flatMap dec ∧ ∀ a ∈ l, Q a
  | 0, xs, hl, _ => ⟨[], rfl, List.eq_nil_of_length_eq_zero (by simpa using hl), fun a h => by cases h⟩
  | n + 1, xs, hl, h => by
    obtain ⟨a, ha, hq⟩ := h 0 (by omega)
    rw [Nat.zero_mul, List.drop_zero] at ha
    obtain ⟨l, h1, h2, h3⟩ := list_of (dec := dec) (Q := Q) (sz := sz) n (xs.drop sz) (by rw [List.length_drop, hl, Nat.add_mul, Nat.one_mul, Nat.add_sub_cancel]) (fun i hi => by
      obtain ⟨a, h1, h2⟩ := h (i + 1) (by omega)
      refine ⟨a, ?_, h2⟩
      rw [List.drop_drop, ← h1, Nat.add_mul, Nat.one_mul, Nat.add_comm])
    refine ⟨a :: l, by simp [h1], ?_, fun b hb => ?_⟩
    · rw [List.flatMap_cons, ← h2, ← ha, List.take_append_drop]
    · rcases List.mem_cons.1 hb with rfl | hb
      · exact hq
      · exact h3 b hb

/-- a slice, its elements decoded -/
theorem Rep.list {α : Type} {P : Program} {W : World} {f : Nat} {t e : TypeId} {cs : List Value} (dec : α → List Value) (Q : Nat → α → Prop) (h : Rep P W f t cs) (ht : P.underlying t = some (.slice e)) (hc : 0 < P.cellsOf e) (hb : 0 < P.bytesOf e)
    (hel : ∀ g cs, g < f → Rep P W g e cs → ∃ a, cs = dec a ∧ Q g a) : ∃ (v : Value) (l : List α) (g : Nat), g < f ∧ cs = [v] ∧ l.length * P.bytesOf e ≤ 140737488351232 ∧ Rd W (fun k => k < W.heap.size) v l.length (P.cellsOf e) (l.flatMap dec) ∧ ∀ a ∈ l, Q g a := by
  obtain ⟨g, v, n, xs, rfl, hcs, hby, hr, hR⟩ := h.slice ht hc hb
  obtain ⟨l, h1, h2, h3⟩ := list_of (dec := dec) (Q := Q g) n xs hr.len (fun i hi => hel g _ (Nat.lt_succ_self g) (hR i hi))
  subst h1 h2
  exact ⟨v, l, g, Nat.lt_succ_self g, hcs, hby, hr, h3⟩

theorem flatMap_single {α β : Type} (f : α → β) (l : List α) : (l.flatMap fun a => [f a]) = l.map f := by
  induction l with
  | nil => rfl
  | cons a l ih => rw [List.flatMap_cons, ih]; rfl

theorem Rep.bytes {P : Program} {W : World} {f : Nat} {t e : TypeId} {cs : List Value} (h : Rep P W f t cs) (ht : P.underlying t = some (.slice e)) (he : P.underlying e = some (.int .u8)) (hc : P.cellsOf e = 1) (hb : P.bytesOf e = 1) :
    ∃ (v : Value) (l : List UInt8), cs = [v] ∧ l.length ≤ 140737488351232 ∧ Rd W (fun k => k < W.heap.size) v l.length 1 (l.map U8) := by
  obtain ⟨v, l, g, _, h1, h2, h3, _⟩ := h.list (fun c : UInt8 => [U8 c]) (fun _ _ => True) ht (by omega) (by omega) (fun g cs _ hr => by
    obtain ⟨n, h1, h2⟩ := hr.int he
    simp only [inK] at h2
    refine ⟨UInt8.ofNat n.toNat, ?_, trivial⟩
    rw [h1]
    simp only [U8, UInt8.toNat_ofNat']
    congr 2
    omega)
  rw [hc, flatMap_single] at h3
  exact ⟨v, l, h1, by rw [hb] at h2; omega, h3⟩
theorem Rep.ints {P : Program} {W : World} {f : Nat} {t e : TypeId} {k : IntKind} {cs : List Value} (h : Rep P W f t cs) (ht : P.underlying t = some (.slice e)) (he : P.underlying e = some (.int k)) (hc : P.cellsOf e = 1) (hb : 0 < P.bytesOf e) :
    ∃ (v : Value) (l : List Int), cs = [v] ∧ l.length * P.bytesOf e ≤ 140737488351232 ∧ Rd W (fun k => k < W.heap.size) v l.length 1 (l.map fun n => .int k n) ∧ ∀ n ∈ l, inK k n := by
  obtain ⟨v, l, g, _, h1, h2, h3, h4⟩ := h.list (fun n : Int => [.int k n]) (fun _ n => inK k n) ht (by omega) hb (fun g cs _ hr => hr.int he)
  rw [hc, flatMap_single] at h3
  exact ⟨v, l, h1, h2, h3, h4⟩

theorem Rep.field {P : Program} {W : World} {g : Nat} {fs : Array Field} {cs : List Value} (hf : ∀ (i : Nat) (q : Field), fs[i]? = some q → Rep P W g q.type ((cs.drop q.offset).take (P.cellsOf q.type))) (i : Nat) {q : Field} {t o n : Nat} (hq : fs[i]? = some q) (ht : q.type = t) (ho : q.offset = o) (hn : P.cellsOf t = n) : Rep P W g t ((cs.drop o).take n) := by
  subst ht ho hn
  exact hf i q hq

theorem len1 {cs : List Value} (h : cs.length = 1) : ∃ c0, cs = [c0] := by
  match cs, h with
  | [c0], _ => exact ⟨_, rfl⟩
theorem len2 {cs : List Value} (h : cs.length = 2) : ∃ c0 c1, cs = [c0, c1] := by
  match cs, h with
  | [c0, c1], _ => exact ⟨_, _, rfl⟩
theorem len3 {cs : List Value} (h : cs.length = 3) : ∃ c0 c1 c2, cs = [c0, c1, c2] := by
  match cs, h with
  | [c0, c1, c2], _ => exact ⟨_, _, _, rfl⟩
theorem len4 {cs : List Value} (h : cs.length = 4) : ∃ c0 c1 c2 c3, cs = [c0, c1, c2, c3] := by
  match cs, h with
  | [c0, c1, c2, c3], _ => exact ⟨_, _, _, _, rfl⟩
theorem len5 {cs : List Value} (h : cs.length = 5) : ∃ c0 c1 c2 c3 c4, cs = [c0, c1, c2, c3, c4] := by
  match cs, h with
  | [c0, c1, c2, c3, c4], _ => exact ⟨_, _, _, _, _, rfl⟩
theorem len6 {cs : List Value} (h : cs.length = 6) : ∃ c0 c1 c2 c3 c4 c5, cs = [c0, c1, c2, c3, c4, c5] := by
  match cs, h with
  | [c0, c1, c2, c3, c4, c5], _ => exact ⟨_, _, _, _, _, _, rfl⟩
theorem len7 {cs : List Value} (h : cs.length = 7) : ∃ c0 c1 c2 c3 c4 c5 c6, cs = [c0, c1, c2, c3, c4, c5, c6] := by
  match cs, h with
  | [c0, c1, c2, c3, c4, c5, c6], _ => exact ⟨_, _, _, _, _, _, _, rfl⟩
theorem len8 {cs : List Value} (h : cs.length = 8) : ∃ c0 c1 c2 c3 c4 c5 c6 c7, cs = [c0, c1, c2, c3, c4, c5, c6, c7] := by
  match cs, h with
  | [c0, c1, c2, c3, c4, c5, c6, c7], _ => exact ⟨_, _, _, _, _, _, _, _, rfl⟩

/-- a slice that is handed in -/
theorem open_slice_rep {H : Type} {enc : TypeId × Value → H} {P : Program} {W : World} {base : Nat} {v : Value} {d : DataW H} {ps : List MemPlace} {t e : TypeId} (ht : P.underlying t = some (.slice e))
    (hv : Value.okWide P W .any base t v) (h : DataW.Trod enc P W 0 (fun _ => true) true t v d ps) (hw : (d.weights P t).all (· ≤ reachBytes) = true) : ∃ f, Rep P W f t [v] := by
  obtain ⟨fuel, h⟩ := h
  have h1 := open_rep fuel t _ _ h hw
  rcases okWide_slice ht hv with rfl | ⟨b, off, len, cap, rfl, hle⟩
  · exact ⟨fuel, h1⟩
  · exact ⟨fuel, h1⟩
theorem rep_bytes {P : Program} {W : World} {t e : TypeId} {v : Value} (h : ∃ f, Rep P W f t [v]) (ht : P.underlying t = some (.slice e)) (he : P.underlying e = some (.int .u8)) (hc : P.cellsOf e = 1) (hb : P.bytesOf e = 1) :
    ∃ l : List UInt8, l.length ≤ 140737488351232 ∧ Rd W (fun k => k < W.heap.size) v l.length 1 (l.map U8) := by
  obtain ⟨f, h⟩ := h
  obtain ⟨v', l, h1, h2, h3⟩ := h.bytes ht he hc hb
  simp only [List.cons.injEq, and_true] at h1
  subst h1
  exact ⟨l, h2, h3⟩
theorem rep_ints {P : Program} {W : World} {t e : TypeId} {k : IntKind} {v : Value} (h : ∃ f, Rep P W f t [v]) (ht : P.underlying t = some (.slice e)) (he : P.underlying e = some (.int k)) (hc : P.cellsOf e = 1) (hb : 0 < P.bytesOf e) :
    ∃ l : List Int, l.length * P.bytesOf e ≤ 140737488351232 ∧ Rd W (fun k => k < W.heap.size) v l.length 1 (l.map fun n => .int k n) ∧ ∀ n ∈ l, inK k n := by
  obtain ⟨f, h⟩ := h
  obtain ⟨v', l, h1, h2, h3, h4⟩ := h.ints ht he hc hb
  simp only [List.cons.injEq, and_true] at h1
  subst h1
  exact ⟨l, h2, h3, h4⟩
end Go.Proofs.Ytnjfhmlfpfkllaa

/-
  octet's numbers, in plain Lean: no program in sight.
-/
namespace Go.Proofs.Ytnjfhmlfpfkllaa
open Go
set_option linter.unusedSimpArgs false
set_option linter.unusedVariables false

/-- the highest byte first -/
def beN (l : List UInt8) : Nat := l.foldl (fun n b => n * 256 + b.toNat) 0

theorem beN_snoc (l : List UInt8) (b : UInt8) : beN (l ++ [b]) = beN l * 256 + b.toNat := by simp [beN]
theorem beN_lt_from (l : List UInt8) : ∀ n, l.foldl (fun n (b : UInt8) => n * 256 + b.toNat) n < (n + 1) * 256 ^ l.length := by
  induction l with
  | nil => intro n; simp
  | cons b l ih =>
    intro n
    have h1 := ih (n * 256 + b.toNat)
    have hb := b.toNat_lt
    have h2 : (n * 256 + b.toNat + 1) * 256 ^ l.length ≤ ((n + 1) * 256) * 256 ^ l.length := Nat.mul_le_mul_right _ (by omega)
    rw [List.foldl_cons, List.length_cons, Nat.pow_succ, Nat.mul_comm (256 ^ l.length) 256, ← Nat.mul_assoc]
    omega
theorem beN_lt (l : List UInt8) : beN l < 256 ^ l.length := by
  have := beN_lt_from l 0
  simpa [beN] using this
theorem beN_take_lt (l : List UInt8) (i : Nat) (h : i < 8) : beN (l.take i) < 72057594037927936 := by
  have h1 := beN_lt (l.take i)
  have h2 : (l.take i).length ≤ 7 := by rw [List.length_take]; omega
  have h3 : 256 ^ (l.take i).length ≤ 256 ^ 7 := Nat.pow_le_pow_right (by omega) h2
  have : (256 : Nat) ^ 7 = 72057594037927936 := by decide
  omega
theorem beN_take_succ (l : List UInt8) (i : Nat) (h : i < l.length) : beN (l.take (i + 1)) = beN (l.take i) * 256 + l[i].toNat := by
  rw [List.take_succ_eq_append_getElem h, beN_snoc]

/-- the next number, and what is left -/
def decU : List UInt8 → Option (Nat × List UInt8)
  | [] => none
  | k :: r => if k.toNat ≤ 8 ∧ k.toNat ≤ r.length ∧ (k.toNat = 0 ∨ r.head? ≠ some 0) then some (beN (r.take k.toNat), r.drop k.toNat) else none

def uintR : Option (List UInt8) → Nat × Option (List UInt8)
  | none => (0, none)
  | some l => match decU l with
    | none => (0, none)
    | some (x, r) => (x, some r)

theorem nat_or_add (x b : Nat) (h : b < 256) : x * 256 ||| b = x * 256 + b := by
  have := Nat.two_pow_add_eq_or_of_lt (i := 8) (b := b) (by omega) x
  rw [Nat.mul_comm x 256]
  exact this.symm

theorem bits_or_u64 (a b : Nat) (ha : a < 18446744073709551616) (hb : b < 18446744073709551616) : bits .or .u64 (a : Int) (b : Int) = ((a ||| b : Nat) : Int) := by
  have h1 : a ||| b < 2 ^ 64 := Nat.or_lt_two_pow (n := 64) ha hb
  show IntKind.u64.wrap (((BitVec.ofInt 64 (a : Int) ||| BitVec.ofInt 64 (b : Int) : BitVec 64).toNat : Nat) : Int) = _
  rw [BitVec.ofInt_natCast, BitVec.ofInt_natCast, BitVec.toNat_or, BitVec.toNat_ofNat, BitVec.toNat_ofNat, Nat.mod_eq_of_lt (by simpa using ha), Nat.mod_eq_of_lt (by simpa using hb)]
  exact wrap_u64_in (by omega) (by omega)

theorem shl8or (x : Nat) (b : UInt8) (h : x < 72057594037927936) : bits .or .u64 (IntKind.u64.wrap ((x : Int) * 2 ^ (8 : Int).toNat)) (b.toNat : Int) = ((x * 256 + b.toNat : Nat) : Int) := by
  have hb := b.toNat_lt
  have e : ((x : Int) * 2 ^ (8 : Int).toNat) = ((x * 256 : Nat) : Int) := by
    show (x : Int) * 2 ^ 8 = _
    omega
  rw [e, wrap_u64_in (by omega) (by omega), bits_or_u64 _ _ (by omega) (by omega), nat_or_add _ _ (by omega)]

theorem decU_len {l : List UInt8} {x : Nat} {r : List UInt8} (h : decU l = some (x, r)) : r.length < l.length := by
  cases l with
  | nil => simp [decU] at h
  | cons k l =>
    simp only [decU] at h
    split at h
    · simp only [Option.some.injEq, Prod.mk.injEq] at h
      rw [← h.2, List.length_drop, List.length_cons]
      omega
    · cases h
theorem decU_lt {l : List UInt8} {x : Nat} {r : List UInt8} (h : decU l = some (x, r)) : x < 18446744073709551616 := by
  cases l with
  | nil => simp [decU] at h
  | cons k l =>
    simp only [decU] at h
    split at h
    · rename_i hk
      simp only [Option.some.injEq, Prod.mk.injEq] at h
      rw [← h.1]
      have h1 := beN_lt (l.take k.toNat)
      have h2 : (l.take k.toNat).length ≤ 8 := by rw [List.length_take]; omega
      have h3 : 256 ^ (l.take k.toNat).length ≤ 256 ^ 8 := Nat.pow_le_pow_right (by omega) h2
      have : (256 : Nat) ^ 8 = 18446744073709551616 := by decide
      omega
    · cases h
theorem uintR_lt (s : Option (List UInt8)) : (uintR s).1 < 18446744073709551616 := by
  cases s with
  | none => simp [uintR]
  | some l =>
    simp only [uintR]
    cases h : decU l with
    | none => simp
    | some p => exact decU_lt h

/-- a number with a sign, off one without -/
def zag (x : Nat) : Int := if x % 2 = 1 then -((x / 2 : Nat) : Int) - 1 else ((x / 2 : Nat) : Int)

def uptoR (most : Int) (s : Option (List UInt8)) : Nat × Option (List UInt8) :=
  match uintR s with
  | (x, some r) => if 0 ≤ most ∧ (x : Int) ≤ most then (x, some r) else (0, none)
  | (_, none) => (0, none)
def bytesR (most : Int) (s : Option (List UInt8)) : List UInt8 × Option (List UInt8) :=
  match uptoR most s with
  | (n, some r) => if n ≤ r.length then (r.take n, some (r.drop n)) else ([], none)
  | (_, none) => ([], none)

theorem bits_and1_u64 (x : Nat) (hx : x < 18446744073709551616) : bits .and .u64 (x : Int) 1 = ((x % 2 : Nat) : Int) := by
  show IntKind.u64.wrap (((BitVec.ofInt 64 (x : Int) &&& BitVec.ofInt 64 1 : BitVec 64).toNat : Nat) : Int) = _
  rw [BitVec.ofInt_natCast, BitVec.toNat_and, BitVec.toNat_ofNat, Nat.mod_eq_of_lt (by simpa using hx)]
  have : (BitVec.ofInt 64 1).toNat = 1 := by decide
  rw [this, Nat.and_one_is_mod]
  exact wrap_u64_in (by omega) (by omega)

theorem wrap_i64_hi {n : Int} (h1 : 9223372036854775808 ≤ n) (h2 : n ≤ 18446744073709551615) : IntKind.i64.wrap n = n - 18446744073709551616 := by
  simp only [IntKind.wrap, IntKind.signed, IntKind.bits, Bool.true_and]
  split <;> (rename_i h; simp only [ge_iff_le, decide_eq_true_eq] at h; omega)

theorem bits_xor_i64 (a : Nat) (b : Int) (c : Nat) (hb : (BitVec.ofInt 64 b).toNat = c) : bits .xor .i64 (a : Int) b = IntKind.i64.wrap (((a % 18446744073709551616) ^^^ c : Nat) : Int) := by
  show IntKind.i64.wrap (((BitVec.ofInt 64 (a : Int) ^^^ BitVec.ofInt 64 b : BitVec 64).toNat : Nat) : Int) = _
  rw [BitVec.ofInt_natCast, BitVec.toNat_xor, BitVec.toNat_ofNat, hb]

theorem xor_ones (q : Nat) (hq : q < 18446744073709551616) : q ^^^ 18446744073709551615 = 18446744073709551615 - q := by
  have h1 : (BitVec.ofNat 64 q ^^^ BitVec.allOnes 64).toNat = (~~~ BitVec.ofNat 64 q).toNat := by rw [BitVec.xor_allOnes]
  rw [BitVec.toNat_xor, BitVec.toNat_not, BitVec.toNat_ofNat, BitVec.toNat_allOnes, Nat.mod_eq_of_lt (by simpa using hq)] at h1
  simpa using h1

theorem zag_bits (x : Nat) (hlt : x < 18446744073709551616) :
    Value.int .i64 (bits .xor .i64 (IntKind.i64.wrap ((x : Int) / 2 ^ (1 : Int).toNat)) (IntKind.i64.wrap (-IntKind.i64.wrap (bits .and .u64 (x : Int) 1)))) = .int .i64 (zag x) := by
  have e1 : (x : Int) / 2 ^ (1 : Int).toNat = ((x / 2 : Nat) : Int) := by
    show (x : Int) / 2 ^ 1 = _
    omega
  rw [e1, bits_and1_u64 x hlt, wrap_i64_in (n := ((x / 2 : Nat) : Int)) (by omega) (by omega), wrap_i64_in (n := ((x % 2 : Nat) : Int)) (by omega) (by omega), wrap_i64_in (n := -((x % 2 : Nat) : Int)) (by omega) (by omega)]
  congr 1
  unfold zag
  by_cases h : x % 2 = 1
  · rw [if_pos h, h, bits_xor_i64 _ _ 18446744073709551615 (by decide), Nat.mod_eq_of_lt (by omega), xor_ones _ (by omega), wrap_i64_hi (by omega) (by omega)]
    omega
  · have h0 : x % 2 = 0 := by omega
    rw [if_neg h, h0, bits_xor_i64 _ _ 0 (by decide), Nat.mod_eq_of_lt (by omega), Nat.xor_zero, wrap_i64_in (by omega) (by omega)]

/-- how many bytes a number has -/
def blen (n : Nat) : Nat := if h : n = 0 then 0 else blen (n / 256) + 1
termination_by n
decreasing_by omega

theorem blen_zero : blen 0 = 0 := by unfold blen; simp
theorem blen_pos {n : Nat} (h : n ≠ 0) : blen n = blen (n / 256) + 1 := by
  rw [blen]
  simp [h]

theorem lt_blen : ∀ (i n : Nat), i < blen n ↔ 0 < n / 256 ^ i
  | 0, n => by
    by_cases h : n = 0
    · subst h; simp [blen_zero]
    · rw [blen_pos h]; simp; omega
  | i + 1, n => by
    by_cases h : n = 0
    · subst h; simp [blen_zero]
    · rw [blen_pos h, Nat.pow_succ, Nat.mul_comm (256 ^ i), ← Nat.div_div_eq_div_mul, ← lt_blen i]
      omega

theorem blen_le {n k : Nat} (h : n < 256 ^ k) : blen n ≤ k := by
  rcases Nat.lt_or_ge k (blen n) with h1 | h1
  · rw [lt_blen, Nat.div_eq_of_lt h] at h1
    omega
  · exact h1

/-- the i-th byte from below -/
def byteAt (n i : Nat) : UInt8 := UInt8.ofNat (n / 256 ^ i % 256)

/-- so many bytes of a number, the highest first -/
def beB (n : Nat) : Nat → List UInt8
  | 0 => []
  | k + 1 => byteAt n k :: beB n k

/-- a number as bytes -/
def encU (n : Nat) : List UInt8 := UInt8.ofNat (blen n) :: beB n (blen n)

theorem beB_length (n : Nat) : ∀ k, (beB n k).length = k
  | 0 => rfl
  | k + 1 => by simp [beB, beB_length n k]
theorem encU_length (n : Nat) : (encU n).length = blen n + 1 := by simp [encU, beB_length]

theorem shr_byte (n i : Nat) : (n : Int) / 2 ^ ((8 : Int) * (i : Int)).toNat = ((n / 256 ^ i : Nat) : Int) := by
  have e : ((8 : Int) * (i : Int)).toNat = 8 * i := by omega
  rw [e, Nat.pow_mul 2 8 i |> fun h => (by exact_mod_cast h : ((2 : Int) ^ (8 * i)) = ((256 ^ i : Nat) : Int))]
  exact_mod_cast rfl

theorem wrap_u8_byte (n i : Nat) : Value.int .u8 (IntKind.u8.wrap ((n / 256 ^ i : Nat) : Int)) = U8 (byteAt n i) := by
  unfold U8 byteAt
  congr 1
  rw [UInt8.toNat_ofNat']
  simp only [IntKind.wrap, IntKind.signed, IntKind.bits, Bool.false_and, Bool.false_eq_true, if_false]
  omega
/-- a number without a sign, off one with -/
def zig (x : Int) : Nat := if x < 0 then (-2 * x - 1).toNat else (2 * x).toNat

theorem wrap_u64_neg {n : Int} (h1 : -18446744073709551616 ≤ n) (h2 : n < 0) : IntKind.u64.wrap n = n + 18446744073709551616 := by
  simp only [IntKind.wrap, IntKind.signed, IntKind.bits, Bool.false_and, Bool.false_eq_true, if_false]
  omega

theorem wrap_u64_i64 (y : Int) : IntKind.u64.wrap (IntKind.i64.wrap y) = IntKind.u64.wrap y := by
  simp only [IntKind.wrap, IntKind.signed, IntKind.bits, Bool.true_and, Bool.false_and, Bool.false_eq_true, if_false]
  split <;> omega

theorem bits_xor_u64 (a b : Nat) (ha : a < 18446744073709551616) (hb : b < 18446744073709551616) : bits .xor .u64 (a : Int) (b : Int) = ((a ^^^ b : Nat) : Int) := by
  have h1 : a ^^^ b < 2 ^ 64 := Nat.xor_lt_two_pow (n := 64) ha hb
  show IntKind.u64.wrap (((BitVec.ofInt 64 (a : Int) ^^^ BitVec.ofInt 64 (b : Int) : BitVec 64).toNat : Nat) : Int) = _
  rw [BitVec.ofInt_natCast, BitVec.ofInt_natCast, BitVec.toNat_xor, BitVec.toNat_ofNat, BitVec.toNat_ofNat, Nat.mod_eq_of_lt (by simpa using ha), Nat.mod_eq_of_lt (by simpa using hb)]
  exact wrap_u64_in (by omega) (by omega)

theorem zig_lt {x : Int} (h1 : -9223372036854775808 ≤ x) (h2 : x ≤ 9223372036854775807) : zig x < 18446744073709551616 := by
  unfold zig
  split <;> omega

theorem zig_bits {x : Int} (h1 : -9223372036854775808 ≤ x) (h2 : x ≤ 9223372036854775807) :
    bits .xor .u64 (IntKind.u64.wrap (IntKind.i64.wrap (x * 2 ^ (1 : Int).toNat))) (IntKind.u64.wrap (x / 2 ^ (63 : Int).toNat)) = (zig x : Int) := by
  rw [wrap_u64_i64]
  have e1 : x * 2 ^ (1 : Int).toNat = 2 * x := by
    show x * 2 ^ 1 = _
    omega
  have e2 : x / 2 ^ (63 : Int).toNat = if x < 0 then -1 else 0 := by
    show x / 9223372036854775808 = _
    split <;> omega
  rw [e1, e2]
  unfold zig
  by_cases h : x < 0
  · rw [if_pos h, if_pos h, wrap_u64_neg (n := 2 * x) (by omega) (by omega), wrap_u64_neg (n := -1) (by omega) (by omega)]
    have e3 : 2 * x + 18446744073709551616 = ((2 * x + 18446744073709551616).toNat : Int) := by omega
    have e4 : (-1 : Int) + 18446744073709551616 = ((18446744073709551615 : Nat) : Int) := by omega
    rw [e3, e4, bits_xor_u64 _ _ (by omega) (by omega), xor_ones _ (by omega)]
    omega
  · rw [if_neg h, if_neg h, wrap_u64_in (n := 2 * x) (by omega) (by omega), wrap_u64_in (n := 0) (by omega) (by omega)]
    have e3 : 2 * x = ((2 * x).toNat : Int) := by omega
    have e4 : (0 : Int) = ((0 : Nat) : Int) := rfl
    rw [e3, e4, bits_xor_u64 _ _ (by omega) (by omega), Nat.xor_zero]
    omega
end Go.Proofs.Ytnjfhmlfpfkllaa

/-
  CRC-32C, in plain Lean: no program in sight.
-/
namespace Go.Proofs.Ytnjfhmlfpfkllaa
open Go
set_option linter.unusedSimpArgs false
set_option linter.unusedVariables false

theorem bits_xor_u32 (a b : Nat) (ha : a < 4294967296) (hb : b < 4294967296) : bits .xor .u32 (a : Int) (b : Int) = ((a ^^^ b : Nat) : Int) := by
  have h1 : a ^^^ b < 2 ^ 32 := Nat.xor_lt_two_pow (n := 32) ha hb
  show IntKind.u32.wrap (((BitVec.ofInt 32 (a : Int) ^^^ BitVec.ofInt 32 (b : Int) : BitVec 32).toNat : Nat) : Int) = _
  rw [BitVec.ofInt_natCast, BitVec.ofInt_natCast, BitVec.toNat_xor, BitVec.toNat_ofNat, BitVec.toNat_ofNat, Nat.mod_eq_of_lt (by simpa using ha), Nat.mod_eq_of_lt (by simpa using hb)]
  exact wrap_u32_in (by omega) (by omega)
theorem bits_and_u32 (a b : Nat) (ha : a < 4294967296) (hb : b < 4294967296) : bits .and .u32 (a : Int) (b : Int) = ((a &&& b : Nat) : Int) := by
  have h1 : a &&& b < 2 ^ 32 := Nat.and_lt_two_pow (n := 32) a hb
  show IntKind.u32.wrap (((BitVec.ofInt 32 (a : Int) &&& BitVec.ofInt 32 (b : Int) : BitVec 32).toNat : Nat) : Int) = _
  rw [BitVec.ofInt_natCast, BitVec.ofInt_natCast, BitVec.toNat_and, BitVec.toNat_ofNat, BitVec.toNat_ofNat, Nat.mod_eq_of_lt (by simpa using ha), Nat.mod_eq_of_lt (by simpa using hb)]
  exact wrap_u32_in (by omega) (by omega)

/-- one bit -/
def stepC (c : Nat) : Nat := (c / 2) ^^^ (if c % 2 = 1 then 2197175160 else 0)
def stepN : Nat → Nat → Nat
  | 0, c => c
  | j + 1, c => stepC (stepN j c)
/-- one byte -/
def crcB (c : Nat) (b : UInt8) : Nat := stepN 8 (c ^^^ b.toNat)
def crcR (l : List UInt8) : Nat := l.foldl crcB 4294967295
/-- CRC-32C -/
def crc (l : List UInt8) : Nat := crcR l ^^^ 4294967295

theorem stepC_lt {c : Nat} (h : c < 4294967296) : stepC c < 4294967296 := by
  unfold stepC
  refine Nat.xor_lt_two_pow (n := 32) (by omega) ?_
  split <;> omega
theorem stepN_lt : ∀ (j : Nat) {c : Nat}, c < 4294967296 → stepN j c < 4294967296
  | 0, _, h => h
  | j + 1, _, h => stepC_lt (stepN_lt j h)
theorem crcB_lt {c : Nat} (b : UInt8) (h : c < 4294967296) : crcB c b < 4294967296 :=
  stepN_lt 8 (Nat.xor_lt_two_pow (n := 32) h (by have := b.toNat_lt; omega))
theorem foldl_crcB_lt : ∀ (l : List UInt8) {c : Nat}, c < 4294967296 → l.foldl crcB c < 4294967296
  | [], _, h => h
  | b :: l, _, h => foldl_crcB_lt l (crcB_lt b h)
theorem crcR_lt (l : List UInt8) : crcR l < 4294967296 := foldl_crcB_lt l (by omega)
theorem crc_lt (l : List UInt8) : crc l < 4294967296 := Nat.xor_lt_two_pow (n := 32) (crcR_lt l) (by omega)

theorem wrap_u32_neg1 : IntKind.u32.wrap (-1) = 4294967295 := by decide

theorem step_bits {c : Nat} (h : c < 4294967296) :
    bits .xor .u32 ((c : Int) / 2 ^ (1 : Int).toNat) (bits .and .u32 2197175160 (IntKind.u32.wrap (-(bits .and .u32 (c : Int) 1)))) = (stepC c : Int) := by
  have e1 : (c : Int) / 2 ^ (1 : Int).toNat = ((c / 2 : Nat) : Int) := by
    show (c : Int) / 2 ^ 1 = _
    omega
  have e2 : bits .and .u32 (c : Int) 1 = ((c % 2 : Nat) : Int) := by
    rw [show (1 : Int) = ((1 : Nat) : Int) from rfl, bits_and_u32 _ _ h (by omega), Nat.and_one_is_mod]
  rw [e1, e2]
  unfold stepC
  by_cases h1 : c % 2 = 1
  · rw [if_pos h1, h1]
    have e3 : bits .and .u32 2197175160 (IntKind.u32.wrap (-((1 : Nat) : Int))) = ((2197175160 : Nat) : Int) := by decide
    rw [e3, bits_xor_u32 _ _ (by omega) (by omega)]
  · have h0 : c % 2 = 0 := by omega
    rw [if_neg h1, h0]
    have e3 : bits .and .u32 2197175160 (IntKind.u32.wrap (-((0 : Nat) : Int))) = ((0 : Nat) : Int) := by decide
    rw [e3, bits_xor_u32 _ _ (by omega) (by omega)]

theorem com_bits {c : Nat} (h : c < 4294967296) : ((c ^^^ 4294967295 : Nat) : Int) = 4294967295 - (c : Int) := by
  have h1 : (BitVec.ofNat 32 c ^^^ BitVec.allOnes 32).toNat = (~~~ BitVec.ofNat 32 c).toNat := by rw [BitVec.xor_allOnes]
  rw [BitVec.toNat_xor, BitVec.toNat_not, BitVec.toNat_ofNat, BitVec.toNat_allOnes, Nat.mod_eq_of_lt (by simpa using h)] at h1
  have h2 : c ^^^ 4294967295 = 4294967295 - c := by simpa using h1
  rw [h2]
  omega
end Go.Proofs.Ytnjfhmlfpfkllaa

/-
  Closed facts on the types and functions of this seat, by a program of this work (tab.py).
-/
namespace Go.Proofs.Ytnjfhmlfpfkllaa

theorem zero_0 : zeroOf Try.prog 0 = some (.tuple #[]) := by kernel_rfl
theorem some_0 : (Try.prog.underlying 0).isSome = true := by kernel_rfl
theorem flat_1 : flatB Try.prog 1 = true := by kernel_rfl
theorem size_1 : sizeIs Try.prog 1 1 = true := by kernel_rfl
theorem zero_1 : zeroOf Try.prog 1 = some (.nilFunc) := by kernel_rfl
theorem some_1 : (Try.prog.underlying 1).isSome = true := by kernel_rfl
theorem flat_2 : flatB Try.prog 2 = true := by kernel_rfl
theorem size_2 : sizeIs Try.prog 2 1 = true := by kernel_rfl
theorem zero_2 : zeroOf Try.prog 2 = some (.int .i64 0) := by kernel_rfl
theorem int_2 : Try.prog.underlying 2 = some (.int .i64) := by kernel_rfl
theorem some_2 : (Try.prog.underlying 2).isSome = true := by kernel_rfl
theorem flat_3 : flatB Try.prog 3 = true := by kernel_rfl
theorem size_3 : sizeIs Try.prog 3 1 = true := by kernel_rfl
theorem zero_3 : zeroOf Try.prog 3 = some (.int .i64 0) := by kernel_rfl
theorem int_3 : Try.prog.underlying 3 = some (.int .i64) := by kernel_rfl
theorem some_3 : (Try.prog.underlying 3).isSome = true := by kernel_rfl
theorem flat_4 : flatB Try.prog 4 = true := by kernel_rfl
theorem size_4 : sizeIs Try.prog 4 1 = true := by kernel_rfl
theorem zero_4 : zeroOf Try.prog 4 = some (.bool false) := by kernel_rfl
theorem bool_4 : Try.prog.underlying 4 = some .bool := by kernel_rfl
theorem some_4 : (Try.prog.underlying 4).isSome = true := by kernel_rfl
theorem flat_5 : flatB Try.prog 5 = true := by kernel_rfl
theorem size_5 : sizeIs Try.prog 5 1 = true := by kernel_rfl
theorem zero_5 : zeroOf Try.prog 5 = some (.int .u8 0) := by kernel_rfl
theorem int_5 : Try.prog.underlying 5 = some (.int .u8) := by kernel_rfl
theorem some_5 : (Try.prog.underlying 5).isSome = true := by kernel_rfl
theorem flat_9 : flatB Try.prog 9 = true := by kernel_rfl
theorem size_9 : sizeIs Try.prog 9 1 = true := by kernel_rfl
theorem zero_9 : zeroOf Try.prog 9 = some (.string ⟨#[]⟩) := by kernel_rfl
theorem str_9 : Try.prog.underlying 9 = some .string := by kernel_rfl
theorem some_9 : (Try.prog.underlying 9).isSome = true := by kernel_rfl
theorem flat_12 : flatB Try.prog 12 = true := by kernel_rfl
theorem size_12 : sizeIs Try.prog 12 1 = true := by kernel_rfl
theorem zero_12 : zeroOf Try.prog 12 = some (.int .u64 0) := by kernel_rfl
theorem int_12 : Try.prog.underlying 12 = some (.int .u64) := by kernel_rfl
theorem some_12 : (Try.prog.underlying 12).isSome = true := by kernel_rfl
theorem agg_13 : aggB Try.prog 13 = true := by kernel_rfl
theorem size_13 : sizeIs Try.prog 13 2 = true := by kernel_rfl
theorem zero_13 : zeroOf Try.prog 13 = some (.agg #[.string ⟨#[]⟩, .int .u64 0]) := by kernel_rfl
theorem plc_13 : placesOf Try.prog 13 = some [(0, 1), (1, 1)] := by kernel_rfl
theorem fld_13_0 : fieldOff Try.prog 13 0 = some 0 := by kernel_rfl
theorem fld_13_1 : fieldOff Try.prog 13 1 = some 1 := by kernel_rfl
theorem some_13 : (Try.prog.underlying 13).isSome = true := by kernel_rfl
theorem flat_20 : flatB Try.prog 20 = true := by kernel_rfl
theorem size_20 : sizeIs Try.prog 20 1 = true := by kernel_rfl
theorem zero_20 : zeroOf Try.prog 20 = some (.nilIface) := by kernel_rfl
theorem some_20 : (Try.prog.underlying 20).isSome = true := by kernel_rfl
theorem flat_21 : flatB Try.prog 21 = true := by kernel_rfl
theorem size_21 : sizeIs Try.prog 21 1 = true := by kernel_rfl
theorem zero_21 : zeroOf Try.prog 21 = some (.int .i32 0) := by kernel_rfl
theorem int_21 : Try.prog.underlying 21 = some (.int .i32) := by kernel_rfl
theorem some_21 : (Try.prog.underlying 21).isSome = true := by kernel_rfl
theorem flat_22 : flatB Try.prog 22 = true := by kernel_rfl
theorem size_22 : sizeIs Try.prog 22 1 = true := by kernel_rfl
theorem zero_22 : zeroOf Try.prog 22 = some (.slice none 0 0) := by kernel_rfl
theorem elem_22 : sliceElem Try.prog 22 = some 5 := by kernel_rfl
theorem row_22 : RowT Try.prog 22 5 1 1 (.int .u8 0) := ⟨by kernel_rfl, by kernel_rfl, rfl, by decide⟩
theorem some_22 : (Try.prog.underlying 22).isSome = true := by kernel_rfl
theorem flat_23 : flatB Try.prog 23 = true := by kernel_rfl
theorem size_23 : sizeIs Try.prog 23 1 = true := by kernel_rfl
theorem zero_23 : zeroOf Try.prog 23 = some (.nilFunc) := by kernel_rfl
theorem some_23 : (Try.prog.underlying 23).isSome = true := by kernel_rfl
theorem flat_24 : flatB Try.prog 24 = true := by kernel_rfl
theorem size_24 : sizeIs Try.prog 24 1 = true := by kernel_rfl
theorem zero_24 : zeroOf Try.prog 24 = some (.pointer none) := by kernel_rfl
theorem ptr_24 : Try.prog.underlying 24 = some (.pointer (Try.prog.pointee 24)) := by kernel_rfl
theorem some_24 : (Try.prog.underlying 24).isSome = true := by kernel_rfl
theorem flat_25 : flatB Try.prog 25 = true := by kernel_rfl
theorem size_25 : sizeIs Try.prog 25 1 = true := by kernel_rfl
theorem zero_25 : zeroOf Try.prog 25 = some (.pointer none) := by kernel_rfl
theorem ptr_25 : Try.prog.underlying 25 = some (.pointer (Try.prog.pointee 25)) := by kernel_rfl
theorem some_25 : (Try.prog.underlying 25).isSome = true := by kernel_rfl
theorem zero_26 : zeroOf Try.prog 26 = some (.tuple #[.pointer none, .pointer none]) := by kernel_rfl
theorem some_26 : (Try.prog.underlying 26).isSome = true := by kernel_rfl
theorem flat_27 : flatB Try.prog 27 = true := by kernel_rfl
theorem size_27 : sizeIs Try.prog 27 1 = true := by kernel_rfl
theorem zero_27 : zeroOf Try.prog 27 = some (.nilFunc) := by kernel_rfl
theorem some_27 : (Try.prog.underlying 27).isSome = true := by kernel_rfl
theorem flat_28 : flatB Try.prog 28 = true := by kernel_rfl
theorem size_28 : sizeIs Try.prog 28 1 = true := by kernel_rfl
theorem zero_28 : zeroOf Try.prog 28 = some (.slice none 0 0) := by kernel_rfl
theorem elem_28 : sliceElem Try.prog 28 = some 33 := by kernel_rfl
theorem row_28 : RowT Try.prog 28 33 4 48 (.agg #[.int .u64 0, .int .u64 0, .int .u64 0, .slice none 0 0]) := ⟨by kernel_rfl, by kernel_rfl, rfl, by decide⟩
theorem some_28 : (Try.prog.underlying 28).isSome = true := by kernel_rfl
theorem flat_29 : flatB Try.prog 29 = true := by kernel_rfl
theorem size_29 : sizeIs Try.prog 29 1 = true := by kernel_rfl
theorem zero_29 : zeroOf Try.prog 29 = some (.int .u64 0) := by kernel_rfl
theorem int_29 : Try.prog.underlying 29 = some (.int .u64) := by kernel_rfl
theorem some_29 : (Try.prog.underlying 29).isSome = true := by kernel_rfl
theorem agg_30 : aggB Try.prog 30 = true := by kernel_rfl
theorem size_30 : sizeIs Try.prog 30 4 = true := by kernel_rfl
theorem zero_30 : zeroOf Try.prog 30 = some (.agg #[.int .u64 0, .int .i64 0, .int .u64 0, .slice none 0 0]) := by kernel_rfl
theorem plc_30 : placesOf Try.prog 30 = some [(0, 1), (1, 1), (2, 1), (3, 1)] := by kernel_rfl
theorem fld_30_0 : fieldOff Try.prog 30 0 = some 0 := by kernel_rfl
theorem fld_30_1 : fieldOff Try.prog 30 1 = some 1 := by kernel_rfl
theorem fld_30_2 : fieldOff Try.prog 30 2 = some 2 := by kernel_rfl
theorem fld_30_3 : fieldOff Try.prog 30 3 = some 3 := by kernel_rfl
theorem some_30 : (Try.prog.underlying 30).isSome = true := by kernel_rfl
theorem agg_31 : aggB Try.prog 31 = true := by kernel_rfl
theorem size_31 : sizeIs Try.prog 31 4 = true := by kernel_rfl
theorem zero_31 : zeroOf Try.prog 31 = some (.agg #[.int .u64 0, .int .i64 0, .int .u64 0, .slice none 0 0]) := by kernel_rfl
theorem plc_31 : placesOf Try.prog 31 = some [(0, 1), (1, 1), (2, 1), (3, 1)] := by kernel_rfl
theorem fld_31_0 : fieldOff Try.prog 31 0 = some 0 := by kernel_rfl
theorem fld_31_1 : fieldOff Try.prog 31 1 = some 1 := by kernel_rfl
theorem fld_31_2 : fieldOff Try.prog 31 2 = some 2 := by kernel_rfl
theorem fld_31_3 : fieldOff Try.prog 31 3 = some 3 := by kernel_rfl
theorem some_31 : (Try.prog.underlying 31).isSome = true := by kernel_rfl
theorem agg_32 : aggB Try.prog 32 = true := by kernel_rfl
theorem size_32 : sizeIs Try.prog 32 4 = true := by kernel_rfl
theorem zero_32 : zeroOf Try.prog 32 = some (.agg #[.int .u64 0, .int .u64 0, .int .u64 0, .slice none 0 0]) := by kernel_rfl
theorem plc_32 : placesOf Try.prog 32 = some [(0, 1), (1, 1), (2, 1), (3, 1)] := by kernel_rfl
theorem fld_32_0 : fieldOff Try.prog 32 0 = some 0 := by kernel_rfl
theorem fld_32_1 : fieldOff Try.prog 32 1 = some 1 := by kernel_rfl
theorem fld_32_2 : fieldOff Try.prog 32 2 = some 2 := by kernel_rfl
theorem fld_32_3 : fieldOff Try.prog 32 3 = some 3 := by kernel_rfl
theorem some_32 : (Try.prog.underlying 32).isSome = true := by kernel_rfl
theorem agg_33 : aggB Try.prog 33 = true := by kernel_rfl
theorem size_33 : sizeIs Try.prog 33 4 = true := by kernel_rfl
theorem zero_33 : zeroOf Try.prog 33 = some (.agg #[.int .u64 0, .int .u64 0, .int .u64 0, .slice none 0 0]) := by kernel_rfl
theorem plc_33 : placesOf Try.prog 33 = some [(0, 1), (1, 1), (2, 1), (3, 1)] := by kernel_rfl
theorem fld_33_0 : fieldOff Try.prog 33 0 = some 0 := by kernel_rfl
theorem fld_33_1 : fieldOff Try.prog 33 1 = some 1 := by kernel_rfl
theorem fld_33_2 : fieldOff Try.prog 33 2 = some 2 := by kernel_rfl
theorem fld_33_3 : fieldOff Try.prog 33 3 = some 3 := by kernel_rfl
theorem some_33 : (Try.prog.underlying 33).isSome = true := by kernel_rfl
theorem flat_34 : flatB Try.prog 34 = true := by kernel_rfl
theorem size_34 : sizeIs Try.prog 34 1 = true := by kernel_rfl
theorem zero_34 : zeroOf Try.prog 34 = some (.int .i64 0) := by kernel_rfl
theorem int_34 : Try.prog.underlying 34 = some (.int .i64) := by kernel_rfl
theorem some_34 : (Try.prog.underlying 34).isSome = true := by kernel_rfl
theorem flat_35 : flatB Try.prog 35 = true := by kernel_rfl
theorem size_35 : sizeIs Try.prog 35 1 = true := by kernel_rfl
theorem zero_35 : zeroOf Try.prog 35 = some (.nilFunc) := by kernel_rfl
theorem some_35 : (Try.prog.underlying 35).isSome = true := by kernel_rfl
theorem agg_36 : aggB Try.prog 36 = true := by kernel_rfl
theorem size_36 : sizeIs Try.prog 36 4 = true := by kernel_rfl
theorem zero_36 : zeroOf Try.prog 36 = some (.agg #[.int .u64 0, .int .i64 0, .int .u64 0, .slice none 0 0]) := by kernel_rfl
theorem plc_36 : placesOf Try.prog 36 = some [(0, 1), (1, 1), (2, 1), (3, 1)] := by kernel_rfl
theorem fld_36_0 : fieldOff Try.prog 36 0 = some 0 := by kernel_rfl
theorem fld_36_1 : fieldOff Try.prog 36 1 = some 1 := by kernel_rfl
theorem fld_36_2 : fieldOff Try.prog 36 2 = some 2 := by kernel_rfl
theorem fld_36_3 : fieldOff Try.prog 36 3 = some 3 := by kernel_rfl
theorem some_36 : (Try.prog.underlying 36).isSome = true := by kernel_rfl
theorem flat_37 : flatB Try.prog 37 = true := by kernel_rfl
theorem size_37 : sizeIs Try.prog 37 1 = true := by kernel_rfl
theorem zero_37 : zeroOf Try.prog 37 = some (.nilFunc) := by kernel_rfl
theorem some_37 : (Try.prog.underlying 37).isSome = true := by kernel_rfl
theorem flat_38 : flatB Try.prog 38 = true := by kernel_rfl
theorem size_38 : sizeIs Try.prog 38 1 = true := by kernel_rfl
theorem zero_38 : zeroOf Try.prog 38 = some (.nilFunc) := by kernel_rfl
theorem some_38 : (Try.prog.underlying 38).isSome = true := by kernel_rfl
theorem flat_39 : flatB Try.prog 39 = true := by kernel_rfl
theorem size_39 : sizeIs Try.prog 39 1 = true := by kernel_rfl
theorem zero_39 : zeroOf Try.prog 39 = some (.nilFunc) := by kernel_rfl
theorem some_39 : (Try.prog.underlying 39).isSome = true := by kernel_rfl
theorem flat_40 : flatB Try.prog 40 = true := by kernel_rfl
theorem size_40 : sizeIs Try.prog 40 1 = true := by kernel_rfl
theorem zero_40 : zeroOf Try.prog 40 = some (.nilFunc) := by kernel_rfl
theorem some_40 : (Try.prog.underlying 40).isSome = true := by kernel_rfl
theorem flat_41 : flatB Try.prog 41 = true := by kernel_rfl
theorem size_41 : sizeIs Try.prog 41 1 = true := by kernel_rfl
theorem zero_41 : zeroOf Try.prog 41 = some (.slice none 0 0) := by kernel_rfl
theorem elem_41 : sliceElem Try.prog 41 = some 46 := by kernel_rfl
theorem row_41 : RowT Try.prog 41 46 8 96 (.agg #[.int .u8 0, .int .u64 0, .int .i64 0, .int .u8 0, .int .u64 0, .slice none 0 0, .bool false, .slice none 0 0]) := ⟨by kernel_rfl, by kernel_rfl, rfl, by decide⟩
theorem some_41 : (Try.prog.underlying 41).isSome = true := by kernel_rfl
theorem flat_42 : flatB Try.prog 42 = true := by kernel_rfl
theorem size_42 : sizeIs Try.prog 42 1 = true := by kernel_rfl
theorem zero_42 : zeroOf Try.prog 42 = some (.nilFunc) := by kernel_rfl
theorem some_42 : (Try.prog.underlying 42).isSome = true := by kernel_rfl
theorem flat_43 : flatB Try.prog 43 = true := by kernel_rfl
theorem size_43 : sizeIs Try.prog 43 1 = true := by kernel_rfl
theorem zero_43 : zeroOf Try.prog 43 = some (.nilFunc) := by kernel_rfl
theorem some_43 : (Try.prog.underlying 43).isSome = true := by kernel_rfl
theorem flat_44 : flatB Try.prog 44 = true := by kernel_rfl
theorem size_44 : sizeIs Try.prog 44 1 = true := by kernel_rfl
theorem zero_44 : zeroOf Try.prog 44 = some (.slice none 0 0) := by kernel_rfl
theorem elem_44 : sliceElem Try.prog 44 = some 3 := by kernel_rfl
theorem row_44 : RowT Try.prog 44 3 1 8 (.int .i64 0) := ⟨by kernel_rfl, by kernel_rfl, rfl, by decide⟩
theorem some_44 : (Try.prog.underlying 44).isSome = true := by kernel_rfl
theorem agg_45 : aggB Try.prog 45 = true := by kernel_rfl
theorem size_45 : sizeIs Try.prog 45 8 = true := by kernel_rfl
theorem zero_45 : zeroOf Try.prog 45 = some (.agg #[.int .u8 0, .int .u64 0, .int .i64 0, .int .u8 0, .int .u64 0, .slice none 0 0, .bool false, .slice none 0 0]) := by kernel_rfl
theorem plc_45 : placesOf Try.prog 45 = some [(0, 1), (1, 1), (2, 1), (3, 1), (4, 1), (5, 1), (6, 1), (7, 1)] := by kernel_rfl
theorem fld_45_0 : fieldOff Try.prog 45 0 = some 0 := by kernel_rfl
theorem fld_45_1 : fieldOff Try.prog 45 1 = some 1 := by kernel_rfl
theorem fld_45_2 : fieldOff Try.prog 45 2 = some 2 := by kernel_rfl
theorem fld_45_3 : fieldOff Try.prog 45 3 = some 3 := by kernel_rfl
theorem fld_45_4 : fieldOff Try.prog 45 4 = some 4 := by kernel_rfl
theorem fld_45_5 : fieldOff Try.prog 45 5 = some 5 := by kernel_rfl
theorem fld_45_6 : fieldOff Try.prog 45 6 = some 6 := by kernel_rfl
theorem fld_45_7 : fieldOff Try.prog 45 7 = some 7 := by kernel_rfl
theorem some_45 : (Try.prog.underlying 45).isSome = true := by kernel_rfl
theorem agg_46 : aggB Try.prog 46 = true := by kernel_rfl
theorem size_46 : sizeIs Try.prog 46 8 = true := by kernel_rfl
theorem zero_46 : zeroOf Try.prog 46 = some (.agg #[.int .u8 0, .int .u64 0, .int .i64 0, .int .u8 0, .int .u64 0, .slice none 0 0, .bool false, .slice none 0 0]) := by kernel_rfl
theorem plc_46 : placesOf Try.prog 46 = some [(0, 1), (1, 1), (2, 1), (3, 1), (4, 1), (5, 1), (6, 1), (7, 1)] := by kernel_rfl
theorem fld_46_0 : fieldOff Try.prog 46 0 = some 0 := by kernel_rfl
theorem fld_46_1 : fieldOff Try.prog 46 1 = some 1 := by kernel_rfl
theorem fld_46_2 : fieldOff Try.prog 46 2 = some 2 := by kernel_rfl
theorem fld_46_3 : fieldOff Try.prog 46 3 = some 3 := by kernel_rfl
theorem fld_46_4 : fieldOff Try.prog 46 4 = some 4 := by kernel_rfl
theorem fld_46_5 : fieldOff Try.prog 46 5 = some 5 := by kernel_rfl
theorem fld_46_6 : fieldOff Try.prog 46 6 = some 6 := by kernel_rfl
theorem fld_46_7 : fieldOff Try.prog 46 7 = some 7 := by kernel_rfl
theorem some_46 : (Try.prog.underlying 46).isSome = true := by kernel_rfl
theorem zero_47 : zeroOf Try.prog 47 = some (.tuple #[.pointer none, .int .i64 0]) := by kernel_rfl
theorem some_47 : (Try.prog.underlying 47).isSome = true := by kernel_rfl
theorem flat_48 : flatB Try.prog 48 = true := by kernel_rfl
theorem size_48 : sizeIs Try.prog 48 1 = true := by kernel_rfl
theorem zero_48 : zeroOf Try.prog 48 = some (.nilFunc) := by kernel_rfl
theorem some_48 : (Try.prog.underlying 48).isSome = true := by kernel_rfl
theorem flat_49 : flatB Try.prog 49 = true := by kernel_rfl
theorem size_49 : sizeIs Try.prog 49 1 = true := by kernel_rfl
theorem zero_49 : zeroOf Try.prog 49 = some (.nilFunc) := by kernel_rfl
theorem some_49 : (Try.prog.underlying 49).isSome = true := by kernel_rfl
theorem zero_50 : zeroOf Try.prog 50 = some (.tuple #[.pointer none, .int .i64 0]) := by kernel_rfl
theorem some_50 : (Try.prog.underlying 50).isSome = true := by kernel_rfl
theorem flat_51 : flatB Try.prog 51 = true := by kernel_rfl
theorem size_51 : sizeIs Try.prog 51 1 = true := by kernel_rfl
theorem zero_51 : zeroOf Try.prog 51 = some (.nilFunc) := by kernel_rfl
theorem some_51 : (Try.prog.underlying 51).isSome = true := by kernel_rfl
theorem agg_52 : aggB Try.prog 52 = true := by kernel_rfl
theorem size_52 : sizeIs Try.prog 52 8 = true := by kernel_rfl
theorem zero_52 : zeroOf Try.prog 52 = some (.agg #[.pointer none, .int .i64 0, .int .i64 0, .int .u64 0, .int .u64 0, .int .i64 0, .int .u64 0, .slice none 0 0]) := by kernel_rfl
theorem plc_52 : placesOf Try.prog 52 = some [(0, 1), (1, 1), (2, 1), (3, 1), (4, 4)] := by kernel_rfl
theorem fld_52_0 : fieldOff Try.prog 52 0 = some 0 := by kernel_rfl
theorem fld_52_1 : fieldOff Try.prog 52 1 = some 1 := by kernel_rfl
theorem fld_52_2 : fieldOff Try.prog 52 2 = some 2 := by kernel_rfl
theorem fld_52_3 : fieldOff Try.prog 52 3 = some 3 := by kernel_rfl
theorem fld_52_4 : fieldOff Try.prog 52 4 = some 4 := by kernel_rfl
theorem some_52 : (Try.prog.underlying 52).isSome = true := by kernel_rfl
theorem agg_53 : aggB Try.prog 53 = true := by kernel_rfl
theorem size_53 : sizeIs Try.prog 53 8 = true := by kernel_rfl
theorem zero_53 : zeroOf Try.prog 53 = some (.agg #[.pointer none, .int .i64 0, .int .i64 0, .int .u64 0, .int .u64 0, .int .i64 0, .int .u64 0, .slice none 0 0]) := by kernel_rfl
theorem plc_53 : placesOf Try.prog 53 = some [(0, 1), (1, 1), (2, 1), (3, 1), (4, 4)] := by kernel_rfl
theorem fld_53_0 : fieldOff Try.prog 53 0 = some 0 := by kernel_rfl
theorem fld_53_1 : fieldOff Try.prog 53 1 = some 1 := by kernel_rfl
theorem fld_53_2 : fieldOff Try.prog 53 2 = some 2 := by kernel_rfl
theorem fld_53_3 : fieldOff Try.prog 53 3 = some 3 := by kernel_rfl
theorem fld_53_4 : fieldOff Try.prog 53 4 = some 4 := by kernel_rfl
theorem some_53 : (Try.prog.underlying 53).isSome = true := by kernel_rfl
theorem flat_54 : flatB Try.prog 54 = true := by kernel_rfl
theorem size_54 : sizeIs Try.prog 54 1 = true := by kernel_rfl
theorem zero_54 : zeroOf Try.prog 54 = some (.nilFunc) := by kernel_rfl
theorem some_54 : (Try.prog.underlying 54).isSome = true := by kernel_rfl
theorem flat_55 : flatB Try.prog 55 = true := by kernel_rfl
theorem size_55 : sizeIs Try.prog 55 1 = true := by kernel_rfl
theorem zero_55 : zeroOf Try.prog 55 = some (.nilFunc) := by kernel_rfl
theorem some_55 : (Try.prog.underlying 55).isSome = true := by kernel_rfl
theorem flat_56 : flatB Try.prog 56 = true := by kernel_rfl
theorem size_56 : sizeIs Try.prog 56 1 = true := by kernel_rfl
theorem zero_56 : zeroOf Try.prog 56 = some (.nilFunc) := by kernel_rfl
theorem some_56 : (Try.prog.underlying 56).isSome = true := by kernel_rfl
theorem flat_57 : flatB Try.prog 57 = true := by kernel_rfl
theorem size_57 : sizeIs Try.prog 57 1 = true := by kernel_rfl
theorem zero_57 : zeroOf Try.prog 57 = some (.nilFunc) := by kernel_rfl
theorem some_57 : (Try.prog.underlying 57).isSome = true := by kernel_rfl
theorem flat_58 : flatB Try.prog 58 = true := by kernel_rfl
theorem size_58 : sizeIs Try.prog 58 1 = true := by kernel_rfl
theorem zero_58 : zeroOf Try.prog 58 = some (.nilFunc) := by kernel_rfl
theorem some_58 : (Try.prog.underlying 58).isSome = true := by kernel_rfl
theorem flat_59 : flatB Try.prog 59 = true := by kernel_rfl
theorem size_59 : sizeIs Try.prog 59 1 = true := by kernel_rfl
theorem zero_59 : zeroOf Try.prog 59 = some (.nilFunc) := by kernel_rfl
theorem some_59 : (Try.prog.underlying 59).isSome = true := by kernel_rfl
theorem flat_60 : flatB Try.prog 60 = true := by kernel_rfl
theorem size_60 : sizeIs Try.prog 60 1 = true := by kernel_rfl
theorem zero_60 : zeroOf Try.prog 60 = some (.slice none 0 0) := by kernel_rfl
theorem elem_60 : sliceElem Try.prog 60 = some 64 := by kernel_rfl
theorem row_60 : RowT Try.prog 60 64 3 56 (.agg #[.slice none 0 0, .slice none 0 0, .bool false]) := ⟨by kernel_rfl, by kernel_rfl, rfl, by decide⟩
theorem some_60 : (Try.prog.underlying 60).isSome = true := by kernel_rfl
theorem agg_61 : aggB Try.prog 61 = true := by kernel_rfl
theorem size_61 : sizeIs Try.prog 61 5 = true := by kernel_rfl
theorem zero_61 : zeroOf Try.prog 61 = some (.agg #[.slice none 0 0, .int .i64 0, .int .i64 0, .int .i64 0, .bool false]) := by kernel_rfl
theorem plc_61 : placesOf Try.prog 61 = some [(0, 1), (1, 1), (2, 1), (3, 1), (4, 1)] := by kernel_rfl
theorem fld_61_0 : fieldOff Try.prog 61 0 = some 0 := by kernel_rfl
theorem fld_61_1 : fieldOff Try.prog 61 1 = some 1 := by kernel_rfl
theorem fld_61_2 : fieldOff Try.prog 61 2 = some 2 := by kernel_rfl
theorem fld_61_3 : fieldOff Try.prog 61 3 = some 3 := by kernel_rfl
theorem fld_61_4 : fieldOff Try.prog 61 4 = some 4 := by kernel_rfl
theorem some_61 : (Try.prog.underlying 61).isSome = true := by kernel_rfl
theorem agg_62 : aggB Try.prog 62 = true := by kernel_rfl
theorem size_62 : sizeIs Try.prog 62 5 = true := by kernel_rfl
theorem zero_62 : zeroOf Try.prog 62 = some (.agg #[.slice none 0 0, .int .i64 0, .int .i64 0, .int .i64 0, .bool false]) := by kernel_rfl
theorem plc_62 : placesOf Try.prog 62 = some [(0, 1), (1, 1), (2, 1), (3, 1), (4, 1)] := by kernel_rfl
theorem fld_62_0 : fieldOff Try.prog 62 0 = some 0 := by kernel_rfl
theorem fld_62_1 : fieldOff Try.prog 62 1 = some 1 := by kernel_rfl
theorem fld_62_2 : fieldOff Try.prog 62 2 = some 2 := by kernel_rfl
theorem fld_62_3 : fieldOff Try.prog 62 3 = some 3 := by kernel_rfl
theorem fld_62_4 : fieldOff Try.prog 62 4 = some 4 := by kernel_rfl
theorem some_62 : (Try.prog.underlying 62).isSome = true := by kernel_rfl
theorem agg_63 : aggB Try.prog 63 = true := by kernel_rfl
theorem size_63 : sizeIs Try.prog 63 3 = true := by kernel_rfl
theorem zero_63 : zeroOf Try.prog 63 = some (.agg #[.slice none 0 0, .slice none 0 0, .bool false]) := by kernel_rfl
theorem plc_63 : placesOf Try.prog 63 = some [(0, 1), (1, 1), (2, 1)] := by kernel_rfl
theorem fld_63_0 : fieldOff Try.prog 63 0 = some 0 := by kernel_rfl
theorem fld_63_1 : fieldOff Try.prog 63 1 = some 1 := by kernel_rfl
theorem fld_63_2 : fieldOff Try.prog 63 2 = some 2 := by kernel_rfl
theorem some_63 : (Try.prog.underlying 63).isSome = true := by kernel_rfl
theorem agg_64 : aggB Try.prog 64 = true := by kernel_rfl
theorem size_64 : sizeIs Try.prog 64 3 = true := by kernel_rfl
theorem zero_64 : zeroOf Try.prog 64 = some (.agg #[.slice none 0 0, .slice none 0 0, .bool false]) := by kernel_rfl
theorem plc_64 : placesOf Try.prog 64 = some [(0, 1), (1, 1), (2, 1)] := by kernel_rfl
theorem fld_64_0 : fieldOff Try.prog 64 0 = some 0 := by kernel_rfl
theorem fld_64_1 : fieldOff Try.prog 64 1 = some 1 := by kernel_rfl
theorem fld_64_2 : fieldOff Try.prog 64 2 = some 2 := by kernel_rfl
theorem some_64 : (Try.prog.underlying 64).isSome = true := by kernel_rfl
theorem flat_65 : flatB Try.prog 65 = true := by kernel_rfl
theorem size_65 : sizeIs Try.prog 65 1 = true := by kernel_rfl
theorem zero_65 : zeroOf Try.prog 65 = some (.pointer none) := by kernel_rfl
theorem ptr_65 : Try.prog.underlying 65 = some (.pointer (Try.prog.pointee 65)) := by kernel_rfl
theorem some_65 : (Try.prog.underlying 65).isSome = true := by kernel_rfl
theorem flat_66 : flatB Try.prog 66 = true := by kernel_rfl
theorem size_66 : sizeIs Try.prog 66 1 = true := by kernel_rfl
theorem zero_66 : zeroOf Try.prog 66 = some (.nilFunc) := by kernel_rfl
theorem some_66 : (Try.prog.underlying 66).isSome = true := by kernel_rfl
theorem zero_67 : zeroOf Try.prog 67 = some (.tuple #[.slice none 0 0, .int .i64 0]) := by kernel_rfl
theorem some_67 : (Try.prog.underlying 67).isSome = true := by kernel_rfl
theorem flat_68 : flatB Try.prog 68 = true := by kernel_rfl
theorem size_68 : sizeIs Try.prog 68 1 = true := by kernel_rfl
theorem zero_68 : zeroOf Try.prog 68 = some (.nilFunc) := by kernel_rfl
theorem some_68 : (Try.prog.underlying 68).isSome = true := by kernel_rfl
theorem zero_69 : zeroOf Try.prog 69 = some (.tuple #[.agg #[.int .u64 0, .int .i64 0, .int .u64 0, .slice none 0 0], .int .i64 0, .int .u64 0]) := by kernel_rfl
theorem some_69 : (Try.prog.underlying 69).isSome = true := by kernel_rfl
theorem flat_70 : flatB Try.prog 70 = true := by kernel_rfl
theorem size_70 : sizeIs Try.prog 70 1 = true := by kernel_rfl
theorem zero_70 : zeroOf Try.prog 70 = some (.nilFunc) := by kernel_rfl
theorem some_70 : (Try.prog.underlying 70).isSome = true := by kernel_rfl
theorem flat_71 : flatB Try.prog 71 = true := by kernel_rfl
theorem size_71 : sizeIs Try.prog 71 1 = true := by kernel_rfl
theorem zero_71 : zeroOf Try.prog 71 = some (.nilFunc) := by kernel_rfl
theorem some_71 : (Try.prog.underlying 71).isSome = true := by kernel_rfl
theorem flat_72 : flatB Try.prog 72 = true := by kernel_rfl
theorem size_72 : sizeIs Try.prog 72 1 = true := by kernel_rfl
theorem zero_72 : zeroOf Try.prog 72 = some (.pointer none) := by kernel_rfl
theorem ptr_72 : Try.prog.underlying 72 = some (.pointer (Try.prog.pointee 72)) := by kernel_rfl
theorem some_72 : (Try.prog.underlying 72).isSome = true := by kernel_rfl
theorem flat_73 : flatB Try.prog 73 = true := by kernel_rfl
theorem size_73 : sizeIs Try.prog 73 1 = true := by kernel_rfl
theorem zero_73 : zeroOf Try.prog 73 = some (.nilFunc) := by kernel_rfl
theorem some_73 : (Try.prog.underlying 73).isSome = true := by kernel_rfl
theorem flat_74 : flatB Try.prog 74 = true := by kernel_rfl
theorem size_74 : sizeIs Try.prog 74 1 = true := by kernel_rfl
theorem zero_74 : zeroOf Try.prog 74 = some (.nilFunc) := by kernel_rfl
theorem some_74 : (Try.prog.underlying 74).isSome = true := by kernel_rfl
theorem flat_75 : flatB Try.prog 75 = true := by kernel_rfl
theorem size_75 : sizeIs Try.prog 75 1 = true := by kernel_rfl
theorem zero_75 : zeroOf Try.prog 75 = some (.nilFunc) := by kernel_rfl
theorem some_75 : (Try.prog.underlying 75).isSome = true := by kernel_rfl
theorem flat_76 : flatB Try.prog 76 = true := by kernel_rfl
theorem size_76 : sizeIs Try.prog 76 1 = true := by kernel_rfl
theorem zero_76 : zeroOf Try.prog 76 = some (.nilFunc) := by kernel_rfl
theorem some_76 : (Try.prog.underlying 76).isSome = true := by kernel_rfl
theorem flat_77 : flatB Try.prog 77 = true := by kernel_rfl
theorem size_77 : sizeIs Try.prog 77 1 = true := by kernel_rfl
theorem zero_77 : zeroOf Try.prog 77 = some (.nilFunc) := by kernel_rfl
theorem some_77 : (Try.prog.underlying 77).isSome = true := by kernel_rfl
theorem zero_78 : zeroOf Try.prog 78 = some (.tuple #[.int .i64 0, .int .i64 0]) := by kernel_rfl
theorem some_78 : (Try.prog.underlying 78).isSome = true := by kernel_rfl
theorem flat_79 : flatB Try.prog 79 = true := by kernel_rfl
theorem size_79 : sizeIs Try.prog 79 1 = true := by kernel_rfl
theorem zero_79 : zeroOf Try.prog 79 = some (.nilFunc) := by kernel_rfl
theorem some_79 : (Try.prog.underlying 79).isSome = true := by kernel_rfl
theorem flat_80 : flatB Try.prog 80 = true := by kernel_rfl
theorem size_80 : sizeIs Try.prog 80 1 = true := by kernel_rfl
theorem zero_80 : zeroOf Try.prog 80 = some (.nilFunc) := by kernel_rfl
theorem some_80 : (Try.prog.underlying 80).isSome = true := by kernel_rfl
theorem flat_81 : flatB Try.prog 81 = true := by kernel_rfl
theorem size_81 : sizeIs Try.prog 81 1 = true := by kernel_rfl
theorem zero_81 : zeroOf Try.prog 81 = some (.nilFunc) := by kernel_rfl
theorem some_81 : (Try.prog.underlying 81).isSome = true := by kernel_rfl
theorem flat_82 : flatB Try.prog 82 = true := by kernel_rfl
theorem size_82 : sizeIs Try.prog 82 1 = true := by kernel_rfl
theorem zero_82 : zeroOf Try.prog 82 = some (.pointer none) := by kernel_rfl
theorem ptr_82 : Try.prog.underlying 82 = some (.pointer (Try.prog.pointee 82)) := by kernel_rfl
theorem some_82 : (Try.prog.underlying 82).isSome = true := by kernel_rfl
theorem agg_83 : aggB Try.prog 83 = true := by kernel_rfl
theorem size_83 : sizeIs Try.prog 83 1 = true := by kernel_rfl
theorem zero_83 : zeroOf Try.prog 83 = some (.agg #[.slice none 0 0]) := by kernel_rfl
theorem plc_83 : placesOf Try.prog 83 = some [(0, 1)] := by kernel_rfl
theorem fld_83_0 : fieldOff Try.prog 83 0 = some 0 := by kernel_rfl
theorem some_83 : (Try.prog.underlying 83).isSome = true := by kernel_rfl
theorem agg_84 : aggB Try.prog 84 = true := by kernel_rfl
theorem size_84 : sizeIs Try.prog 84 1 = true := by kernel_rfl
theorem zero_84 : zeroOf Try.prog 84 = some (.agg #[.slice none 0 0]) := by kernel_rfl
theorem plc_84 : placesOf Try.prog 84 = some [(0, 1)] := by kernel_rfl
theorem fld_84_0 : fieldOff Try.prog 84 0 = some 0 := by kernel_rfl
theorem some_84 : (Try.prog.underlying 84).isSome = true := by kernel_rfl
theorem flat_85 : flatB Try.prog 85 = true := by kernel_rfl
theorem size_85 : sizeIs Try.prog 85 1 = true := by kernel_rfl
theorem zero_85 : zeroOf Try.prog 85 = some (.nilFunc) := by kernel_rfl
theorem some_85 : (Try.prog.underlying 85).isSome = true := by kernel_rfl
theorem flat_86 : flatB Try.prog 86 = true := by kernel_rfl
theorem size_86 : sizeIs Try.prog 86 1 = true := by kernel_rfl
theorem zero_86 : zeroOf Try.prog 86 = some (.int .u64 0) := by kernel_rfl
theorem int_86 : Try.prog.underlying 86 = some (.int .u64) := by kernel_rfl
theorem some_86 : (Try.prog.underlying 86).isSome = true := by kernel_rfl
theorem flat_87 : flatB Try.prog 87 = true := by kernel_rfl
theorem size_87 : sizeIs Try.prog 87 1 = true := by kernel_rfl
theorem zero_87 : zeroOf Try.prog 87 = some (.nilFunc) := by kernel_rfl
theorem some_87 : (Try.prog.underlying 87).isSome = true := by kernel_rfl
theorem flat_88 : flatB Try.prog 88 = true := by kernel_rfl
theorem size_88 : sizeIs Try.prog 88 1 = true := by kernel_rfl
theorem zero_88 : zeroOf Try.prog 88 = some (.pointer none) := by kernel_rfl
theorem ptr_88 : Try.prog.underlying 88 = some (.pointer (Try.prog.pointee 88)) := by kernel_rfl
theorem some_88 : (Try.prog.underlying 88).isSome = true := by kernel_rfl
theorem flat_89 : flatB Try.prog 89 = true := by kernel_rfl
theorem size_89 : sizeIs Try.prog 89 1 = true := by kernel_rfl
theorem zero_89 : zeroOf Try.prog 89 = some (.nilFunc) := by kernel_rfl
theorem some_89 : (Try.prog.underlying 89).isSome = true := by kernel_rfl
theorem flat_90 : flatB Try.prog 90 = true := by kernel_rfl
theorem size_90 : sizeIs Try.prog 90 1 = true := by kernel_rfl
theorem zero_90 : zeroOf Try.prog 90 = some (.nilFunc) := by kernel_rfl
theorem some_90 : (Try.prog.underlying 90).isSome = true := by kernel_rfl
theorem flat_91 : flatB Try.prog 91 = true := by kernel_rfl
theorem size_91 : sizeIs Try.prog 91 1 = true := by kernel_rfl
theorem zero_91 : zeroOf Try.prog 91 = some (.nilFunc) := by kernel_rfl
theorem some_91 : (Try.prog.underlying 91).isSome = true := by kernel_rfl
theorem flat_92 : flatB Try.prog 92 = true := by kernel_rfl
theorem size_92 : sizeIs Try.prog 92 1 = true := by kernel_rfl
theorem zero_92 : zeroOf Try.prog 92 = some (.pointer none) := by kernel_rfl
theorem ptr_92 : Try.prog.underlying 92 = some (.pointer (Try.prog.pointee 92)) := by kernel_rfl
theorem some_92 : (Try.prog.underlying 92).isSome = true := by kernel_rfl
theorem flat_93 : flatB Try.prog 93 = true := by kernel_rfl
theorem size_93 : sizeIs Try.prog 93 1 = true := by kernel_rfl
theorem zero_93 : zeroOf Try.prog 93 = some (.nilFunc) := by kernel_rfl
theorem some_93 : (Try.prog.underlying 93).isSome = true := by kernel_rfl
theorem flat_94 : flatB Try.prog 94 = true := by kernel_rfl
theorem size_94 : sizeIs Try.prog 94 1 = true := by kernel_rfl
theorem zero_94 : zeroOf Try.prog 94 = some (.nilFunc) := by kernel_rfl
theorem some_94 : (Try.prog.underlying 94).isSome = true := by kernel_rfl
theorem flat_95 : flatB Try.prog 95 = true := by kernel_rfl
theorem size_95 : sizeIs Try.prog 95 1 = true := by kernel_rfl
theorem zero_95 : zeroOf Try.prog 95 = some (.nilFunc) := by kernel_rfl
theorem some_95 : (Try.prog.underlying 95).isSome = true := by kernel_rfl
theorem flat_96 : flatB Try.prog 96 = true := by kernel_rfl
theorem size_96 : sizeIs Try.prog 96 1 = true := by kernel_rfl
theorem zero_96 : zeroOf Try.prog 96 = some (.int .u32 0) := by kernel_rfl
theorem int_96 : Try.prog.underlying 96 = some (.int .u32) := by kernel_rfl
theorem some_96 : (Try.prog.underlying 96).isSome = true := by kernel_rfl
theorem flat_97 : flatB Try.prog 97 = true := by kernel_rfl
theorem size_97 : sizeIs Try.prog 97 1 = true := by kernel_rfl
theorem zero_97 : zeroOf Try.prog 97 = some (.nilFunc) := by kernel_rfl
theorem some_97 : (Try.prog.underlying 97).isSome = true := by kernel_rfl
theorem agg_98 : aggB Try.prog 98 = true := by kernel_rfl
theorem size_98 : sizeIs Try.prog 98 2 = true := by kernel_rfl
theorem zero_98 : zeroOf Try.prog 98 = some (.agg #[.slice none 0 0, .bool false]) := by kernel_rfl
theorem plc_98 : placesOf Try.prog 98 = some [(0, 1), (1, 1)] := by kernel_rfl
theorem fld_98_0 : fieldOff Try.prog 98 0 = some 0 := by kernel_rfl
theorem fld_98_1 : fieldOff Try.prog 98 1 = some 1 := by kernel_rfl
theorem some_98 : (Try.prog.underlying 98).isSome = true := by kernel_rfl
theorem agg_99 : aggB Try.prog 99 = true := by kernel_rfl
theorem size_99 : sizeIs Try.prog 99 2 = true := by kernel_rfl
theorem zero_99 : zeroOf Try.prog 99 = some (.agg #[.slice none 0 0, .bool false]) := by kernel_rfl
theorem plc_99 : placesOf Try.prog 99 = some [(0, 1), (1, 1)] := by kernel_rfl
theorem fld_99_0 : fieldOff Try.prog 99 0 = some 0 := by kernel_rfl
theorem fld_99_1 : fieldOff Try.prog 99 1 = some 1 := by kernel_rfl
theorem some_99 : (Try.prog.underlying 99).isSome = true := by kernel_rfl
theorem flat_100 : flatB Try.prog 100 = true := by kernel_rfl
theorem size_100 : sizeIs Try.prog 100 1 = true := by kernel_rfl
theorem zero_100 : zeroOf Try.prog 100 = some (.nilFunc) := by kernel_rfl
theorem some_100 : (Try.prog.underlying 100).isSome = true := by kernel_rfl
theorem flat_108 : flatB Try.prog 108 = true := by kernel_rfl
theorem size_108 : sizeIs Try.prog 108 1 = true := by kernel_rfl
theorem zero_108 : zeroOf Try.prog 108 = some (.nilFunc) := by kernel_rfl
theorem some_108 : (Try.prog.underlying 108).isSome = true := by kernel_rfl
theorem flat_109 : flatB Try.prog 109 = true := by kernel_rfl
theorem size_109 : sizeIs Try.prog 109 1 = true := by kernel_rfl
theorem zero_109 : zeroOf Try.prog 109 = some (.pointer none) := by kernel_rfl
theorem ptr_109 : Try.prog.underlying 109 = some (.pointer (Try.prog.pointee 109)) := by kernel_rfl
theorem some_109 : (Try.prog.underlying 109).isSome = true := by kernel_rfl
theorem flat_114 : flatB Try.prog 114 = true := by kernel_rfl
theorem size_114 : sizeIs Try.prog 114 1 = true := by kernel_rfl
theorem zero_114 : zeroOf Try.prog 114 = some (.nilFunc) := by kernel_rfl
theorem some_114 : (Try.prog.underlying 114).isSome = true := by kernel_rfl
theorem flat_115 : flatB Try.prog 115 = true := by kernel_rfl
theorem zero_115 : zeroOf Try.prog 115 = some (.pointer none) := by kernel_rfl
theorem some_115 : (Try.prog.underlying 115).isSome = true := by kernel_rfl
theorem body_3 : hasBody Try.prog 3 = true := by kernel_rfl
theorem body_4 : hasBody Try.prog 4 = true := by kernel_rfl
theorem body_5 : hasBody Try.prog 5 = true := by kernel_rfl
theorem body_6 : hasBody Try.prog 6 = true := by kernel_rfl
theorem body_7 : hasBody Try.prog 7 = true := by kernel_rfl
theorem body_8 : hasBody Try.prog 8 = true := by kernel_rfl
theorem body_9 : hasBody Try.prog 9 = true := by kernel_rfl
theorem body_10 : hasBody Try.prog 10 = true := by kernel_rfl
theorem body_11 : hasBody Try.prog 11 = true := by kernel_rfl
theorem body_12 : hasBody Try.prog 12 = true := by kernel_rfl
theorem body_13 : hasBody Try.prog 13 = true := by kernel_rfl
theorem body_14 : hasBody Try.prog 14 = true := by kernel_rfl
theorem body_15 : hasBody Try.prog 15 = true := by kernel_rfl
theorem body_16 : hasBody Try.prog 16 = true := by kernel_rfl
theorem body_17 : hasBody Try.prog 17 = true := by kernel_rfl
theorem body_18 : hasBody Try.prog 18 = true := by kernel_rfl
theorem body_19 : hasBody Try.prog 19 = true := by kernel_rfl
theorem body_20 : hasBody Try.prog 20 = true := by kernel_rfl
theorem body_21 : hasBody Try.prog 21 = true := by kernel_rfl
theorem body_22 : hasBody Try.prog 22 = true := by kernel_rfl
theorem body_23 : hasBody Try.prog 23 = true := by kernel_rfl
theorem body_24 : hasBody Try.prog 24 = true := by kernel_rfl
theorem body_25 : hasBody Try.prog 25 = true := by kernel_rfl
theorem body_26 : hasBody Try.prog 26 = true := by kernel_rfl
theorem body_27 : hasBody Try.prog 27 = true := by kernel_rfl
theorem body_28 : hasBody Try.prog 28 = true := by kernel_rfl
theorem body_29 : hasBody Try.prog 29 = true := by kernel_rfl
theorem body_30 : hasBody Try.prog 30 = true := by kernel_rfl
theorem body_31 : hasBody Try.prog 31 = true := by kernel_rfl
theorem body_32 : hasBody Try.prog 32 = true := by kernel_rfl
theorem body_33 : hasBody Try.prog 33 = true := by kernel_rfl
theorem body_34 : hasBody Try.prog 34 = true := by kernel_rfl
theorem body_35 : hasBody Try.prog 35 = true := by kernel_rfl
theorem body_36 : hasBody Try.prog 36 = true := by kernel_rfl
theorem body_37 : hasBody Try.prog 37 = true := by kernel_rfl
theorem body_38 : hasBody Try.prog 38 = true := by kernel_rfl
theorem body_39 : hasBody Try.prog 39 = true := by kernel_rfl
theorem body_40 : hasBody Try.prog 40 = true := by kernel_rfl
theorem body_41 : hasBody Try.prog 41 = true := by kernel_rfl
theorem body_42 : hasBody Try.prog 42 = true := by kernel_rfl
theorem body_43 : hasBody Try.prog 43 = true := by kernel_rfl
theorem body_44 : hasBody Try.prog 44 = true := by kernel_rfl
theorem body_45 : hasBody Try.prog 45 = true := by kernel_rfl
theorem body_46 : hasBody Try.prog 46 = true := by kernel_rfl
theorem body_47 : hasBody Try.prog 47 = true := by kernel_rfl
theorem body_48 : hasBody Try.prog 48 = true := by kernel_rfl
theorem body_49 : hasBody Try.prog 49 = true := by kernel_rfl
theorem body_50 : hasBody Try.prog 50 = true := by kernel_rfl
theorem body_51 : hasBody Try.prog 51 = true := by kernel_rfl
theorem mixed : Try.prog.follows .mixedOrders = true := by kernel_rfl
end Go.Proofs.Ytnjfhmlfpfkllaa

/-
  octet.Reader: what each method does to the reader, and tells.
-/
namespace Go.Proofs.Ytnjfhmlfpfkllaa
open Go
set_option linter.unusedSimpArgs false
set_option linter.unusedVariables false

/-- the state of a reader at block g: what is still to be read; none: there was a fault -/
def IsR (w : World) (F : Nat → Prop) (g : Nat) : Option (List UInt8) → Prop
  | some l => ∃ A c, Blk w g #[.slice A l.length c, .bool false] 99 ∧ Rd w F (.slice A l.length c) l.length 1 (l.map U8)
  | none => ∃ A n c, Blk w g #[.slice A n c, .bool true] 99

theorem IsR.upd {w w' : World} {F S : Nat → Prop} {g : Nat} {s : Option (List UInt8)} (h : IsR w F g s) (hu : Upd S w w') (hg : ¬ S g) (hF : ∀ k, F k → k < w.heap.size → ¬ S k) : IsR w' F g s := by
  cases s with
  | none => obtain ⟨A, n, c, hb⟩ := h; exact ⟨A, n, c, hb.upd hu hg⟩
  | some l => obtain ⟨A, c, hb, hr⟩ := h; exact ⟨A, c, hb.upd hu hg, hr.upd hu hF⟩

theorem fail_nil (w : World) : Ret Try.prog 51 #[.pointer none] w fun _ w' => w' = w := by
  refine enterRet (vs := [_]) (N := 7) Try.func51 rfl rfl rfl ?_
  refine WC.keep [(0, _)] ⟨rfl, trivial⟩ ?_
  refine WC.seq ?_
  refine WC.region ?_
  refine WL.val rfl rfl rfl rfl (r_move rfl (ev_t rfl)) ?_
  refine WL.val rfl rfl rfl rfl (r_neqPtrNil rfl (ev_t rfl) ev_c ptr_88) ?_
  refine WL.nil ?_
  refine WX.keep [(0, _), (3, _)] ⟨rfl, rfl, trivial⟩ ?_
  refine WX.next ?_
  refine WC.cond rfl (ev_t rfl) (fun hc0 => ?_) (fun hc0 => ?_)
  · try (exfalso; first | (simp at hc0; done) | (simp only [decide_eq_true_eq, decide_eq_false_iff_not, Bool.not_eq_true', Bool.not_eq_false', Bool.not_eq_true, Bool.not_eq_false] at hc0; omega) | omega)
    all_goals
     try simp only [decide_eq_true_eq, decide_eq_false_iff_not, Bool.not_eq_true', Bool.not_eq_false', Bool.not_eq_true, Bool.not_eq_false, Option.isNone_none, Option.isNone_some, Option.isSome_none, Option.isSome_some, ne_eq, Decidable.not_not] at hc0
     refine WC.region ?_
     refine WL.val rfl rfl rfl rfl (r_move rfl (ev_t rfl)) ?_
     refine WL.val rfl rfl rfl rfl (r_nilCheck rfl (ev_t rfl)) ?_
     first | refine WL.val rfl rfl rfl rfl (r_field0 rfl (ev_t rfl) fld_99_1) ?_ | refine WL.val rfl rfl rfl rfl (r_fieldAt rfl (ev_t rfl) fld_99_1) ?_
     fail -- store 1.3: which block? (st 1.3: name)
  · try (exfalso; first | (simp at hc0; done) | (simp only [decide_eq_true_eq, decide_eq_false_iff_not, Bool.not_eq_true', Bool.not_eq_false', Bool.not_eq_true, Bool.not_eq_false] at hc0; omega) | omega)
    all_goals
     try simp only [decide_eq_true_eq, decide_eq_false_iff_not, Bool.not_eq_true', Bool.not_eq_false', Bool.not_eq_true, Bool.not_eq_false, Option.isNone_none, Option.isNone_some, Option.isSome_none, Option.isSome_some, ne_eq, Decidable.not_not] at hc0
     refine WC.skip ?_
     refine WX.endE (l := []) (vs := []) rfl trivial ?_
     exact rfl

theorem fail_ok {w : World} {F : Nat → Prop} {g : Nat} {s : Option (List UInt8)} (h : IsR w F g s) :
    Ret Try.prog 51 #[.pointer (some ⟨g, 0, none⟩)] w fun _ w' => IsR w' F g none ∧ Upd (At g) w w' := by
  obtain ⟨A, n, c, b, hb⟩ : ∃ A n c b, Blk w g #[.slice A n c, .bool b] 99 := by
    cases s with
    | none => obtain ⟨A, n, c, hb⟩ := h; exact ⟨A, n, c, _, hb⟩
    | some l => obtain ⟨A, c, hb, _⟩ := h; exact ⟨A, _, c, _, hb⟩
  refine enterRet (vs := [_]) (N := 7) Try.func51 rfl rfl rfl ?_
  refine WC.keep [(0, _)] ⟨rfl, trivial⟩ ?_
  refine WC.seq ?_
  refine WC.region ?_
  refine WL.val rfl rfl rfl rfl (r_move rfl (ev_t rfl)) ?_
  refine WL.val rfl rfl rfl rfl (r_neqPtrNil rfl (ev_t rfl) ev_c ptr_88) ?_
  refine WL.nil ?_
  refine WX.keep [(0, _), (3, _)] ⟨rfl, rfl, trivial⟩ ?_
  refine WX.next ?_
  refine WC.cond rfl (ev_t rfl) (fun hc0 => ?_) (fun hc0 => ?_)
  · try (exfalso; first | (simp at hc0; done) | (simp only [decide_eq_true_eq, decide_eq_false_iff_not, Bool.not_eq_true', Bool.not_eq_false', Bool.not_eq_true, Bool.not_eq_false] at hc0; omega) | omega)
    all_goals
     try simp only [decide_eq_true_eq, decide_eq_false_iff_not, Bool.not_eq_true', Bool.not_eq_false', Bool.not_eq_true, Bool.not_eq_false, Option.isNone_none, Option.isNone_some, Option.isSome_none, Option.isSome_some, ne_eq, Decidable.not_not] at hc0
     refine WC.region ?_
     refine WL.val rfl rfl rfl rfl (r_move rfl (ev_t rfl)) ?_
     refine WL.val rfl rfl rfl rfl (r_nilCheck rfl (ev_t rfl)) ?_
     first | refine WL.val rfl rfl rfl rfl (r_field0 rfl (ev_t rfl) fld_99_1) ?_ | refine WL.val rfl rfl rfl rfl (r_fieldAt rfl (ev_t rfl) fld_99_1) ?_
     refine WL.cons (SO.store rfl (ev_t rfl) ev_c size_4 hb rfl rfl rfl rfl rfl ?_)
     intro w1 hu1 hb hz1
     have hs1 := hu1.size
     refine WL.nil ?_
     refine WX.keep [] trivial ?_
     refine WX.endE (l := []) (vs := []) rfl trivial ?_
     exact ⟨⟨A, n, c, hb⟩, hu1⟩
  · try (exfalso; first | (simp at hc0; done) | (simp only [decide_eq_true_eq, decide_eq_false_iff_not, Bool.not_eq_true', Bool.not_eq_false', Bool.not_eq_true, Bool.not_eq_false] at hc0; omega) | omega)
    all_goals
     try simp only [decide_eq_true_eq, decide_eq_false_iff_not, Bool.not_eq_true', Bool.not_eq_false', Bool.not_eq_true, Bool.not_eq_false, Option.isNone_none, Option.isNone_some, Option.isSome_none, Option.isSome_some, ne_eq, Decidable.not_not] at hc0
     refine WC.skip ?_
     refine WX.endE (l := []) (vs := []) rfl trivial ?_
     exact ⟨⟨A, n, c, hb⟩, (Upd.refl _ _)⟩

theorem end_ok {w : World} {F : Nat → Prop} {g : Nat} {s : Option (List UInt8)} (h : IsR w F g s) :
    Ret Try.prog 43 #[.pointer (some ⟨g, 0, none⟩)] w fun v w' => v = .bool (decide (s = some [])) ∧ w' = w := by
  obtain ⟨A, n, c, b, hb, hs⟩ : ∃ A n c b, Blk w g #[.slice A n c, .bool b] 99 ∧ (!b && decide ((n : Int) = 0)) = decide (s = some []) := by
    cases s with
    | none => obtain ⟨A, n, c, hb⟩ := h; exact ⟨A, n, c, _, hb, by simp⟩
    | some l => obtain ⟨A, c, hb, _⟩ := h; exact ⟨A, _, c, _, hb, by cases l <;> simp; omega⟩
  refine enterRet (vs := [_]) (N := 20) Try.func43 rfl rfl rfl ?_
  refine WC.keep [(0, _)] ⟨rfl, trivial⟩ ?_
  refine WC.seq ?_
  refine WC.region ?_
  refine WL.val rfl rfl rfl rfl (r_assign rfl ev_c) ?_
  refine WL.nil ?_
  refine WX.keep [(0, _)] ⟨rfl, trivial⟩ ?_
  refine WX.next ?_
  refine WC.seq ?_
  refine WC.region ?_
  refine WL.val rfl rfl rfl rfl (r_move rfl (ev_t rfl)) ?_
  refine WL.val rfl rfl rfl rfl (r_neqPtrNil rfl (ev_t rfl) ev_c ptr_88) ?_
  refine WL.val rfl rfl rfl rfl (r_move rfl (ev_t rfl)) ?_
  refine WL.cases 5 rfl (fun hb1_2 => ?_) (fun hb1_2 => ?_)
  · try (exfalso; first | (simp at hb1_2; done) | (simp only [decide_eq_true_eq, decide_eq_false_iff_not, Bool.not_eq_true', Bool.not_eq_false', Bool.not_eq_true, Bool.not_eq_false] at hb1_2; omega) | omega)
    all_goals
     try simp only [decide_eq_true_eq, decide_eq_false_iff_not, Bool.not_eq_true', Bool.not_eq_false', Bool.not_eq_true, Bool.not_eq_false, Option.isNone_none, Option.isNone_some, Option.isSome_none, Option.isSome_some, ne_eq, Decidable.not_not] at hb1_2
     refine WL.val rfl rfl rfl rfl (r_move rfl (ev_t rfl)) ?_
     refine WL.val rfl rfl rfl rfl (r_nilCheck rfl (ev_t rfl)) ?_
     first | refine WL.val rfl rfl rfl rfl (r_field0 rfl (ev_t rfl) fld_99_1) ?_ | refine WL.val rfl rfl rfl rfl (r_fieldAt rfl (ev_t rfl) fld_99_1) ?_
     refine WL.val rfl rfl rfl rfl (r_load rfl (ev_t rfl) flat_4 (Blk.cell hb rfl)) ?_
     refine WL.val rfl rfl rfl rfl (r_not rfl (ev_t rfl)) ?_
     refine WL.val rfl rfl rfl rfl (r_pickT rfl (ev_t rfl) (ev_t rfl)) ?_
     refine WL.val rfl rfl rfl rfl (r_move rfl (ev_t rfl)) ?_
     refine WL.cases 12 rfl (fun hb1_9 => ?_) (fun hb1_9 => ?_)
     · try (exfalso; first | (simp at hb1_9; done) | (simp only [decide_eq_true_eq, decide_eq_false_iff_not, Bool.not_eq_true', Bool.not_eq_false', Bool.not_eq_true, Bool.not_eq_false] at hb1_9; omega) | omega)
       all_goals
        try simp only [decide_eq_true_eq, decide_eq_false_iff_not, Bool.not_eq_true', Bool.not_eq_false', Bool.not_eq_true, Bool.not_eq_false, Option.isNone_none, Option.isNone_some, Option.isSome_none, Option.isSome_some, ne_eq, Decidable.not_not] at hb1_9
        refine WL.val rfl rfl rfl rfl (r_move rfl (ev_t rfl)) ?_
        refine WL.val rfl rfl rfl rfl (r_nilCheck rfl (ev_t rfl)) ?_
        first | refine WL.val rfl rfl rfl rfl (r_field0 rfl (ev_t rfl) fld_99_0) ?_ | refine WL.val rfl rfl rfl rfl (r_fieldAt rfl (ev_t rfl) fld_99_0) ?_
        refine WL.val rfl rfl rfl rfl (r_load rfl (ev_t rfl) flat_22 (Blk.cell hb rfl)) ?_
        refine WL.val rfl rfl rfl rfl (r_lenSlice (ts := #[]) rfl (ev_t rfl) elem_22) ?_
        refine WL.val rfl rfl rfl rfl (r_eql rfl (ev_t rfl) ev_c) ?_
        refine WL.val rfl rfl rfl rfl (r_pickT rfl (ev_t rfl) (ev_t rfl)) ?_
        refine WL.val rfl rfl rfl rfl (r_assign rfl (ev_t rfl)) ?_
        refine WL.nil ?_
        refine WX.keep [(2, _)] ⟨rfl, trivial⟩ ?_
        refine WX.next ?_
        refine WC.ret ?_
        refine WX.retE1 rfl rfl ?_
        exact ⟨by rw [← hs]; simp [*, tupleOf], rfl⟩
     · try (exfalso; first | (simp at hb1_9; done) | (simp only [decide_eq_true_eq, decide_eq_false_iff_not, Bool.not_eq_true', Bool.not_eq_false', Bool.not_eq_true, Bool.not_eq_false] at hb1_9; omega) | omega)
       all_goals
        try simp only [decide_eq_true_eq, decide_eq_false_iff_not, Bool.not_eq_true', Bool.not_eq_false', Bool.not_eq_true, Bool.not_eq_false, Option.isNone_none, Option.isNone_some, Option.isSome_none, Option.isSome_some, ne_eq, Decidable.not_not] at hb1_9
        refine WL.skip rfl rfl rfl ?_
        refine WL.skip rfl rfl rfl ?_
        refine WL.skip rfl rfl rfl ?_
        refine WL.skip rfl rfl rfl ?_
        refine WL.skip rfl rfl rfl ?_
        refine WL.skip rfl rfl rfl ?_
        refine WL.val rfl rfl rfl rfl (r_pickF rfl (ev_t rfl) ev_c) ?_
        refine WL.val rfl rfl rfl rfl (r_assign rfl (ev_t rfl)) ?_
        refine WL.nil ?_
        refine WX.keep [(2, _)] ⟨rfl, trivial⟩ ?_
        refine WX.next ?_
        refine WC.ret ?_
        refine WX.retE1 rfl rfl ?_
        exact ⟨by rw [← hs]; simp [*, tupleOf], rfl⟩
  · try (exfalso; first | (simp at hb1_2; done) | (simp only [decide_eq_true_eq, decide_eq_false_iff_not, Bool.not_eq_true', Bool.not_eq_false', Bool.not_eq_true, Bool.not_eq_false] at hb1_2; omega) | omega)
    all_goals
     try simp only [decide_eq_true_eq, decide_eq_false_iff_not, Bool.not_eq_true', Bool.not_eq_false', Bool.not_eq_true, Bool.not_eq_false, Option.isNone_none, Option.isNone_some, Option.isSome_none, Option.isSome_some, ne_eq, Decidable.not_not] at hb1_2
     refine WL.skip rfl rfl rfl ?_
     refine WL.skip rfl rfl rfl ?_
     refine WL.skip rfl rfl rfl ?_
     refine WL.skip rfl rfl rfl ?_
     refine WL.skip rfl rfl rfl ?_
     refine WL.val rfl rfl rfl rfl (r_pickF rfl (ev_t rfl) ev_c) ?_
     refine WL.val rfl rfl rfl rfl (r_move rfl (ev_t rfl)) ?_
     refine WL.skip rfl rfl rfl ?_
     refine WL.skip rfl rfl rfl ?_
     refine WL.skip rfl rfl rfl ?_
     refine WL.skip rfl rfl rfl ?_
     refine WL.skip rfl rfl rfl ?_
     refine WL.skip rfl rfl rfl ?_
     refine WL.val rfl rfl rfl rfl (r_pickF rfl (ev_t rfl) ev_c) ?_
     refine WL.val rfl rfl rfl rfl (r_assign rfl (ev_t rfl)) ?_
     refine WL.nil ?_
     refine WX.keep [(2, _)] ⟨rfl, trivial⟩ ?_
     refine WX.next ?_
     refine WC.ret ?_
     refine WX.retE1 rfl rfl ?_
     exact ⟨by rw [← hs]; simp [*, tupleOf], rfl⟩
end Go.Proofs.Ytnjfhmlfpfkllaa
