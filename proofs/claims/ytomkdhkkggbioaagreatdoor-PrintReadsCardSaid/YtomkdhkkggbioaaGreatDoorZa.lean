/-
  Several texts put together: Fa, Fb, Fc, Fd, Fe, Ff, Fg, Frame, Fopen, Fh, Flo, Fi, Fj, Fk, Fl, Fm, Fn, Fo, Tab, PrS, Flc, LxP, Fp, Fq, Fr, PrR, PrT, PaP, Pra, Lxa.
-/
import Derived.Calls
import Derived.Tactics
import Derived.OrdersHeld
import Derived.LoopTactic
import Derived.Laws.Entries
import Derived.WalkKit
import Derived.Laws.Cover3
import Derived.Test.YtomkdhkkggbioaaGreatDoorRows
import Derived.ProofKit
import Derived.OpenShut
import Derived.HandedShaped
import Derived.Deep.SlicePairs
import Derived.Laws.ComplexArith
import Derived.Laws.StructEq
import Derived.Laws.MakeOwn
import Derived.Laws.Small
import Derived.Laws.CopyRow
import Derived.Test.YtomkdhkkggbioaaGreatDoorChecked
import Derived.KernelRfl
import Derived.Shelf.Strings.OnBuilder
import Derived.Shelf.Small.Wraps
import Derived.Shelf.LaysM
import Derived.Shelf.Strconv.Itoa3
import Derived.Shelf.Strconv.Itoa4
import Derived.Test.YtomkdhkkggbioaaGreatDoorTie
import Derived.Test.YtomkdhkkggbioaaGreatDoorCards
import Derived.LaidMore
import Derived.LaidHandle
import Derived.MakeChecks
import Derived.Stop.Joined
import Derived.Lib.AppendZerosOnto
import Derived.Lib.Overlaps
/-
  A calculus of walks over environments of live temporaries: judgements, steps, regions in whatever order. Own work; no program in sight.
-/
namespace Go.Proofs.YtomkdhkkggbioaaGreatDoor
open Go
theorem cS : (∀ (p : Prop) [Decidable p], (decide p = true) ↔ p) ∧ (∀ (p : Prop) [Decidable p], (decide p = false) ↔ ¬ p) ∧ (∀ b : Bool, ((!b) = true) ↔ b = false) ∧ (∀ b : Bool, ((!b) = false) ↔ b = true) ∧ (∀ b : Bool, (¬ b = true) ↔ b = false) ∧ (∀ b : Bool, (¬ b = false) ↔ b = true) := by simp
set_option linter.unusedSimpArgs false
set_option linter.unusedVariables false

/-- The live temporaries. -/
abbrev Env := List (Nat × Value)

def Env.get : Env → Nat → Option Value
  | [], _ => none
  | (k, v) :: E, t => match Nat.beq k t with
    | true => some v
    | false => Env.get E t

def Env.ev (E : Env) : Operand → Value
  | .tmp t => match Env.get E t with
    | some v => v
    | none => undef
  | .const v => v
  | .global g => .pointer (some ⟨g, 0, none⟩)
  | .func f => .func (.func f) #[] #[]

def Env.has (E : Env) : Operand → Bool
  | .tmp t => (Env.get E t).isSome
  | _ => true

/-- Every entry of F stands in E. -/
def Env.sub (E : Env) : Env → Prop
  | [] => True
  | (k, v) :: F => Env.get E k = some v ∧ Env.sub E F

theorem Env.get_of_sub {E : Env} : ∀ {F : Env}, Env.sub E F → ∀ {t v}, Env.get F t = some v → Env.get E t = some v
  | [], _, _, _, h => by simp [Env.get] at h
  | (k, u) :: F, hs, t, v, h => by
    simp only [Env.get] at h
    split at h
    · rename_i hb
      have := Nat.eq_of_beq_eq_true hb
      subst this
      injection h with h
      subst h
      exact hs.1
    · exact Env.get_of_sub hs.2 h

structure Sat (N : Nat) (E : Env) (a : Act) : Prop where
  size : a.tmps.size = N
  defers : a.defers = []
  vals : ∀ t v, Env.get E t = some v → a.tmps[t]? = some v

theorem Sat.sub {N : Nat} {E F : Env} {a : Act} (h : Sat N E a) (hs : Env.sub E F) : Sat N F a :=
  ⟨h.size, h.defers, fun t v ht => h.vals t v (Env.get_of_sub hs ht)⟩

theorem Sat.eval {N : Nat} {E : Env} {a : Act} (h : Sat N E a) {x : Operand} (hx : E.has x = true) : a.eval x = E.ev x := by
  cases x with
  | tmp t =>
    simp only [Env.has] at hx
    cases hg : Env.get E t with
    | none => rw [hg] at hx; cases hx
    | some v =>
      have := h.vals t v hg
      simp only [Act.eval, Env.ev, hg, Array.getD_eq_getD_getElem?, this, Option.getD_some]
  | _ => rfl

theorem Sat.put {N : Nat} {E : Env} {a : Act} (h : Sat N E a) {d : Nat} (hd : d < N) (v : Value) : Sat N ((d, v) :: E) (a.put (some d) v) := by
  refine ⟨by simp [Act.put, h.size], by simp [Act.put, h.defers], fun t u ht => ?_⟩
  simp only [Env.get] at ht
  split at ht
  · rename_i hb
    have := Nat.eq_of_beq_eq_true hb
    subst this
    injection ht with ht
    subst ht
    simp [Act.put, h.size, hd]
  · rename_i hb
    have hne : d ≠ t := fun e => by subst e; simp at hb
    simp only [Act.put]
    rw [Array.getElem?_setIfInBounds_ne hne]
    exact h.vals t u ht

def notSelect (o : Op) : Bool := match o with | .select .. => false | _ => true

def opsL : Op → List Operand
  | .call c => (match c.callee with | .value f => [f] | .invoke r _ => [r] | .builtin _ => []) ++ c.args.toList
  | .makeFunc _ f c => f.toList ++ c.toList
  | .slice _ x l h m => x :: (l.toList ++ h.toList ++ m.toList)
  | .makeMap _ r => r.toList
  | .build _ ps => ps.toList.map (·.2)
  | .buildSlice _ _ ps => ps.toList.map (·.2)
  | op => op.operands.toList

theorem mem_opsL {op : Op} {x : Operand} (h : x ∈ op.operands) : x ∈ opsL op := by
  cases op <;> simp only [Op.operands, opsL, Call.operands] at h ⊢ <;> first
    | (simp at h; done)
    | (simpa using h)
    | (rename_i c; cases hc : c.callee <;> simp [hc] at h ⊢ <;> exact h)

/-- What an operation looks at is live. -/
def opsOK (E : Env) (o : Oper) : Bool := notSelect o.op && (opsL o.op).all E.has

theorem opsOK_exec {N : Nat} {E : Env} {a : Act} (h : Sat N E a) {o : Oper} (ho : opsOK E o = true) : execOp a.eval o = execOp E.ev o := by
  simp only [opsOK, Bool.and_eq_true] at ho
  refine execOp_congr o (fun cs b e => by rw [e] at ho; simp [notSelect] at ho) fun x hx => h.eval ?_
  exact List.all_eq_true.1 ho.2 x (mem_opsL hx)

/-- Does the operation's guard let it run? -/
def wantedE (ops : Array Oper) (E : Env) (o : Oper) : Option Bool :=
  match o.guard with
  | none => some true
  | some (j, want) =>
    match (ops[j]?).bind (·.dst) with
    | none => none
    | some d => match Env.get E d with
      | some (.bool b) => some (b == want)
      | some _ => some false
      | none => none

theorem wantedE_spec {N : Nat} {ops : Array Oper} {E : Env} {a : Act} (h : Sat N E a) {o : Oper} {b : Bool} (hw : wantedE ops E o = some b) :
    Region.wanted o (yielded ops a.tmps) = b := by
  unfold wantedE at hw
  unfold Region.wanted
  cases hg : o.guard with
  | none => simp only [hg] at hw ⊢; exact Option.some.inj hw
  | some gw =>
    obtain ⟨j, want⟩ := gw
    simp only [hg] at hw ⊢
    unfold yielded
    cases hd : (ops[j]?).bind (·.dst) with
    | none => simp [hd] at hw
    | some d =>
      simp only [hd] at hw
      cases hv : Env.get E d with
      | none => simp [hv] at hw
      | some v =>
        simp only [hv] at hw
        have h1 := h.vals d v hv
        simp only [Option.bind_some, h1]
        cases v <;> first | (simpa using hw) | (simp at hw; simp [hw]; done)

/-- Calls that return. -/
def Ret (P : Program) (f : FuncId) (args : Array Value) (w : World) (R : Value → World → Prop) : Prop :=
  Calls P f args w fun e w' => ∃ v, e = .returned v ∧ R v w'

theorem Ret.mono {P : Program} {f : FuncId} {args : Array Value} {w : World} {R R' : Value → World → Prop} (h : Ret P f args w R) (hr : ∀ v w', R v w' → R' v w') : Ret P f args w R' :=
  Calls.mono h fun _ _ ⟨v, he, hR⟩ => ⟨v, he, hr _ _ hR⟩

section
variable (P : Program) (N : Nat)

def WL (ops : Array Oper) (Q : Exit → Act → World → Prop) (l : List Oper) (E : Env) (w : World) : Prop := ∀ a, Sat N E a → wpList P ops Q l a w
def WC (Q : Exit → Act → World → Prop) (c : Code) (E : Env) (w : World) : Prop := ∀ a, Sat N E a → c.wp P Q a w
def WX (Q : Exit → Act → World → Prop) (e : Exit) (E : Env) (w : World) : Prop := ∀ a, Sat N E a → Q e a w
end

section lists
variable {P : Program} {N : Nat} {ops : Array Oper} {Q : Exit → Act → World → Prop} {l : List Oper} {o : Oper} {E : Env} {w w' : World} {d : Nat} {v : Value}

theorem WL.nil (k : WX N Q .normal E w) : WL P N ops Q [] E w := fun a h => k a h

theorem WL.val (hd : o.dst = some d) (hN : Nat.blt d N = true) (ho : opsOK E o = true) (hw : wantedE ops E o = some true)
    (hrun : (execOp E.ev o).run P w = .ok (.value v) w') (k : WL P N ops Q l ((d, v) :: E) w') : WL P N ops Q (o :: l) E w := by
  intro a h
  have hd' : d < N := Eq.mp Nat.blt_eq hN
  unfold wpList
  rw [if_pos (wantedE_spec h hw)]
  refine .inl ?_
  unfold Oper.wp
  rw [opsOK_exec h ho, hrun, Oper.upon_value, hd]
  exact k _ (h.put hd' v)

theorem WL.eff (hd : o.dst = none) (ho : opsOK E o = true) (hw : wantedE ops E o = some true)
    (hrun : (execOp E.ev o).run P w = .ok .skip w') (k : WL P N ops Q l E w') : WL P N ops Q (o :: l) E w := by
  intro a h
  unfold wpList
  rw [if_pos (wantedE_spec h hw)]
  refine .inl ?_
  unfold Oper.wp
  rw [opsOK_exec h ho, hrun, Oper.upon_skip, hd]
  exact k _ h

theorem WL.skip (hd : o.dst = some d) (hN : Nat.blt d N = true) (hw : wantedE ops E o = some false) (k : WL P N ops Q l ((d, undef) :: E) w) : WL P N ops Q (o :: l) E w := by
  intro a h
  have hd' : d < N := Eq.mp Nat.blt_eq hN
  unfold wpList
  rw [wantedE_spec h hw, hd]
  exact k _ (h.put hd' undef)

theorem WL.call {f : FuncId} {args : Array Value} {R : Value → World → Prop} (hd : o.dst = some d) (hN : Nat.blt d N = true) (ho : opsOK E o = true) (hw : wantedE ops E o = some true)
    (hrun : (execOp E.ev o).run P w = .ok (.enter f args) w') (hc : Ret P f args w' R) (k : ∀ v w'', R v w'' → WL P N ops Q l ((d, v) :: E) w'') : WL P N ops Q (o :: l) E w := by
  intro a h
  have hd' : d < N := Eq.mp Nat.blt_eq hN
  unfold wpList
  rw [if_pos (wantedE_spec h hw)]
  refine .inl ?_
  unfold Oper.wp
  rw [opsOK_exec h ho, hrun, Oper.upon_enter]
  refine Calls.mono hc ?_
  rintro e w'' ⟨v, rfl, hR⟩
  simp only [hd]
  exact k v w'' hR _ (h.put hd' v)

/-- a bool in a temporary: both ways -/
theorem WL.cases (t : Nat) {b : Bool} (hg : Env.get E t = some (.bool b)) (ht : b = true → WL P N ops Q l ((t, .bool true) :: E) w) (hf : b = false → WL P N ops Q l ((t, .bool false) :: E) w) :
    WL P N ops Q l E w := by
  intro a h
  cases b with
  | true => exact ht rfl a ⟨h.size, h.defers, fun s v hs => by
      simp only [Env.get] at hs
      split at hs
      · rename_i hb
        have := Nat.eq_of_beq_eq_true hb
        subst this
        injection hs with hs
        subst hs
        exact h.vals _ _ hg
      · exact h.vals s v hs⟩
  | false => exact hf rfl a ⟨h.size, h.defers, fun s v hs => by
      simp only [Env.get] at hs
      split at hs
      · rename_i hb
        have := Nat.eq_of_beq_eq_true hb
        subst this
        injection hs with hs
        subst hs
        exact h.vals _ _ hg
      · exact h.vals s v hs⟩

theorem WL.keep (F : Env) (hs : E.sub F) (k : WL P N ops Q l F w) : WL P N ops Q l E w := fun a h => k a (h.sub hs)
end lists

section code
variable {P : Program} {N : Nat} {Q : Exit → Act → World → Prop} {c x y : Code} {E : Env} {w : World}

theorem WC.keep (F : Env) (hs : E.sub F) (k : WC P N Q c F w) : WC P N Q c E w := fun a h => k a (h.sub hs)
theorem WX.keep {e : Exit} (F : Env) (hs : E.sub F) (k : WX N Q e F w) : WX N Q e E w := fun a h => k a (h.sub hs)
theorem WC.seq (k : WC P N (Exit.then (y.wp P Q) Q) x E w) : WC P N Q (.seq x y) E w := fun a h => wp_seq (k a h)
theorem WC.skip (k : WX N Q .normal E w) : WC P N Q .skip E w := fun a h => wp_skip (k a h)
theorem WC.ret (k : WX N Q .ret E w) : WC P N Q .ret E w := fun a h => wp_ret (k a h)
theorem WC.exit {id : Nat} (k : WX N Q (.exit id) E w) : WC P N Q (.exit id) E w := fun a h => wp_exit (k a h)
theorem WC.block {id : Nat} (k : WC P N (Exit.inBlock id Q) c E w) : WC P N Q (.block id c) E w := fun a h => wp_block (k a h)
theorem WC.region {id : Nat} {l : List Oper} (k : WL P N l.toArray Q l E w) : WC P N Q (.region id l.toArray false) E w := fun a h => wp_region_lit (k a h)
theorem WC.cond {t : Operand} {b : Bool} (ht : E.has t = true) (hb : E.ev t = .bool b) (k1 : b = true → WC P N Q x E w) (k2 : b = false → WC P N Q y E w) : WC P N Q (.cond t x y) E w :=
  fun a h => wp_cond_split (t := b) (by rw [h.eval ht, hb]) (fun e => k1 e a h) (fun e => k2 e a h)
theorem WC.cond_true {t : Operand} (ht : E.has t = true) (hb : E.ev t = .bool true) (k1 : WC P N Q x E w) : WC P N Q (.cond t x y) E w :=
  fun a h => wp_cond_true (by rw [h.eval ht, hb]) (k1 a h)
theorem WC.cond_false {t : Operand} (ht : E.has t = true) (hb : E.ev t = .bool false) (k1 : WC P N Q y E w) : WC P N Q (.cond t x y) E w :=
  fun a h => wp_cond_false (by rw [h.eval ht, hb]) (k1 a h)

theorem WX.next {k : Code} (h : WC P N Q k E w) : WX N (Exit.then (k.wp P Q) Q) .normal E w := fun a ha => h a ha
theorem WX.thenRet {K : Act → World → Prop} (h : WX N Q .ret E w) : WX N (Exit.then K Q) .ret E w := fun a ha => h a ha
theorem WX.thenExit {K : Act → World → Prop} {id : Nat} (h : WX N Q (.exit id) E w) : WX N (Exit.then K Q) (.exit id) E w := fun a ha => h a ha
theorem WX.blockNormal {id : Nat} (h : WX N Q .normal E w) : WX N (Exit.inBlock id Q) .normal E w := fun a ha => h a ha
theorem WX.blockRet {id : Nat} (h : WX N Q .ret E w) : WX N (Exit.inBlock id Q) .ret E w := fun a ha => h a ha
theorem WX.blockHere {id : Nat} (h : WX N Q .normal E w) : WX N (Exit.inBlock id Q) (.exit id) E w := fun a ha => by simp only [Exit.inBlock, if_true]; exact h a ha
theorem WX.blockPast {id j : Nat} (hj : Nat.beq j id = false) (h : WX N Q (.exit j) E w) : WX N (Exit.inBlock id Q) (.exit j) E w := fun a ha => by
  have : j ≠ id := fun e => by subst e; simp at hj
  simp only [Exit.inBlock, this, if_false]; exact h a ha

/-- a piece by what holds behind it: ways meet again -/
def Meets (N : Nat) (J : Env → World → Prop) : Act → World → Prop := fun a w => ∃ E, Sat N E a ∧ J E w

theorem WC.cut (J : Env → World → Prop) (k1 : WC P N (Exit.then (Meets N J) Q) x E w) (k2 : ∀ E w, J E w → WC P N Q y E w) : WC P N Q (.seq x y) E w :=
  fun a h => wp_seq (Code.wp_mono (fun e a w q => by
    cases e <;> first | exact q | (obtain ⟨E, hE, hJ⟩ := q; exact k2 E w hJ a hE)) (k1 a h))

theorem WX.meet {J : Env → World → Prop} (F : Env) (hs : E.sub F) (hJ : J F w) : WX N (Exit.then (Meets N J) Q) .normal E w := fun a h => ⟨F, h.sub hs, hJ⟩

theorem WC.loop (I : Nat → Env → World → Prop) (n : Nat) (h0 : I n E w)
    (hr : ∀ n E w, I n E w → WC P N (Exit.then (Meets N fun E' w' => ∃ m, m < n ∧ I m E' w') Q) c E w) : WC P N Q (.loop c) E w := by
  intro a h b k cs
  have key : ∀ n E w, I n E w → ∀ a, Sat N E a →
      ∃ e a' w', Q e a' w' ∧ Arrives P (lone (b.at a (.code c :: .inLoop c :: k)) cs w) b k cs e a' w' := by
    intro n
    induction n using Nat.strongRecOn with
    | _ n ih =>
      intro E w hI a ha
      obtain ⟨e, a₁, w₁, hq, harr⟩ := hr n E w hI a ha b (.inLoop c :: k) cs
      cases e with
      | normal =>
        obtain ⟨E', hE', m, hm, hI'⟩ := hq
        obtain ⟨e₂, a₂, w₂, hq₂, harr₂⟩ := ih m hm E' w₁ hI' a₁ hE'
        exact ⟨e₂, a₂, w₂, hq₂, .of_steps (Steps.trans harr (.one step_inLoop)) harr₂⟩
      | exit id => exact ⟨_, a₁, w₁, hq, .pass (x := .inLoop c) rfl (fun _ _ => .inl (by simp)) harr⟩
      | goto l => exact ⟨_, a₁, w₁, hq, .pass (x := .inLoop c) rfl (fun _ _ => .inl (by simp)) harr⟩
      | ret => exact ⟨_, a₁, w₁, hq, .pass (x := .inLoop c) rfl (fun _ _ => .inl (by simp)) harr⟩
      | panic ch => exact ⟨_, a₁, w₁, hq, .pass (x := .inLoop c) rfl (fun _ _ => .inl (by simp)) harr⟩
      | outgrown => exact ⟨_, a₁, w₁, hq, .pass (x := .inLoop c) rfl (fun _ _ => .inl (by simp)) harr⟩
  obtain ⟨e, a', w', hq, harr⟩ := key n E w h0 a h
  exact ⟨e, a', w', hq, .of_steps (.one step_loop) harr⟩
end code
end Go.Proofs.YtomkdhkkggbioaaGreatDoor

/-
  A region that draws its order, walked in one order: what yields whatever the world is, and what yields wherever S holds, is taken first.
-/
namespace Go.Proofs.YtomkdhkkggbioaaGreatDoor
open Go
set_option linter.unusedSimpArgs false
set_option linter.unusedVariables false

/-- What must be kept behind an operation: of kind 0 it leaves the world; of kind 1 it keeps S; else nothing is asked. -/
def Keeps (S : World → Prop) (k : Nat) (w w' : World) : Prop :=
  match k with
  | 0 => w' = w
  | 1 => S w'
  | _ => True

section
variable {P : Program} {ops : Array Oper} {Q : Exit → Act → World → Prop} {S : World → Prop} {kind : Nat → Nat}

/-- Whatever order is picked from here on, and what is asked is kept behind every operation. -/
def wpAnyM (P : Program) (ops : Array Oper) (Q : Exit → Act → World → Prop) (S : World → Prop) (kind : Nat → Nat) : Nat → Array Bool → Act → World → Prop
  | 0, listed, a, w => Region.ready .any ops listed = [] ∧ Q .normal a w
  | fuel + 1, listed, a, w =>
    (Region.ready .any ops listed = [] → Q .normal a w) ∧
    ∀ i ∈ Region.ready .any ops listed, wpOp P ops Q i (fun a' w' => Keeps S (kind i) w w' ∧ wpAnyM P ops Q S kind fuel (listed.setIfInBounds i true) a' w') a w

theorem wpAny_of_M : ∀ (fuel : Nat) (listed : Array Bool) (a : Act) (w : World), wpAnyM P ops Q S kind fuel listed a w → wpAny P .any ops Q fuel listed a w
  | 0, _, _, _, h => h
  | fuel + 1, _, _, _, h => ⟨h.1, fun i hi => wpOp_mono (fun a' w' h' => wpAny_of_M fuel _ a' w' h'.2) (h.2 i hi)⟩

/-- Listed operations have all that they wait for listed. -/
def Closed (ops : Array Oper) (listed : Array Bool) : Prop :=
  listed.size = ops.size ∧ ∀ j oj, ops[j]? = some oj → listed.getD j false = true → ∀ e ∈ oj.after, Region.binds .any e = true → listed.getD e.on false = true

theorem Closed.set {listed : Array Bool} {i : Nat} (h : Closed ops listed) (hi : i ∈ Region.ready .any ops listed) : Closed ops (listed.setIfInBounds i true) := by
  obtain ⟨_, oi, hoi, hall⟩ := mem_ready.1 hi
  refine ⟨by simp [h.1], fun j oj hj hl e he hb => ?_⟩
  by_cases hij : i = j
  · subst hij
    have : oj = oi := Option.some.inj (hj.symm.trans hoi)
    subst this
    exact getD_set_true (hall e he hb)
  · rw [getD_set_ne false hij] at hl
    exact getD_set_true (h.2 j oj hj hl e he hb)

theorem closed_start : Closed ops (Array.replicate ops.size false) := ⟨by simp, fun j oj _ hl => by
  exfalso
  by_cases h : j < ops.size <;> simp [h] at hl⟩

/-- Operation j waits for i, by however many steps. -/
def waitsB (ops : Array Oper) (i : Nat) : Nat → Nat → Bool
  | 0, _ => false
  | f + 1, j => match ops[j]? with
    | some oj => oj.after.any fun e => Region.binds .any e && (e.on == i || waitsB ops i f e.on)
    | none => false

theorem waits_listed {listed : Array Bool} (hc : Closed ops listed) {i : Nat} : ∀ f j, waitsB ops i f j = true → listed.getD j false = true → listed.getD i false = true
  | 0, _, h, _ => by simp [waitsB] at h
  | f + 1, j, h, hl => by
    simp only [waitsB] at h
    split at h
    · rename_i oj hj
      obtain ⟨e, he, hb⟩ := Array.any_eq_true'.1 h
      simp only [Bool.and_eq_true, Bool.or_eq_true, beq_iff_eq] at hb
      have h1 := hc.2 j oj hj hl e he hb.1
      rcases hb.2 with h2 | h2
      · rw [← h2]; exact h1
      · exact waits_listed hc f e.on h2 h1
    · cases h

theorem waits_ready {listed : Array Bool} (hc : Closed ops listed) {i j f : Nat} (h : waitsB ops i f j = true) (hr : j ∈ Region.ready .any ops listed) : listed.getD i false = true := by
  obtain ⟨_, oj, hoj, hall⟩ := mem_ready.1 hr
  cases f with
  | zero => simp [waitsB] at h
  | succ f =>
    simp only [waitsB, hoj] at h
    obtain ⟨e, he, hb⟩ := Array.any_eq_true'.1 h
    simp only [Bool.and_eq_true, Bool.or_eq_true, beq_iff_eq] at hb
    have h1 := hall e he hb.1
    rcases hb.2 with h2 | h2
    · rw [← h2]; exact h1
    · exact waits_listed hc f e.on h2 h1

theorem getD_false_of_true {listed : Array Bool} {i : Nat} (h : listed.getD i true = false) : listed.getD i false = false := by
  rcases Nat.lt_or_ge i listed.size with h' | h'
  · simp [h'] at h ⊢; exact h
  · simp [Array.getElem?_eq_none h'] at h

theorem keeps_zero {w : World} {k : Nat} (hk : k = 0) : Keeps S k w w := by subst hk; rfl

theorem wpAnyM_held {i : Nat} {oi : Oper} {v : Value} (hi : ops[i]? = some oi) (hsel : ∀ (j : Nat) (o : Oper) cs b, ops[j]? = some o → o.op ≠ .select cs b)
    (hQ : ∀ c a w, Q (.panic c) (a.put oi.dst v) w → Q (.panic c) a w) (hlate : ∀ j oj, ops[j]? = some oj → 1 < kind j → ∃ f, waitsB ops i f j = true) (hki : kind i = 0) :
    ∀ (fuel : Nat) (listed : Array Bool) (a : Act) (w : World), Closed ops listed →
      (∀ j oj, ops[j]? = some oj → j ≠ i → listed.getD j true = false → (∀ e ∈ oj.after, Region.binds .any e = true → e.on ≠ i) → oi.apart ops oj = true) →
      i ∈ Region.ready .any ops listed → YieldsIf P ops S oi v a → S w →
      wpAnyM P ops Q S kind fuel (listed.setIfInBounds i true) (a.put oi.dst v) w → wpAnyM P ops Q S kind (fuel + 1) listed a w := by
  intro fuel
  induction fuel with
  | zero =>
    intro listed a w hc _ hr hy hS H
    refine ⟨fun h => (by rw [h] at hr; cases hr), fun j hj => ?_⟩
    by_cases hji : j = i
    · subst hji; exact hy.wpOp hi hS ⟨keeps_zero hki, H⟩
    · have := ready_mono hj hji
      rw [H.1] at this
      cases this
  | succ fuel ih =>
    intro listed a w hc hfree hr hy hS H
    refine ⟨fun h => (by rw [h] at hr; cases hr), fun j hj => ?_⟩
    by_cases hji : j = i
    · subst hji; exact hy.wpOp hi hS ⟨keeps_zero hki, H⟩
    · have h1 := H.2 j (ready_mono hj hji)
      obtain ⟨hjun, oj, hoj, hall⟩ := mem_ready.1 hj
      have hun := getD_false_of_true (mem_ready.1 hr).1
      have hnl : ¬ 1 < kind j := fun hl => by
        obtain ⟨f, hf⟩ := hlate j oj hoj hl
        rw [waits_ready hc hf hj] at hun
        cases hun
      have hnot : ∀ e ∈ oj.after, Region.binds .any e = true → e.on ≠ i := fun e he hb heq => by
        have h1 := hall e he hb
        rw [heq, hun] at h1
        cases h1
      have h2 := wpOp_putIf hoj (hfree j oj hoj hji hjun hnot) (fun cs b => hsel i oi cs b hi) (fun cs b => hsel j oj cs b hoj) hQ hy h1
      have hfree' : ∀ k ok, ops[k]? = some ok → k ≠ i → (listed.setIfInBounds j true).getD k true = false →
          (∀ e ∈ ok.after, Region.binds .any e = true → e.on ≠ i) → oi.apart ops ok = true := fun k ok hk hki hun hno => by
        refine hfree k ok hk hki ?_ hno
        by_cases hjk : j = k
        · subst hjk; exact hjun
        · rw [getD_set_ne true hjk] at hun; exact hun
      refine wpOp_mono (fun a' w' h3 => ?_) h2
      have hS' : S w' := by
        have h4 := h3.2.1
        generalize hk : kind j = k at h4 hnl
        match k, h4 with
        | 0, h4 => simp only [Keeps] at h4; rw [h4]; exact hS
        | 1, h4 => exact h4
        | n + 2, _ => exact absurd (by omega) hnl
      refine ⟨h3.2.1, ih (listed.setIfInBounds j true) a' w' (hc.set hj) hfree' (ready_mono hr (Ne.symm hji)) h3.1 hS' ?_⟩
      rw [Array.setIfInBounds_comm _ _ hji]
      exact h3.2.2

/-- The same for what yields whatever the world is: S plays no part. -/
theorem wpAnyM_calm {i : Nat} {oi : Oper} {v : Value} (hi : ops[i]? = some oi) (hsel : ∀ (j : Nat) (o : Oper) cs b, ops[j]? = some o → o.op ≠ .select cs b)
    (hQ : ∀ c a w, Q (.panic c) (a.put oi.dst v) w → Q (.panic c) a w) (hki : kind i = 0) :
    ∀ (fuel : Nat) (listed : Array Bool) (a : Act) (w : World),
      (∀ j oj, ops[j]? = some oj → j ≠ i → listed.getD j true = false → (∀ e ∈ oj.after, Region.binds .any e = true → e.on ≠ i) → oi.apart ops oj = true) →
      i ∈ Region.ready .any ops listed → Yields P ops oi v a →
      wpAnyM P ops Q S kind fuel (listed.setIfInBounds i true) (a.put oi.dst v) w → wpAnyM P ops Q S kind (fuel + 1) listed a w := by
  intro fuel
  induction fuel with
  | zero =>
    intro listed a w _ hr hy H
    refine ⟨fun h => (by rw [h] at hr; cases hr), fun j hj => ?_⟩
    by_cases hji : j = i
    · subst hji; exact hy.wpOp hi ⟨keeps_zero hki, H⟩
    · have := ready_mono hj hji
      rw [H.1] at this
      cases this
  | succ fuel ih =>
    intro listed a w hfree hr hy H
    refine ⟨fun h => (by rw [h] at hr; cases hr), fun j hj => ?_⟩
    by_cases hji : j = i
    · subst hji; exact hy.wpOp hi ⟨keeps_zero hki, H⟩
    · have h1 := H.2 j (ready_mono hj hji)
      obtain ⟨hjun, oj, hoj, hall⟩ := mem_ready.1 hj
      have hun := getD_false_of_true (mem_ready.1 hr).1
      have hnot : ∀ e ∈ oj.after, Region.binds .any e = true → e.on ≠ i := fun e he hb heq => by
        have h1 := hall e he hb
        rw [heq, hun] at h1
        cases h1
      have h2 := wpOp_put hoj (hfree j oj hoj hji hjun hnot) (fun cs b => hsel i oi cs b hi) (fun cs b => hsel j oj cs b hoj) hQ hy h1
      have hfree' : ∀ k ok, ops[k]? = some ok → k ≠ i → (listed.setIfInBounds j true).getD k true = false →
          (∀ e ∈ ok.after, Region.binds .any e = true → e.on ≠ i) → oi.apart ops ok = true := fun k ok hk hki hun hno => by
        refine hfree k ok hk hki ?_ hno
        by_cases hjk : j = k
        · subst hjk; exact hjun
        · rw [getD_set_ne true hjk] at hun; exact hun
      refine wpOp_mono (fun a' w' h3 => ⟨h3.2.1, ih (listed.setIfInBounds j true) a' w' hfree' (ready_mono hr (Ne.symm hji)) h3.1 ?_⟩) h2
      rw [Array.setIfInBounds_comm _ _ hji]
      exact h3.2.2
end

/-- An order (a tree, where two operations with an effect may come up). -/
inductive Ord where
  | done
  | calm (i : Nat) (r : Ord)
  | held (i : Nat) (r : Ord)
  | one (i : Nat) (r : Ord)
  | two (i j : Nat) (r s : Ord)

section
variable (P : Program) (ops : Array Oper) (Q : Exit → Act → World → Prop) (S : World → Prop) (kind : Nat → Nat)

def wpOrd : Ord → Act → World → Prop
  | .done, a, w => Q .normal a w
  | .calm i r, a, w => ∃ o v, ops[i]? = some o ∧ Yields P ops o v a ∧ wpOrd r (a.put o.dst v) w
  | .held i r, a, w => S w ∧ ∃ o v, ops[i]? = some o ∧ YieldsIf P ops S o v a ∧ wpOrd r (a.put o.dst v) w
  | .one i r, a, w => wpOp P ops Q i (fun a' w' => Keeps S (kind i) w w' ∧ wpOrd r a' w') a w
  | .two i j r s, a, w => wpOp P ops Q i (fun a' w' => Keeps S (kind i) w w' ∧ wpOrd r a' w') a w ∧ wpOp P ops Q j (fun a' w' => Keeps S (kind j) w w' ∧ wpOrd s a' w') a w
end

def Ord.steps : Ord → Nat
  | .done => 0
  | .calm _ r => r.steps + 1
  | .held _ r => r.steps + 1
  | .one _ r => r.steps + 1
  | .two _ _ r _ => r.steps + 1

/-- Is it an order of the region? (n: so many are to come.) -/
def ordOK (ops : Array Oper) (kind : Nat → Nat) : Ord → Nat → Array Bool → Bool
  | .done, n, L => (n == 0) && (Region.ready .any ops L).isEmpty
  | .calm i r, n, L => (n != 0) && (kind i == 0) && (Region.ready .any ops L).contains i && Region.free .any ops L i && ordOK ops kind r (n - 1) (L.setIfInBounds i true)
  | .held i r, n, L => (n != 0) && (kind i == 0) && (Region.ready .any ops L).contains i && Region.free .any ops L i && ((List.range ops.size).all fun j => Nat.ble (kind j) 1 || waitsB ops i ops.size j) && ordOK ops kind r (n - 1) (L.setIfInBounds i true)
  | .one i r, n, L => (n != 0) && (Region.ready .any ops L == [i]) && ordOK ops kind r (n - 1) (L.setIfInBounds i true)
  | .two i j r s, n, L => (n != 0) && (Region.ready .any ops L == [i, j]) && ordOK ops kind r (n - 1) (L.setIfInBounds i true) && ordOK ops kind s (n - 1) (L.setIfInBounds j true)

theorem wpOrd_any {P : Program} {ops : Array Oper} {Q : Exit → Act → World → Prop} {S : World → Prop} {kind : Nat → Nat} (hs : Region.noSelect ops = true)
    (hQ : ∀ c a d v w, Q (.panic c) (Act.put a d v) w → Q (.panic c) a w) :
    ∀ (r : Ord) (n : Nat) (L : Array Bool) (a : Act) (w : World), Closed ops L → ordOK ops kind r n L = true → wpOrd P ops Q S kind r a w → wpAnyM P ops Q S kind n L a w
  | .done, n, L, a, w, _, hB, h => by
    simp only [ordOK, Bool.and_eq_true, beq_iff_eq, List.isEmpty_iff] at hB
    obtain ⟨rfl, h2⟩ := hB
    exact ⟨h2, h⟩
  | .calm i r, n, L, a, w, hc, hB, h => by
    simp only [ordOK, Bool.and_eq_true, bne_iff_ne, ne_eq, beq_iff_eq] at hB
    obtain ⟨⟨⟨⟨h0, h1⟩, h2⟩, h3⟩, h4⟩ := hB
    obtain ⟨m, rfl⟩ : ∃ m, n = m + 1 := ⟨n - 1, by omega⟩
    obtain ⟨o, v, ho, hy, hr⟩ := h
    have hi : i ∈ Region.ready .any ops L := by simpa using h2
    exact wpAnyM_calm ho (Region.noSelect_spec hs) (fun c a w => hQ c a _ _ w) h1 m L a w (Region.free_spec ho h3) hi hy
      (wpOrd_any hs hQ r m _ _ w (hc.set hi) (by simpa using h4) hr)
  | .held i r, n, L, a, w, hc, hB, h => by
    simp only [ordOK, Bool.and_eq_true, bne_iff_ne, ne_eq, beq_iff_eq] at hB
    obtain ⟨⟨⟨⟨⟨h0, h1⟩, h2⟩, h3⟩, h5⟩, h4⟩ := hB
    obtain ⟨m, rfl⟩ : ∃ m, n = m + 1 := ⟨n - 1, by omega⟩
    obtain ⟨hS, o, v, ho, hy, hr⟩ := h
    have hi : i ∈ Region.ready .any ops L := by simpa using h2
    refine wpAnyM_held ho (Region.noSelect_spec hs) (fun c a w => hQ c a _ _ w) ?_ h1 m L a w hc (Region.free_spec ho h3) hi hy hS
      (wpOrd_any hs hQ r m _ _ w (hc.set hi) (by simpa using h4) hr)
    intro j oj hoj hk
    have h6 := List.all_eq_true.1 h5 j (List.mem_range.2 (Array.getElem?_eq_some_iff.1 hoj).1)
    simp only [Bool.or_eq_true] at h6
    rcases h6 with h6 | h6
    · have := Nat.le_of_ble_eq_true h6; omega
    · exact ⟨_, h6⟩
  | .one i r, n, L, a, w, hc, hB, h => by
    simp only [ordOK, Bool.and_eq_true, bne_iff_ne, ne_eq, beq_iff_eq] at hB
    obtain ⟨⟨h0, h1⟩, h2⟩ := hB
    obtain ⟨m, rfl⟩ : ∃ m, n = m + 1 := ⟨n - 1, by omega⟩
    refine ⟨fun h3 => (by rw [h1] at h3; cases h3), fun j hj => ?_⟩
    have hj' := hj
    rw [h1] at hj'
    obtain rfl : j = i := by simpa using hj'
    exact wpOp_mono (fun a' w' h3 => ⟨h3.1, wpOrd_any hs hQ r m _ a' w' (hc.set hj) (by simpa using h2) h3.2⟩) h
  | .two i k r s, n, L, a, w, hc, hB, h => by
    simp only [ordOK, Bool.and_eq_true, bne_iff_ne, ne_eq, beq_iff_eq] at hB
    obtain ⟨⟨⟨h0, h1⟩, h2⟩, h3⟩ := hB
    obtain ⟨m, rfl⟩ : ∃ m, n = m + 1 := ⟨n - 1, by omega⟩
    refine ⟨fun h4 => (by rw [h1] at h4; cases h4), fun j hj => ?_⟩
    have hj' := hj
    rw [h1] at hj'
    have : j = i ∨ j = k := by simpa using hj'
    rcases this with rfl | rfl
    · exact wpOp_mono (fun a' w' h4 => ⟨h4.1, wpOrd_any hs hQ r m _ a' w' (hc.set hj) (by simpa using h2) h4.2⟩) h.1
    · exact wpOp_mono (fun a' w' h4 => ⟨h4.1, wpOrd_any hs hQ s m _ a' w' (hc.set hj) (by simpa using h3) h4.2⟩) h.2

/-- the whole check, for the kernel -/
def ordB (ops : Array Oper) (kind : Nat → Nat) (r : Ord) : Bool := Region.noSelect ops && ordOK ops kind r ops.size (Array.replicate ops.size false)

section
variable {P : Program} {N : Nat} {ops : Array Oper} {Q : Exit → Act → World → Prop} {S : World → Prop} {kind : Nat → Nat} {E : Env} {w w' : World} {o : Oper} {d i j : Nat} {v : Value} {r s : Ord}

def WN (P : Program) (N : Nat) (ops : Array Oper) (Q : Exit → Act → World → Prop) (S : World → Prop) (kind : Nat → Nat) (r : Ord) (E : Env) (w : World) : Prop := ∀ a, Sat N E a → wpOrd P ops Q S kind r a w

theorem WC.draws {id : Nat} {l : List Oper} (S : World → Prop) (kind : Nat → Nat) (r : Ord) (hm : P.follows .mixedOrders = true) (hB : ordB l.toArray kind r = true)
    (hQ : ∀ c a d v w, Q (.panic c) (Act.put a d v) w → Q (.panic c) a w) (k : WN P N l.toArray Q S kind r E w.drew) : WC P N Q (.region id l.toArray true) E w := by
  intro a h
  simp only [ordB, Bool.and_eq_true] at hB
  refine wp_region_any hm (wpAny_of_M (S := S) (kind := kind) _ _ _ _ ?_)
  exact wpOrd_any hB.1 hQ r _ _ _ _ closed_start hB.2 (k a h)

/-- what holds behind a panic asks nothing of the temporaries -/
def Deaf (Q : Exit → Act → World → Prop) : Prop := ∀ c a d v w, Q (.panic c) (Act.put a d v) w → Q (.panic c) a w
theorem Deaf.block {id : Nat} {Q : Exit → Act → World → Prop} (h : Deaf Q) : Deaf (Exit.inBlock id Q) := fun c a d v w hq => h c a d v w hq
theorem Deaf.then {X : Act → World → Prop} {Q : Exit → Act → World → Prop} (h : Deaf Q) : Deaf (Exit.then X Q) := fun c a d v w hq => h c a d v w hq
theorem Deaf.body {P : Program} {fn : Func} {R : Ending → World → Prop} : Deaf (bodyPost P fn R) := fun c a d v w hq => by cases d <;> exact hq

/-- the same, the world behind the draw under a name of its own -/
theorem WC.draws' {id : Nat} {l : List Oper} (S : World → World → Prop) (kind : Nat → Nat) (r : Ord) (hm : P.follows .mixedOrders = true) (hB : ordB l.toArray kind r = true)
    (hQ : Deaf Q)
    (k : ∀ w', w'.os = w.os ∧ w'.tape = w.tape ∧ w'.output = w.output ∧ w'.heap = w.heap → WN P N l.toArray Q (S w') kind r E w') : WC P N Q (.region id l.toArray true) E w :=
  WC.draws (S w.drew) kind r hm hB hQ (k _ ⟨rfl, rfl, rfl, rfl⟩)

theorem WN.done (k : WX N Q .normal E w) : WN P N ops Q S kind .done E w := fun a h => k a h

theorem WN.keep (F : Env) (hs : E.sub F) (k : WN P N ops Q S kind r F w) : WN P N ops Q S kind r E w := fun a h => k a (h.sub hs)

theorem WN.calm (o : Oper) (hi : ops[i]? = some o) (hd : o.dst = some d) (hN : Nat.blt d N = true) (ho : opsOK E o = true) (hw : wantedE ops E o = some true)
    (hrun : ∀ w, (execOp E.ev o).run P w = .ok (.value v) w) (k : WN P N ops Q S kind r ((d, v) :: E) w) : WN P N ops Q S kind (.calm i r) E w := by
  intro a h
  have hd' : d < N := Eq.mp Nat.blt_eq hN
  refine ⟨o, v, hi, .inl ⟨wantedE_spec h hw, fun w => by rw [opsOK_exec h ho]; exact hrun w⟩, ?_⟩
  rw [hd]
  exact k _ (h.put hd' v)

theorem WN.skip (o : Oper) (hi : ops[i]? = some o) (hd : o.dst = some d) (hN : Nat.blt d N = true) (hw : wantedE ops E o = some false)
    (k : WN P N ops Q S kind r ((d, undef) :: E) w) : WN P N ops Q S kind (.calm i r) E w := by
  intro a h
  have hd' : d < N := Eq.mp Nat.blt_eq hN
  refine ⟨o, undef, hi, .inr ⟨wantedE_spec h hw, rfl⟩, ?_⟩
  rw [hd]
  exact k _ (h.put hd' undef)

theorem WN.held (o : Oper) (hi : ops[i]? = some o) (hd : o.dst = some d) (hN : Nat.blt d N = true) (ho : opsOK E o = true) (hw : wantedE ops E o = some true) (hS : S w)
    (hrun : ∀ w, S w → (execOp E.ev o).run P w = .ok (.value v) w) (k : WN P N ops Q S kind r ((d, v) :: E) w) : WN P N ops Q S kind (.held i r) E w := by
  intro a h
  have hd' : d < N := Eq.mp Nat.blt_eq hN
  refine ⟨hS, o, v, hi, .inl ⟨wantedE_spec h hw, fun w hw => by rw [opsOK_exec h ho]; exact hrun w hw⟩, ?_⟩
  rw [hd]
  exact k _ (h.put hd' v)

theorem WN.heldSkip (o : Oper) (hi : ops[i]? = some o) (hd : o.dst = some d) (hN : Nat.blt d N = true) (hw : wantedE ops E o = some false) (hS : S w)
    (k : WN P N ops Q S kind r ((d, undef) :: E) w) : WN P N ops Q S kind (.held i r) E w := by
  intro a h
  have hd' : d < N := Eq.mp Nat.blt_eq hN
  refine ⟨hS, o, undef, hi, .inr ⟨wantedE_spec h hw, rfl⟩, ?_⟩
  rw [hd]
  exact k _ (h.put hd' undef)

theorem WN.cases (t : Nat) {b : Bool} (hg : Env.get E t = some (.bool b)) (ht : b = true → WN P N ops Q S kind r ((t, .bool true) :: E) w) (hf : b = false → WN P N ops Q S kind r ((t, .bool false) :: E) w) :
    WN P N ops Q S kind r E w := by
  intro a h
  cases b with
  | true => exact ht rfl a ⟨h.size, h.defers, fun s v hs => by
      simp only [Env.get] at hs
      split at hs
      · rename_i hb
        have := Nat.eq_of_beq_eq_true hb
        subst this
        injection hs with hs
        subst hs
        exact h.vals _ _ hg
      · exact h.vals s v hs⟩
  | false => exact hf rfl a ⟨h.size, h.defers, fun s v hs => by
      simp only [Env.get] at hs
      split at hs
      · rename_i hb
        have := Nat.eq_of_beq_eq_true hb
        subst this
        injection hs with hs
        subst hs
        exact h.vals _ _ hg
      · exact h.vals s v hs⟩

/-- one operation, as a step of its own -/
def WO (P : Program) (N : Nat) (ops : Array Oper) (Q : Exit → Act → World → Prop) (i : Nat) (K : Env → World → Prop) (E : Env) (w : World) : Prop :=
  ∀ (K' : Act → World → Prop), (∀ E' w' a', K E' w' → Sat N E' a' → K' a' w') → ∀ a, Sat N E a → wpOp P ops Q i K' a w

theorem WN.one (k : WO P N ops Q i (fun E' w' => Keeps S (kind i) w w' ∧ WN P N ops Q S kind r E' w') E w) : WN P N ops Q S kind (.one i r) E w :=
  fun a h => k _ (fun _ _ a' hK hs => ⟨hK.1, hK.2 a' hs⟩) a h

theorem WN.two (k1 : WO P N ops Q i (fun E' w' => Keeps S (kind i) w w' ∧ WN P N ops Q S kind r E' w') E w)
    (k2 : WO P N ops Q j (fun E' w' => Keeps S (kind j) w w' ∧ WN P N ops Q S kind s E' w') E w) : WN P N ops Q S kind (.two i j r s) E w :=
  fun a h => ⟨k1 _ (fun _ _ a' hK hs => ⟨hK.1, hK.2 a' hs⟩) a h, k2 _ (fun _ _ a' hK hs => ⟨hK.1, hK.2 a' hs⟩) a h⟩

variable {K : Env → World → Prop}

theorem WO.val (o : Oper) (hi : ops[i]? = some o) (hd : o.dst = some d) (hN : Nat.blt d N = true) (ho : opsOK E o = true) (hw : wantedE ops E o = some true)
    (hrun : (execOp E.ev o).run P w = .ok (.value v) w') (k : K ((d, v) :: E) w') : WO P N ops Q i K E w := by
  intro K' hK a h
  have hd' : d < N := Eq.mp Nat.blt_eq hN
  unfold wpOp
  simp only [hi]
  rw [if_pos (wantedE_spec h hw)]
  refine .inl ?_
  unfold Oper.wp
  rw [opsOK_exec h ho, hrun, Oper.upon_value, hd]
  exact hK _ _ _ k (h.put hd' v)

theorem WO.eff (o : Oper) (hi : ops[i]? = some o) (hd : o.dst = none) (ho : opsOK E o = true) (hw : wantedE ops E o = some true)
    (hrun : (execOp E.ev o).run P w = .ok .skip w') (k : K E w') : WO P N ops Q i K E w := by
  intro K' hK a h
  unfold wpOp
  simp only [hi]
  rw [if_pos (wantedE_spec h hw)]
  refine .inl ?_
  unfold Oper.wp
  rw [opsOK_exec h ho, hrun, Oper.upon_skip, hd]
  exact hK _ _ _ k h

theorem WO.skip (o : Oper) (hi : ops[i]? = some o) (hd : o.dst = some d) (hN : Nat.blt d N = true) (hw : wantedE ops E o = some false)
    (k : K ((d, undef) :: E) w) : WO P N ops Q i K E w := by
  intro K' hK a h
  have hd' : d < N := Eq.mp Nat.blt_eq hN
  unfold wpOp
  simp only [hi]
  rw [wantedE_spec h hw, hd]
  exact hK _ _ _ k (h.put hd' undef)

theorem WO.call (o : Oper) {f : FuncId} {args : Array Value} {R : Value → World → Prop} (hi : ops[i]? = some o) (hd : o.dst = some d) (hN : Nat.blt d N = true) (ho : opsOK E o = true) (hw : wantedE ops E o = some true)
    (hrun : (execOp E.ev o).run P w = .ok (.enter f args) w') (hc : Ret P f args w' R) (k : ∀ v w'', R v w'' → K ((d, v) :: E) w'') : WO P N ops Q i K E w := by
  intro K' hK a h
  have hd' : d < N := Eq.mp Nat.blt_eq hN
  unfold wpOp
  simp only [hi]
  rw [if_pos (wantedE_spec h hw)]
  refine .inl ?_
  unfold Oper.wp
  rw [opsOK_exec h ho, hrun, Oper.upon_enter]
  refine Calls.mono hc ?_
  rintro e w'' ⟨v, rfl, hR⟩
  simp only [hd]
  exact hK _ _ _ (k v w'' hR) (h.put hd' v)
end
end Go.Proofs.YtomkdhkkggbioaaGreatDoor

/-
  The operations' runs, one law each: numbers, bools, addresses, loads and stores, slices, calls; entry and return.
-/
namespace Go.Proofs.YtomkdhkkggbioaaGreatDoor
open Go
set_option linter.unusedSimpArgs false
set_option linter.unusedVariables false

theorem ev_t {E : Env} {t : Nat} {v : Value} (h : Env.get E t = some v) : Env.ev E (.tmp t) = v := by simp [Env.ev, h]
theorem ev_c {E : Env} {c : Value} : Env.ev E (.const c) = c := rfl
theorem ev_f {E : Env} {f : FuncId} : Env.ev E (.func f) = .func (.func f) #[] #[] := rfl
section
variable {P : Program} {ρ : Operand → Value} {o : Oper} {w : World} {x y z : Operand} {t u : TypeId} {k k' : IntKind} {a b : Int}

theorem r_move {v : Value} (ho : o.op = .move x) (hx : ρ x = v) : (execOp ρ o).run P w = .ok (.value v) w := by simp [execOp, ho, hx, go_sem]
theorem r_assign {v : Value} (ho : o.op = .assign x) (hx : ρ x = v) : (execOp ρ o).run P w = .ok (.value v) w := by simp [execOp, ho, hx, go_sem]
theorem r_pickT {v : Value} (ho : o.op = .pick x y z) (hx : ρ x = .bool true) (hy : ρ y = v) : (execOp ρ o).run P w = .ok (.value v) w := by simp [execOp, ho, hx, hy, asBool, go_sem]
theorem r_pickF {v : Value} (ho : o.op = .pick x y z) (hx : ρ x = .bool false) (hz : ρ z = v) : (execOp ρ o).run P w = .ok (.value v) w := by simp [execOp, ho, hx, hz, asBool, go_sem]

theorem r_add (ho : o.op = .binOp .add t x y u) (hx : ρ x = .int k a) (hy : ρ y = .int k b) : (execOp ρ o).run P w = .ok (.value (.int k (k.wrap (a + b)))) w := by
  simp [execOp, ho, hx, hy, binOp, Op.intArith, go_sem]
theorem r_sub (ho : o.op = .binOp .sub t x y u) (hx : ρ x = .int k a) (hy : ρ y = .int k b) : (execOp ρ o).run P w = .ok (.value (.int k (k.wrap (a - b)))) w := by
  simp [execOp, ho, hx, hy, binOp, Op.intArith, go_sem]
theorem r_mul (ho : o.op = .binOp .mul t x y u) (hx : ρ x = .int k a) (hy : ρ y = .int k b) : (execOp ρ o).run P w = .ok (.value (.int k (k.wrap (a * b)))) w := by
  simp [execOp, ho, hx, hy, binOp, Op.intArith, go_sem]

/-- numbers that the kind holds -/
def inK : IntKind → Int → Prop
  | .i64, n => -9223372036854775808 ≤ n ∧ n ≤ 9223372036854775807
  | .u64, n => 0 ≤ n ∧ n ≤ 18446744073709551615
  | .i32, n => -2147483648 ≤ n ∧ n ≤ 2147483647
  | .u32, n => 0 ≤ n ∧ n ≤ 4294967295
  | .i16, n => -32768 ≤ n ∧ n ≤ 32767
  | .u16, n => 0 ≤ n ∧ n ≤ 65535
  | .i8, n => -128 ≤ n ∧ n ≤ 127
  | .u8, n => 0 ≤ n ∧ n ≤ 255
theorem wrap_in {n : Int} (h : inK k n) : k.wrap n = n := by
  cases k <;> simp only [inK] at h <;> simp only [IntKind.wrap, IntKind.signed, IntKind.bits, Bool.true_and, Bool.false_and, Bool.false_eq_true, if_false] <;>
    first
    | omega
    | (split <;> (rename_i h'; simp only [ge_iff_le, decide_eq_true_eq] at h'; omega))

theorem r_addN (ho : o.op = .binOp .add t x y u) (hx : ρ x = .int k a) (hy : ρ y = .int k b) (h : inK k (a + b)) : (execOp ρ o).run P w = .ok (.value (.int k (a + b))) w := by
  rw [r_add ho hx hy, wrap_in h]
theorem r_subN (ho : o.op = .binOp .sub t x y u) (hx : ρ x = .int k a) (hy : ρ y = .int k b) (h : inK k (a - b)) : (execOp ρ o).run P w = .ok (.value (.int k (a - b))) w := by
  rw [r_sub ho hx hy, wrap_in h]
theorem r_mulN (ho : o.op = .binOp .mul t x y u) (hx : ρ x = .int k a) (hy : ρ y = .int k b) (h : inK k (a * b)) : (execOp ρ o).run P w = .ok (.value (.int k (a * b))) w := by
  rw [r_mul ho hx hy, wrap_in h]

theorem r_lss (ho : o.op = .binOp .lss t x y u) (hx : ρ x = .int k a) (hy : ρ y = .int k b) : (execOp ρ o).run P w = .ok (.value (.bool (decide (a < b)))) w := by
  simp [execOp, ho, hx, hy, binOp, Op.intCmp, go_sem]
theorem r_leq (ho : o.op = .binOp .leq t x y u) (hx : ρ x = .int k a) (hy : ρ y = .int k b) : (execOp ρ o).run P w = .ok (.value (.bool (decide (a ≤ b)))) w := by
  simp [execOp, ho, hx, hy, binOp, Op.intCmp, go_sem]
theorem r_gtr (ho : o.op = .binOp .gtr t x y u) (hx : ρ x = .int k a) (hy : ρ y = .int k b) : (execOp ρ o).run P w = .ok (.value (.bool (decide (b < a)))) w := by
  simp [execOp, ho, hx, hy, binOp, Op.intCmp, go_sem]
theorem r_geq (ho : o.op = .binOp .geq t x y u) (hx : ρ x = .int k a) (hy : ρ y = .int k b) : (execOp ρ o).run P w = .ok (.value (.bool (decide (b ≤ a)))) w := by
  simp [execOp, ho, hx, hy, binOp, Op.intCmp, go_sem]
theorem r_eql (ho : o.op = .binOp .eql t x y u) (hx : ρ x = .int k a) (hy : ρ y = .int k b) : (execOp ρ o).run P w = .ok (.value (.bool (decide (a = b)))) w := by
  simp [execOp, ho, hx, hy, binOp, Op.intCmp, go_sem]; rfl
theorem r_neq (ho : o.op = .binOp .neq t x y u) (hx : ρ x = .int k a) (hy : ρ y = .int k b) : (execOp ρ o).run P w = .ok (.value (.bool (decide (a ≠ b)))) w := by
  simp [execOp, ho, hx, hy, binOp, Op.intCmp, go_sem]; rfl

theorem r_quo (ho : o.op = .binOp .quo t x y u) (hx : ρ x = .int k a) (hy : ρ y = .int k b) (hb : b ≠ 0) : (execOp ρ o).run P w = .ok (.value (.int k (k.wrap (a.tdiv b)))) w := by
  simp [execOp, ho, hx, hy, binOp, hb, go_sem]
theorem r_not {c : Bool} (ho : o.op = .unOp .not t x) (hx : ρ x = .bool c) : (execOp ρ o).run P w = .ok (.value (.bool (!c))) w := by
  simp [execOp, ho, hx, Op.unary, go_sem]
theorem r_neg (ho : o.op = .unOp .neg t x) (hx : ρ x = .int k a) : (execOp ρ o).run P w = .ok (.value (.int k (k.wrap (-a)))) w := by
  simp [execOp, ho, hx, Op.unary, go_sem]

theorem r_conv (ho : o.op = .convert t u x) (hx : ρ x = .int k' a) (hs : (P.underlying t).isSome = true) (hd : P.underlying u = some (.int k)) : (execOp ρ o).run P w = .ok (.value (.int k (k.wrap a))) w := by
  obtain ⟨d, hd'⟩ := Option.isSome_iff_exists.1 hs
  simp [execOp, ho, hx, convert, run_underlying hd', run_underlying hd, Conv.intToInt, go_sem]
theorem r_convN (ho : o.op = .convert t u x) (hx : ρ x = .int k' a) (hs : (P.underlying t).isSome = true) (hd : P.underlying u = some (.int k)) (h : inK k a) : (execOp ρ o).run P w = .ok (.value (.int k a)) w := by
  rw [r_conv ho hx hs hd, wrap_in h]

theorem r_nilCheck {p : Addr} (ho : o.op = .nilCheck x) (hx : ρ x = .pointer (some p)) : (execOp ρ o).run P w = .ok (.value (.pointer (some p))) w := by
  simp [execOp, ho, hx, go_sem]
end
end Go.Proofs.YtomkdhkkggbioaaGreatDoor

/-
  Memory: blocks known whole, what a step may change, rows that are read, rows that are owned; the operations on them.
-/
namespace Go.Proofs.YtomkdhkkggbioaaGreatDoor
open Go
set_option linter.unusedSimpArgs false
set_option linter.unusedVariables false

/-- A block known whole; nothing of it is frozen. -/
def Blk (w : World) (b : Nat) (cs : Array Value) (T : TypeId) : Prop := w.heap[b]? = some (.cells cs T (0, 0))

/-- Of the blocks that were there only those of S may have changed. -/
structure Upd (S : Nat → Prop) (w w' : World) : Prop where
  os : w'.os = w.os
  tape : w'.tape = w.tape
  output : w'.output = w.output
  size : w.heap.size ≤ w'.heap.size
  block : ∀ k, k < w.heap.size → ¬ S k → w'.heap[k]? = w.heap[k]?

/-- No block. -/
def No : Nat → Prop := fun _ => False
/-- One block. -/
def At (b : Nat) : Nat → Prop := fun k => k = b
/-- Blocks from B on. -/
def From (B : Nat) : Nat → Prop := fun k => B ≤ k

theorem Upd.refl (S : Nat → Prop) (w : World) : Upd S w w := ⟨rfl, rfl, rfl, Nat.le_refl _, fun _ _ _ => rfl⟩
theorem Upd.mono {S S' : Nat → Prop} {w w' : World} (h : Upd S w w') (hs : ∀ k, k < w.heap.size → S k → S' k) : Upd S' w w' :=
  ⟨h.os, h.tape, h.output, h.size, fun k hk hn => h.block k hk fun hS => hn (hs k hk hS)⟩
theorem Upd.trans {S S' : Nat → Prop} {w w1 w2 : World} (h : Upd S w w1) (h' : Upd S' w1 w2) (hs : ∀ k, k < w.heap.size → S' k → S k) : Upd S w w2 :=
  ⟨h'.os.trans h.os, h'.tape.trans h.tape, h'.output.trans h.output, Nat.le_trans h.size h'.size, fun k hk hn =>
    (h'.block k (Nat.lt_of_lt_of_le hk h.size) fun hS => hn (hs k hk hS)).trans (h.block k hk hn)⟩
theorem Upd.trans_same {S : Nat → Prop} {w w1 w2 : World} (h : Upd S w w1) (h' : Upd S w1 w2) : Upd S w w2 := h.trans h' fun _ _ h => h
theorem Upd.no {S : Nat → Prop} {w w' : World} (h : Upd No w w') : Upd S w w' := h.mono fun _ _ h => h.elim
theorem Upd.drew (S : Nat → Prop) (w : World) : Upd S w w.drew := ⟨rfl, rfl, rfl, Nat.le_refl _, fun _ _ _ => rfl⟩
theorem Upd.alloc (S : Nat → Prop) (w : World) (o : Obj) : Upd S w (w.alloc o) := ⟨rfl, rfl, rfl, by simp, fun k hk _ => Go.RowKit.Below.heap_alloc w o k hk⟩
theorem Upd.setCell (w : World) (p : Addr) (v : Value) : Upd (At p.block) w (w.setCell p v) :=
  ⟨rfl, rfl, rfl, by simp, fun k _ hn => Go.RowKit.Below.heap_setCell w p v k hn⟩
theorem Upd.below {B : Nat} {S : Nat → Prop} {w w' : World} (h : Upd S w w') (hB : B ≤ w.heap.size) (hs : ∀ k, S k → B ≤ k) : Go.RowKit.Below B w w' :=
  ⟨h.os, h.tape, h.output, h.size, fun k hk => h.block k (by omega) fun hS => by have := hs k hS; omega⟩

theorem Upd.of_draw {w w' : World} (h : w'.os = w.os ∧ w'.tape = w.tape ∧ w'.output = w.output ∧ w'.heap = w.heap) : Upd No w w' :=
  ⟨h.1, h.2.1, h.2.2.1, by rw [h.2.2.2]; exact Nat.le_refl _, fun k _ _ => by rw [h.2.2.2]⟩

theorem cell?_of_eq {w w' : World} {b : Nat} (h : w'.heap[b]? = w.heap[b]?) (o : Nat) (s : Option Nat) : w'.cell? ⟨b, o, s⟩ = w.cell? ⟨b, o, s⟩ := by simp [World.cell?, h]

theorem Blk.cell {w : World} {b : Nat} {cs : Array Value} {T : TypeId} (h : Blk w b cs T) {o : Nat} {v : Value} (hv : cs[o]? = some v) : w.cell? ⟨b, o, none⟩ = some v := by
  unfold Blk at h
  simp [World.cell?, h, hv]
theorem Blk.free {w : World} {b : Nat} {cs : Array Value} {T : TypeId} (h : Blk w b cs T) (o : Nat) : w.frozen? ⟨b, o, none⟩ = false := by
  unfold Blk at h
  simp [World.frozen?, h]
theorem Blk.lt {w : World} {b : Nat} {cs : Array Value} {T : TypeId} (h : Blk w b cs T) : b < w.heap.size := by
  rcases Nat.lt_or_ge b w.heap.size with h' | h'
  · exact h'
  · unfold Blk at h; simp [Array.getElem?_eq_none h'] at h
theorem Blk.upd {S : Nat → Prop} {w w' : World} {b : Nat} {cs : Array Value} {T : TypeId} (h : Blk w b cs T) (hu : Upd S w w') (hn : ¬ S b) : Blk w' b cs T :=
  (hu.block b h.lt hn).trans h
theorem Blk.alloc_new (w : World) (cs : Array Value) (T : TypeId) : Blk (w.alloc (.cells cs T)) w.heap.size cs T := heap_alloc_new w _
theorem Blk.drew {w : World} {b : Nat} {cs : Array Value} {T : TypeId} (h : Blk w b cs T) : Blk w.drew b cs T := h
theorem Blk.set {w : World} {b : Nat} {cs : Array Value} {T : TypeId} (h : Blk w b cs T) (o : Nat) (v : Value) : Blk (w.setCell ⟨b, o, none⟩ v) b (cs.setIfInBounds o v) T := by
  have hlt := h.lt
  unfold Blk at h ⊢
  have h' : w.heap[b] = .cells cs T (0, 0) := by simpa [Array.getElem?_eq_getElem hlt] using h
  show (w.heap.modify b _)[b]? = _
  rw [Array.getElem?_eq_getElem (by simpa using hlt), Array.getElem_modify_self, h']
  rfl
/-- A type whose values take one cell. -/
def flatB (P : Program) (t : TypeId) : Bool := match P.underlying t with
  | some (.struct _) | some (.array _ _) | none => false
  | _ => true
def aggB (P : Program) (t : TypeId) : Bool := match P.underlying t with
  | some (.struct _) | some (.array _ _) => true
  | _ => false
def sizeIs (P : Program) (t : TypeId) (n : Nat) : Bool := match P.info? t with
  | some i => i.size == n
  | none => false
/-- the offset of a field whose type takes some cells -/
def fieldOff (P : Program) (s : TypeId) (f : Nat) : Option Nat := match P.underlying s with
  | some (.struct fs) => match fs[f]? with
    | some x => match P.info? x.type with
      | some i => if i.size = 0 then none else some x.offset
      | none => none
    | none => none
  | _ => none
def sliceElem (P : Program) (t : TypeId) : Option TypeId := match P.underlying t with
  | some (.slice e) => some e
  | _ => none

section
variable {P : Program} {ρ : Operand → Value} {o : Oper} {w : World} {x y z : Operand} {t u e : TypeId} {k k' : IntKind} {a b : Int}

theorem run_isAgg_flat (h : flatB P t = true) : (isAgg t).run P w = .ok false w := by
  unfold flatB at h
  cases hu : P.underlying t with
  | none => simp [hu] at h
  | some d => rw [hu] at h; cases d <;> simp at h <;> simp [isAgg, run_underlying hu]
theorem run_isAgg_agg (h : aggB P t = true) : (isAgg t).run P w = .ok true w := by
  unfold aggB at h
  cases hu : P.underlying t with
  | none => simp [hu] at h
  | some d => rw [hu] at h; cases d <;> simp at h <;> simp [isAgg, run_underlying hu]
theorem run_sizeOf {n : Nat} (h : sizeIs P t n = true) : (sizeOf t).run P w = .ok n w := by
  unfold sizeIs at h
  cases hi : P.info? t with
  | none => simp [hi] at h
  | some i => rw [hi] at h; simp at h; simp [sizeOf, typeInfo, hi, h]

theorem r_load {p : Addr} {v : Value} (ho : o.op = .load t x) (hx : ρ x = .pointer (some p)) (ht : flatB P t = true) (hc : w.cell? p = some v) : (execOp ρ o).run P w = .ok (.value v) w := by
  simp [execOp, ho, hx, Instr.loadAt, Instr.sureAddr, loadVar, run_isAgg_flat ht, hc, go_sem]

/-- the cells from an address on -/
def CellsAt (w : World) (p : Addr) (vs : List Value) : Prop := ∀ j v, vs[j]? = some v → w.cell? (p.add j) = some v

theorem r_loadAgg {p : Addr} {vs : List Value} (ho : o.op = .load t x) (hx : ρ x = .pointer (some p)) (ht : aggB P t = true) (hn : sizeIs P t vs.length = true) (hc : CellsAt w p vs) : (execOp ρ o).run P w = .ok (.value (.agg vs.toArray)) w := by
  have hl := run_loadCells_list (P := P) w p vs hc
  simp only [loadCells] at hl
  simp [execOp, ho, hx, Instr.loadAt, Instr.sureAddr, loadVar, run_isAgg_agg ht, run_sizeOf hn, hl, go_sem]

theorem r_field {p : Addr} {f n : Nat} (ho : o.op = .fieldAddr t x f) (hx : ρ x = .pointer (some p)) (hf : fieldOff P t f = some n) : (execOp ρ o).run P w = .ok (.value (.pointer (some (p.add n)))) w := by
  unfold fieldOff at hf
  cases hu : P.underlying t with
  | none => simp [hu] at hf
  | some d =>
    rw [hu] at hf
    cases d <;> simp at hf
    rename_i fs
    cases hg : fs[f]? with
    | none => simp [hg] at hf
    | some q =>
      simp [hg] at hf
      cases hi : P.info? q.type with
      | none => simp [hi] at hf
      | some i =>
        simp [hi] at hf
        obtain ⟨h0, h1⟩ := hf
        simp [execOp, ho, hx, Instr.fieldAt, run_underlying hu, hg, Instr.sureAddr, fieldPlace, sizeOf, typeInfo, hi, h0, h1, go_sem]

theorem r_fieldAt {g off f n : Nat} (ho : o.op = .fieldAddr t x f) (hx : ρ x = .pointer (some ⟨g, off, none⟩)) (hf : fieldOff P t f = some n) : (execOp ρ o).run P w = .ok (.value (.pointer (some ⟨g, off + n, none⟩))) w := by
  rw [r_field ho hx hf, Addr.add_lit]
theorem r_field0 {g f n : Nat} (ho : o.op = .fieldAddr t x f) (hx : ρ x = .pointer (some ⟨g, 0, none⟩)) (hf : fieldOff P t f = some n) : (execOp ρ o).run P w = .ok (.value (.pointer (some ⟨g, n, none⟩))) w := by
  rw [r_field ho hx hf, Addr.add_lit, Nat.zero_add]

theorem r_indexAddr {g off len cap sz : Nat} {i : Int} (ho : o.op = .indexAddr t x y) (hx : ρ x = .slice (some ⟨g, off, none⟩) len cap) (hy : ρ y = .int k i) (hu : sliceElem P t = some e) (hz : sizeIs P e sz = true) (h0 : 0 ≤ i) (h1 : i < len) :
    (execOp ρ o).run P w = .ok (.value (.pointer (some ⟨g, off + i.toNat * sz, none⟩))) w := by
  unfold sliceElem at hu
  cases hd : P.underlying t with
  | none => simp [hd] at hu
  | some d =>
    rw [hd] at hu
    cases d <;> simp at hu
    subst hu
    have hadd : (⟨g, off, none⟩ : Addr).add (i.toNat * sz) = ⟨g, off + i.toNat * sz, none⟩ := Addr.add_lit _ _ _
    simp [execOp, ho, hx, hy, Instr.indexAt, run_underlying hd, asIntOf, h0, h1, run_sizeOf hz, hadd, go_sem]

theorem r_lenSlice {A : Option Addr} {len cap : Nat} {ts : Array TypeId} (ho : o.op = .call { callee := .builtin .len, args := #[x], argTypes := #[t] }) (hx : ρ x = .slice A len cap) (hu : sliceElem P t = some e) :
    (execOp ρ o).run P w = .ok (.value (.int .i64 len)) w := by
  unfold sliceElem at hu
  cases hd : P.underlying t with
  | none => simp [hd] at hu
  | some d =>
    rw [hd] at hu
    cases d <;> simp at hu
    simp [execOp, ho, resolve, invoke, builtin, hx, Builtin.len_, run_underlying hd, goInt]

theorem r_lenString {s : ByteArray} (ho : o.op = .call { callee := .builtin .len, args := #[x], argTypes := #[t] }) (hx : ρ x = .string s) (hu : P.underlying t = some .string) :
    (execOp ρ o).run P w = .ok (.value (.int .i64 s.size)) w := by
  simp [execOp, ho, resolve, invoke, builtin, hx, Builtin.len_, run_underlying hu, goInt]

theorem run_store_cell {p : Addr} {v u : Value} (hc : w.cell? p = some u) (hf : w.frozen? p = false) (h1 : v.oneCell' = true) : (store p v).run P w = .ok () (w.setCell p v) := by
  rw [run_store P w p v .plain h1]
  simp [hc, hf]

theorem oneCell_cells {v : Value} (h : v.oneCell' = true) : v.cells = #[v] := by cases v <;> first | rfl | simp [Value.oneCell'] at h

theorem r_store {g off : Nat} {v : Value} {cs : Array Value} {T : TypeId} (ho : o.op = .store t x y) (hx : ρ x = .pointer (some ⟨g, off, none⟩)) (hy : ρ y = v) (hz : sizeIs P t 1 = true) (hb : Blk w g cs T) (hlt : Nat.blt off cs.size = true) (h1 : v.oneCell' = true) :
    (execOp ρ o).run P w = .ok .skip (w.setCell ⟨g, off, none⟩ v) := by
  have hlt' : off < cs.size := Eq.mp Nat.blt_eq hlt
  have hc := hb.cell (o := off) (v := cs[off]) (by simp [hlt'])
  have hf := hb.free off
  have hst := run_store_cell (P := P) hc hf h1
  cases v <;> first
    | (simp [Value.oneCell'] at h1; done)
    | (simp [execOp, ho, hx, hy, Instr.storeAt, Instr.sureAddr, storeVar, run_sizeOf hz, storeCells, Addr.add_zero', hc, hf, go_sem]; done)
    | (simp [execOp, ho, hx, hy, Instr.storeAt, Instr.sureAddr, storeVar, run_sizeOf hz, storeCells, Addr.add_zero', hst, go_sem]; done)

/-- A call of a Go function with a body. -/
def hasBody (P : Program) (f : FuncId) : Bool := match P.funcs[f]? with
  | some fn => !(fn.name == "runtime.NumGoroutine") && fn.body.isSome
  | none => false
theorem run_callFunc_body {f : FuncId} (h : hasBody P f = true) (args : Array Value) : (callFunc f args).run P w = .ok (.enter f args) w := by
  unfold hasBody at h
  cases hf : P.funcs[f]? with
  | none => simp [hf] at h
  | some fn =>
    rw [hf] at h
    simp only [Bool.and_eq_true, Bool.not_eq_true', Option.isSome_iff_exists] at h
    obtain ⟨h1, c, h2⟩ := h
    simp [callFunc, hf, h2] at h1 ⊢
    simp [h1]

theorem r_call {f : FuncId} {xs : Array Operand} {ts : Array TypeId} {args : Array Value} (ho : o.op = .call { callee := .value (.func f), args := xs, argTypes := ts }) (hf : hasBody P f = true) (hρ : ρ (.func f) = .func (.func f) #[] #[]) (hargs : xs.map ρ = args) :
    (execOp ρ o).run P w = .ok (.enter f args) w := by
  simp [execOp, ho, resolve, Deferred.ofValue, hρ, invoke, hargs, run_callFunc_body hf]
end
end Go.Proofs.YtomkdhkkggbioaaGreatDoor

/-
  One operation as a step that goes on behind a continuation; rows that are owned and rows that are read; append, copy, make, slicing.
-/
namespace Go.Proofs.YtomkdhkkggbioaaGreatDoor
open Go
set_option linter.unusedSimpArgs false
set_option linter.unusedVariables false

/-- One operation; K: what is to hold behind it. -/
def SO (P : Program) (N : Nat) (ops : Array Oper) (Q : Exit → Act → World → Prop) (o : Oper) (K : Env → World → Prop) (E : Env) (w : World) : Prop :=
  ∀ K' : Act → World → Prop, (∀ E' w' a', K E' w' → Sat N E' a' → K' a' w') → ∀ a, Sat N E a →
    if Region.wanted o (yielded ops a.tmps) then o.wp P a w K' Q ∨ (o.asks P a w ∧ LetsOut Q) else K' (a.put o.dst undef) w

section
variable {P : Program} {N : Nat} {ops : Array Oper} {Q : Exit → Act → World → Prop} {S : World → Prop} {kind : Nat → Nat} {l : List Oper} {o : Oper} {E : Env} {w w' : World} {d i : Nat} {v : Value} {r : Ord} {K : Env → World → Prop}

theorem WL.cons (h : SO P N ops Q o (WL P N ops Q l) E w) : WL P N ops Q (o :: l) E w := fun a ha => by
  unfold wpList
  exact h (wpList P ops Q l) (fun E' w' a' hK hs => hK a' hs) a ha

theorem WN.step (o : Oper) (hi : ops[i]? = some o) (h : SO P N ops Q o (fun E' w' => Keeps S (kind i) w w' ∧ WN P N ops Q S kind r E' w') E w) : WN P N ops Q S kind (.one i r) E w :=
  WN.one fun K' hK a ha => by
    unfold wpOp
    simp only [hi]
    exact h K' hK a ha

theorem SO.val (hd : o.dst = some d) (hN : Nat.blt d N = true) (ho : opsOK E o = true) (hw : wantedE ops E o = some true)
    (hrun : (execOp E.ev o).run P w = .ok (.value v) w') (k : K ((d, v) :: E) w') : SO P N ops Q o K E w := by
  intro K' hK a h
  have hd' : d < N := Eq.mp Nat.blt_eq hN
  rw [if_pos (wantedE_spec h hw)]
  refine .inl ?_
  unfold Oper.wp
  rw [opsOK_exec h ho, hrun, Oper.upon_value, hd]
  exact hK _ _ _ k (h.put hd' v)

theorem SO.eff (hd : o.dst = none) (ho : opsOK E o = true) (hw : wantedE ops E o = some true)
    (hrun : (execOp E.ev o).run P w = .ok .skip w') (k : K E w') : SO P N ops Q o K E w := by
  intro K' hK a h
  rw [if_pos (wantedE_spec h hw)]
  refine .inl ?_
  unfold Oper.wp
  rw [opsOK_exec h ho, hrun, Oper.upon_skip, hd]
  exact hK _ _ _ k h

theorem SO.skip (hd : o.dst = some d) (hN : Nat.blt d N = true) (hw : wantedE ops E o = some false) (k : K ((d, undef) :: E) w) : SO P N ops Q o K E w := by
  intro K' hK a h
  have hd' : d < N := Eq.mp Nat.blt_eq hN
  rw [if_neg (by rw [wantedE_spec h hw]; simp), hd]
  exact hK _ _ _ k (h.put hd' undef)

theorem SO.enter {f : FuncId} {args : Array Value} {R : Value → World → Prop} (hd : o.dst = some d) (hN : Nat.blt d N = true) (ho : opsOK E o = true) (hw : wantedE ops E o = some true)
    (hrun : (execOp E.ev o).run P w = .ok (.enter f args) w') (hc : Ret P f args w' R) (k : ∀ v w'', R v w'' → K ((d, v) :: E) w'') : SO P N ops Q o K E w := by
  intro K' hK a h
  have hd' : d < N := Eq.mp Nat.blt_eq hN
  rw [if_pos (wantedE_spec h hw)]
  refine .inl ?_
  unfold Oper.wp
  rw [opsOK_exec h ho, hrun, Oper.upon_enter]
  refine Calls.mono hc ?_
  rintro e w'' ⟨v, rfl, hR⟩
  simp only [hd]
  exact hK _ _ _ (k v w'' hR) (h.put hd' v)

/-- what operands hold -/
def evs (E : Env) : List Operand → List Value → Prop
  | [], [] => True
  | x :: l, v :: vs => Env.ev E x = v ∧ evs E l vs
  | _, _ => False
theorem evs_map {E : Env} : ∀ {l : List Operand} {vs : List Value}, evs E l vs → l.map (Env.ev E) = vs
  | [], [], _ => rfl
  | x :: l, v :: vs, h => by simp [h.1, evs_map h.2]

theorem SO.call {f : FuncId} {xs : List Operand} {ts : Array TypeId} {vs : List Value} {R : Value → World → Prop} (hc : Ret P f vs.toArray w R)
    (hop : o.op = .call { callee := .value (.func f), args := xs.toArray, argTypes := ts }) (hb : hasBody P f = true) (hvs : evs E xs vs)
    (hd : o.dst = some d) (hN : Nat.blt d N = true) (ho : opsOK E o = true) (hw : wantedE ops E o = some true) (k : ∀ v w'', R v w'' → K ((d, v) :: E) w'') : SO P N ops Q o K E w :=
  SO.enter hd hN ho hw (r_call hop hb rfl (by rw [List.map_toArray, evs_map hvs])) hc k

theorem SO.store {x y : Operand} {t : TypeId} {g off : Nat} {cs : Array Value} {T : TypeId} (hop : o.op = .store t x y) (hx : Env.ev E x = .pointer (some ⟨g, off, none⟩)) (hy : Env.ev E y = v) (hz : sizeIs P t 1 = true) (hb : Blk w g cs T)
    (hlt : Nat.blt off cs.size = true) (h1 : v.oneCell' = true) (hd : o.dst = none) (ho : opsOK E o = true) (hw : wantedE ops E o = some true)
    (k : ∀ w', Upd (At g) w w' → Blk w' g (cs.setIfInBounds off v) T → w'.heap.size = w.heap.size → K E w') : SO P N ops Q o K E w :=
  SO.eff hd ho hw (r_store hop hx hy hz hb hlt h1) (k _ (Upd.setCell w ⟨g, off, none⟩ v) (hb.set off v) (World.size_setCell _ _ _))

/-- a new row with what is written out -/
theorem run_buildSlice {e : TypeId} {z : Value} {sz n : Nat} {t : TypeId} {parts : Array (Nat × Value)} {cs : Array Value} (ht : P.underlying t = some (.slice e)) (hz : sizeIs P e sz = true) (hzero : (P.info? e).bind (·.zero) = some z) (hn : n * sz ≤ 16777216)
    (hf : Instr.fill (fun i => some (i * sz, sz)) ((Array.range (n * sz)).map (z.cells[· % z.cells.size]!)) parts.toList = some cs) :
    (Instr.buildSlice t n parts).run P w = .ok (.slice (some ⟨w.heap.size, 0, none⟩) n n) (w.alloc (.cells cs e)) := by
  unfold sizeIs at hz
  cases hi : P.info? e with
  | none => simp [hi] at hz
  | some i =>
    rw [hi] at hz
    simp only [beq_iff_eq] at hz
    subst hz
    simp only [hi, Option.bind_some] at hzero
    by_cases h0 : n * i.size = 0
    · rw [h0] at hf
      simp only [Array.range_zero', Array.map_empty] at hf
      simp [Instr.buildSlice, run_underlying ht, sizeOf, typeInfo, hi, h0, Array.range_zero', hf, newRow]
    · have h2 : ¬ (2 ^ 24 < n * i.size) := by omega
      have h0' : ¬ (n = 0 ∨ i.size = 0) := by rw [← Nat.mul_eq_zero]; exact h0
      simp [Instr.buildSlice, run_underlying ht, sizeOf, typeInfo, hi, h0', h2, zeroValue, hzero, hf, newRow]
      exact fun h => absurd h h0

theorem SO.alloc {cs : Array Value} {T : TypeId} (hd : o.dst = some d) (hN : Nat.blt d N = true) (ho : opsOK E o = true) (hw : wantedE ops E o = some true)
    (hrun : (execOp E.ev o).run P w = .ok (.value v) (w.alloc (.cells cs T)))
    (k : ∀ w', Upd No w w' → Blk w' w.heap.size cs T → w'.heap.size = w.heap.size + 1 → K ((d, v) :: E) w') : SO P N ops Q o K E w :=
  SO.val hd hN ho hw hrun (k _ (Upd.alloc _ _ _) (Blk.alloc_new _ _ _) (World.size_alloc _ _))
end

/-- The type of a slice, its elements', how many cells and bytes these take, and their zero. -/
structure RowT (P : Program) (t e : TypeId) (sz by_ : Nat) (z : Value) : Prop where
  und : P.underlying t = some (.slice e)
  info : (P.info? e).map (fun i => (i.zero, i.size, i.bytes)) = some (some z, sz, by_)
  cells : z.cells.size = sz
  pos : 0 < sz

theorem RowT.parts {P : Program} {t e : TypeId} {sz by_ : Nat} {z : Value} (h : RowT P t e sz by_ z) : ∃ i, P.info? e = some i ∧ i.zero = some z ∧ i.size = sz ∧ i.bytes = by_ := by
  have h1 := h.info
  cases hi : P.info? e with
  | none => rw [hi] at h1; cases h1
  | some i =>
    rw [hi] at h1
    simp only [Option.map_some, Option.some.injEq, Prod.mk.injEq] at h1
    exact ⟨i, rfl, h1.1, h1.2.1, h1.2.2⟩
theorem RowT.sizeIs {P : Program} {t e : TypeId} {sz by_ : Nat} {z : Value} (h : RowT P t e sz by_ z) : sizeIs P e sz = true := by
  obtain ⟨i, hi, _, hs, _⟩ := h.parts
  simp [Go.Proofs.YtomkdhkkggbioaaGreatDoor.sizeIs, hi, hs]

/-- F, and the blocks that are new. -/
def Grow (F : Nat → Prop) (w w' : World) : Nat → Prop := fun k => F k ∨ (w.heap.size ≤ k ∧ k < w'.heap.size)

/-- The blocks that are new. -/
def New (w w' : World) : Nat → Prop := fun k => w.heap.size ≤ k ∧ k < w'.heap.size

/-- The slice value v, of n elements, owns the cells xs; its block is one of F. -/
def Own (w : World) (F : Nat → Prop) (T : TypeId) (sz : Nat) (v : Value) (n : Nat) (xs : List Value) : Prop :=
  w.ownsRow 0 T sz v n xs ∧ ∀ k, v.ownBlock = some k → F k

/-- The slice value v, of n elements, reads as the cells xs; its block is one of F. -/
def Rd (w : World) (F : Nat → Prop) (v : Value) (n sz : Nat) (xs : List Value) : Prop :=
  ∃ A c, v = .slice A n c ∧ n ≤ c ∧ n ≤ 140737488355328 ∧ xs.length = n * sz ∧
    (n ≠ 0 → ∃ b off, A = some ⟨b, off, none⟩ ∧ F b ∧ b < w.heap.size ∧ ∀ j u, xs[j]? = some u → w.cell? ⟨b, off + j, none⟩ = some u)

section
variable {P : Program} {w w' : World} {F F' S : Nat → Prop} {T : TypeId} {sz n : Nat} {v : Value} {xs : List Value}

theorem Own.nil (w : World) (F : Nat → Prop) (T : TypeId) (sz : Nat) : Own w F T sz (.slice none 0 0) 0 [] := ⟨World.ownsRow_nil _ _ _ _, fun k h => by simp [Value.ownBlock] at h⟩
theorem Own.mono (h : Own w F T sz v n xs) (hF : ∀ k, F k → F' k) : Own w F' T sz v n xs := ⟨h.1, fun k hk => hF k (h.2 k hk)⟩
theorem Own.lt (h : Own w F T sz v n xs) : ∀ k, v.ownBlock = some k → k < w.heap.size := fun k hk => (h.1.lt k hk).2
theorem Own.upd (h : Own w F T sz v n xs) (hu : Upd S w w') (hn : ∀ k, F k → k < w.heap.size → ¬ S k) : Own w' F T sz v n xs := by
  refine ⟨⟨h.1.1, ?_⟩, h.2⟩
  rcases h.1.2 with hh | ⟨g, cap, cur, rfl, hb, hg, rest⟩
  · exact .inl hh
  · exact .inr ⟨g, cap, cur, rfl, hb, (hu.block g (Array.getElem?_eq_some_iff.1 hg).1 (hn g (h.2 g rfl) (Array.getElem?_eq_some_iff.1 hg).1)).trans hg, rest⟩
theorem Own.len (h : Own w F T sz v n xs) : xs.length = n * sz := h.1.1
theorem Own.drew (h : Own w F T sz v n xs) : Own w.drew F T sz v n xs := h
theorem Own.form (h : Own w F T sz v n xs) : ∃ A c, v = .slice A n c ∧ n ≤ c := by
  rcases h.1.2 with ⟨rfl, rfl⟩ | ⟨g, cap, cur, rfl, _, _, hc, _⟩
  · exact ⟨_, _, rfl, Nat.le_refl _⟩
  · exact ⟨_, _, rfl, hc⟩
/-- a block that is a row's whole -/
theorem Own.of_blk {b : Nat} {cs : Array Value} (h : Blk w b cs T) (hF : F b) (hn : cs.size = n * sz) (hm : n ≤ maxLen) : Own w F T sz (.slice (some ⟨b, 0, none⟩) n n) n cs.toList := by
  refine ⟨⟨by simp [hn], .inr ⟨b, n, cs, rfl, Nat.zero_le _, h, Nat.le_refl _, hm, hn, ?_⟩⟩, fun k hk => ?_⟩
  · rw [← hn]; exact List.take_of_length_le (by simp)
  · simp [Value.ownBlock] at hk; subst hk; exact hF

theorem Own.rd (h : Own w F T sz v n xs) (hm : n ≤ 140737488355328) : Rd w F v n sz xs := by
  rcases h.1.2 with ⟨rfl, rfl⟩ | ⟨g, cap, cur, rfl, _, hg, hc, _⟩
  · exact ⟨_, _, rfl, Nat.le_refl _, hm, h.1.1, fun h0 => absurd rfl h0⟩
  · refine ⟨_, _, rfl, hc, hm, h.1.1, fun _ => ⟨g, 0, rfl, h.2 g rfl, (Array.getElem?_eq_some_iff.1 hg).1, fun j u hu => ?_⟩⟩
    have := h.1.cells (g := g) rfl j u hu
    rwa [Addr.add_lit] at this

theorem Rd.mono (h : Rd w F v n sz xs) (hF : ∀ k, F k → F' k) : Rd w F' v n sz xs := by
  obtain ⟨A, c, hv, h1, h2, h3, h4⟩ := h
  refine ⟨A, c, hv, h1, h2, h3, fun h0 => ?_⟩
  obtain ⟨b, off, hA, hb, hl, hc⟩ := h4 h0
  exact ⟨b, off, hA, hF b hb, hl, hc⟩
theorem Rd.upd (h : Rd w F v n sz xs) (hu : Upd S w w') (hn : ∀ k, F k → k < w.heap.size → ¬ S k) : Rd w' F v n sz xs := by
  obtain ⟨A, c, hv, h1, h2, h3, h4⟩ := h
  refine ⟨A, c, hv, h1, h2, h3, fun h0 => ?_⟩
  obtain ⟨b, off, hA, hb, hl, hc⟩ := h4 h0
  exact ⟨b, off, hA, hb, Nat.lt_of_lt_of_le hl hu.size, fun j u hj => (cell?_of_eq (hu.block b hl (hn b hb hl)) _ _).trans (hc j u hj)⟩
/-- the footprint lies among the blocks that are there -/
theorem Rd.bound (h : Rd w F v n sz xs) : Rd w (fun k => F k ∧ k < w.heap.size) v n sz xs := by
  obtain ⟨A, c, hv, h1, h2, h3, h4⟩ := h
  refine ⟨A, c, hv, h1, h2, h3, fun h0 => ?_⟩
  obtain ⟨b, off, hA, hb, hl, hc⟩ := h4 h0
  exact ⟨b, off, hA, ⟨hb, hl⟩, hl, hc⟩
theorem Own.bound (h : Own w F T sz v n xs) : Own w (fun k => F k ∧ k < w.heap.size) T sz v n xs := ⟨h.1, fun k hk => ⟨h.2 k hk, (h.1.lt k hk).2⟩⟩
theorem Rd.drew (h : Rd w F v n sz xs) : Rd w.drew F v n sz xs := h
theorem Rd.len (h : Rd w F v n sz xs) : xs.length = n * sz := by obtain ⟨_, _, _, _, _, h, _⟩ := h; exact h
theorem Rd.le (h : Rd w F v n sz xs) : n ≤ 140737488355328 := by obtain ⟨_, _, _, _, h, _⟩ := h; exact h
theorem Rd.nil (w : World) (F : Nat → Prop) (sz : Nat) : Rd w F (.slice none 0 0) 0 sz [] := ⟨_, _, rfl, Nat.le_refl _, by omega, by simp, fun h => absurd rfl h⟩

/-- what append reads -/
theorem Rd.src (h : Rd w F v n sz xs) (hsz : 0 < sz) : (n = 0 ∧ xs = [] ∧ ∃ A c, v = .slice A 0 c) ∨ (∃ ad c, v = .slice (some ad) n c ∧ ∀ j u, xs[j]? = some u → w.cell? (ad.add j) = some u) := by
  obtain ⟨A, c, hv, h1, h2, h3, h4⟩ := h
  by_cases h0 : n = 0
  · subst h0; exact .inl ⟨rfl, List.eq_nil_of_length_eq_zero (by simpa using h3), A, c, hv⟩
  · obtain ⟨b, off, rfl, _, _, hc⟩ := h4 h0
    refine .inr ⟨_, c, hv, fun j u hj => ?_⟩
    rw [Addr.add_lit]; exact hc j u hj

theorem run_append_Own {t e : TypeId} {by_ : Nat} {z : Value} (ht : RowT P t e sz by_ z) (ty : TypeId) {v2 : Value} {m : Nat} {news : List Value} {F2 : Nat → Prop}
    (hown : Own w F e sz v n xs) (hsrc : Rd w F2 v2 m sz news) (h1 : ∀ u ∈ news, u.oneCell' = true) (h63 : n + m ≤ maxLen) (hbytes : (n + m) * by_ ≤ 140737488355328) :
    ∃ v' w', (Builtin.append_ #[t, t] ty #[v, v2]).run P w = .ok v' w' ∧ Own w' (Grow F w w') e sz v' (n + m) (xs ++ news) ∧ Upd F w w' := by
  obtain ⟨i, hi, hz, hs, hb⟩ := ht.parts
  have fin : ∀ {v' w'}, w'.ownsRow 0 e sz v' (n + m) (xs ++ news) → w.grownBy w' v.ownBlock → (v'.ownBlock = v.ownBlock ∨ ∀ k, v'.ownBlock = some k → w.heap.size ≤ k) → Own w' (Grow F w w') e sz v' (n + m) (xs ++ news) ∧ Upd F w w' := by
    intro v' w' h2 h3 h4
    refine ⟨⟨h2, fun k hk => ?_⟩, ⟨h3.os, h3.tape, h3.output, h3.size, fun k hk hn => h3.block k hk fun e => hn (hown.2 k e.symm)⟩⟩
    rcases h4 with h4 | h4
    · exact .inl (hown.2 k (h4 ▸ hk))
    · exact .inr ⟨h4 k hk, (h2.lt k hk).2⟩
  rcases hsrc.src ht.pos with ⟨rfl, rfl, A, c, rfl⟩ | ⟨ad, c, rfl, hcells⟩
  · -- nothing is appended
    refine ⟨v, w, ?_, ?_, Upd.refl _ _⟩
    · obtain ⟨A', c', rfl, hle⟩ := hown.form
      have hA : (Builtin.firstCells i.size 0 (.slice A 0 c)).run P w = .ok #[] w := by
        cases A with
        | none => simp [Builtin.firstCells]
        | some a => simp [Builtin.firstCells, loadCells, loadCellsFrom]
      cases A' with
      | none => simp [Builtin.append_, run_underlying ht.und, sizeOf, typeInfo, hi, Builtin.lenOf, hle, hA]
      | some a => simp [Builtin.append_, run_underlying ht.und, sizeOf, typeInfo, hi, Builtin.lenOf, hle, hA, storeCells]
    · simpa using hown.mono (F' := Grow F w w) (fun k hk => .inl hk)
  · have hl := hsrc.len
    by_cases hnil : v.ownBlock = none
    · have hn0 : v = .slice none 0 0 ∧ n = 0 := by
        rcases hown.1.2 with h | ⟨g, cap, cur, rfl, _⟩
        · exact h
        · simp [Value.ownBlock] at hnil
      obtain ⟨rfl, rfl⟩ := hn0
      have hxs : xs = [] := List.eq_nil_of_length_eq_zero (by simpa using hown.len)
      subst hxs
      obtain ⟨v', w', hr, h2, h3, _⟩ := run_append_own (P := P) w w.heap.size t ty e i z sz by_ ht.und hi hz hs hb ht.cells ht.pos (.slice none 0 0) 0 [] (World.ownsRow_nil _ _ _ _) ad m c news hl hcells h1 h63 hbytes (Nat.le_refl _)
      refine ⟨v', w', hr, fin ⟨h2.1, ?_⟩ h3 (.inr fun k hk => (h2.lt k hk).1)⟩
      rcases h2.2 with h | ⟨g, cap, cur, hv, _, rest⟩
      · exact .inl h
      · exact .inr ⟨g, cap, cur, hv, Nat.zero_le _, rest⟩
    · rcases hown.1.2 with ⟨rfl, _⟩ | ⟨g, cap, cur, hv, hbg, hg, hnc, hcm, hcs, htake⟩
      · simp [Value.ownBlock] at hnil
      · by_cases hroom : n + m ≤ cap
        · obtain ⟨v', w', hr, h2, h3, _⟩ := run_append_own (P := P) w 0 t ty e i z sz by_ ht.und hi hz hs hb ht.cells ht.pos v n xs hown.1 ad m c news hl hcells h1 h63 hbytes (Nat.zero_le _)
          refine ⟨v', w', hr, fin h2 h3 (.inl ?_)⟩
          subst hv
          have hsz : i.size = sz := hs
          have hr2 := run_append_room (P := P) w t ty e i ht.und hi g n cap cur hg ad m c news (by rw [hsz]; exact hl) hcells h1 hroom (by rw [hsz, hl, hcs, ← Nat.add_mul]; exact Nat.mul_le_mul_right _ hroom)
          rw [hr2] at hr
          injection hr with hr _
          subst hr
          rfl
        · subst hv
          obtain ⟨v', w', hr, h2, h3⟩ := run_append_arg_grows (P := P) w t ty e i z sz by_ ht.und hi hz hs hb ht.cells ht.pos ⟨g, 0, none⟩ n cap xs hown.len (fun j u hu => hown.1.cells (g := g) rfl j u hu) ad m c news hl hcells (by omega) h63 hbytes
          refine ⟨v', w', hr, fin ⟨h2.1, ?_⟩ ⟨h3.os, h3.tape, h3.output, h3.size, fun k hk _ => h3.block k hk (by simp)⟩ (.inr fun k hk => (h2.lt k hk).1)⟩
          rcases h2.2 with h | ⟨g, cap, cur, hv, _, rest⟩
          · exact .inl h
          · exact .inr ⟨g, cap, cur, hv, Nat.zero_le _, rest⟩
end

section
variable {P : Program} {N : Nat} {ops : Array Oper} {Q : Exit → Act → World → Prop} {o : Oper} {E : Env} {w : World} {d : Nat} {v v2 : Value} {K : Env → World → Prop} {F F2 : Nat → Prop} {sz n m : Nat} {xs news : List Value}

theorem SO.append {x y : Operand} {t e : TypeId} {by_ : Nat} {z : Value} (hown : Own w F e sz v n xs) (hsrc : Rd w F2 v2 m sz news) (ht : RowT P t e sz by_ z) (h1 : ∀ u ∈ news, u.oneCell' = true) (h63 : n + m ≤ maxLen) (hbytes : (n + m) * by_ ≤ 140737488355328)
    (hop : o.op = .call { callee := .builtin .append, args := #[x, y], argTypes := #[t, t] }) (hx : Env.ev E x = v) (hy : Env.ev E y = v2)
    (hd : o.dst = some d) (hN : Nat.blt d N = true) (ho : opsOK E o = true) (hw : wantedE ops E o = some true)
    (k : ∀ v' w', Own w' (Grow F w w') e sz v' (n + m) (xs ++ news) → Upd F w w' → K ((d, v') :: E) w') : SO P N ops Q o K E w := by
  obtain ⟨v', w', hr, h2, h3⟩ := run_append_Own (P := P) (ty := o.type) ht hown hsrc h1 h63 hbytes
  refine SO.val (v := v') (w' := w') hd hN ho hw ?_ (k v' w' h2 h3)
  unfold execOp
  simp only [hop, resolve, invoke, builtin, Sem.run_bind, Sem.run_pure, Result.andThen_ok, List.map_toArray, List.map_cons, List.map_nil, hx, hy, hr]
end
end Go.Proofs.YtomkdhkkggbioaaGreatDoor

/-
  Entry and return; slicing; strings.
-/
namespace Go.Proofs.YtomkdhkkggbioaaGreatDoor
open Go
set_option linter.unusedSimpArgs false
set_option linter.unusedVariables false

section
variable {P : Program} {N : Nat} {E : Env} {w : World} {fn : Func} {R : Value → World → Prop} {v : Value}

/-- the parameters -/
def argEnv : Nat → List Value → Env
  | _, [] => []
  | i, v :: l => (i, v) :: argEnv (i + 1) l

theorem argEnv_get : ∀ (l : List Value) (i t : Nat) (v : Value), Env.get (argEnv i l) t = some v → i ≤ t ∧ l[t - i]? = some v
  | [], _, _, _, h => by simp [argEnv, Env.get] at h
  | u :: l, i, t, v, h => by
    simp only [argEnv, Env.get] at h
    split at h
    · rename_i hb
      have := Nat.eq_of_beq_eq_true hb
      subst this
      injection h with h
      subst h
      simp
    · rename_i hb
      have := argEnv_get l (i + 1) t v h
      refine ⟨by omega, ?_⟩
      rw [show t - i = (t - (i + 1)) + 1 by omega]
      simpa using this.2

theorem enter {f : FuncId} {c : Code} {vs : List Value} {R : Ending → World → Prop} (hf : P.funcs[f]? = some fn) (hb : fn.body = some c) (hN : fn.ntmps = N) (hle : Nat.ble vs.length N = true)
    (k : WC P N (bodyPost P fn R) c (argEnv 0 vs) w) : Calls P f vs.toArray w R := by
  have hle' : vs.length ≤ N := Nat.le_of_ble_eq_true hle
  refine calls_of_wp hf hb (k _ ⟨by simp [hN]; omega, rfl, fun t v ht => ?_⟩)
  have := (argEnv_get vs 0 t v ht).2
  rw [Nat.sub_zero] at this
  have hlt : t < vs.length := (List.getElem?_eq_some_iff.1 this).1
  rw [Array.getElem?_append_left (by simpa using hlt)]
  simpa using this

theorem enterRet {f : FuncId} {c : Code} {vs : List Value} (hf : P.funcs[f]? = some fn) (hb : fn.body = some c) (hN : fn.ntmps = N) (hle : Nat.ble vs.length N = true)
    (k : WC P N (bodyPost P fn fun e w' => ∃ v, e = .returned v ∧ R v w') c (argEnv 0 vs) w) : Ret P f vs.toArray w R := enter hf hb hN hle k

def resE (E : Env) : List ResultVar → List Value → Prop
  | [], [] => True
  | .tmp t :: l, v :: vs => Env.get E t = some v ∧ resE E l vs
  | _, _ => False

def tupleOf : List Value → Value
  | [v] => v
  | l => .tuple l.toArray

theorem resE_run {a : Act} (h : Sat N E a) : ∀ {l : List ResultVar} {vs : List Value}, resE E l vs →
    (l.mapM (m := Sem) fun r => match r with | .tmp t => pure (a.tmps.getD t undef) | .cell b t => do loadVar t (← asAddr (a.tmps.getD b undef))).run P w = .ok vs w
  | [], [], _ => by simp [go_sem]
  | .tmp t :: l, v :: vs, hr => by
    have h1 := h.vals t v hr.1
    have h2 := resE_run h hr.2
    have h3 : a.tmps[t]?.getD undef = v := by rw [h1]; rfl
    simp only [Array.getD_eq_getD_getElem?] at h2 ⊢
    simp [List.mapM_cons, h2, h3]

theorem results_run {a : Act} (h : Sat N E a) {l : List ResultVar} {vs : List Value} (hl : fn.results = l.toArray) (hr : resE E l vs) : (results fn a.tmps).run P w = .ok (tupleOf vs) w := by
  have h1 := resE_run (P := P) (w := w) h hr
  have hlen : vs.length = l.length := by
    clear h1
    revert vs
    clear hl
    induction l with
    | nil => intro vs hr; cases vs with
      | nil => rfl
      | cons => exact hr.elim
    | cons x l ih => intro vs hr; cases x <;> cases vs <;> first | exact hr.elim | (simp [ih hr.2])
  unfold results
  rw [hl, List.mapM_toArray]
  simp only [Sem.run_bind]
  have h2 : (Sem.run P (List.mapM (m := Sem) (fun x => match x with
    | ResultVar.tmp t => pure (a.tmps[t]?.getD undef)
    | ResultVar.cell b t => do loadVar t (← asAddr (a.tmps[b]?.getD undef))) l) w) = .ok vs w := by
    simpa only [Array.getD_eq_getD_getElem?] using h1
  simp only [Array.getD_eq_getD_getElem?]
  simp
  erw [h2]
  match vs with
  | [] => rfl
  | [v] => rfl
  | a :: b :: r => simp [tupleOf]

theorem WX.retE {l : List ResultVar} {vs : List Value} (hl : fn.results = l.toArray) (hr : resE E l vs) (k : R (tupleOf vs) w) :
    WX N (bodyPost P fn fun e w' => ∃ v, e = .returned v ∧ R v w') .ret E w := fun a h => ⟨h.defers, _, results_run h hl hr, _, rfl, k⟩
theorem WX.retE1 {t : Nat} {v : Value} (hl : fn.results = #[.tmp t]) (hr : Env.get E t = some v) (k : R v w) :
    WX N (bodyPost P fn fun e w' => ∃ v, e = .returned v ∧ R v w') .ret E w := WX.retE (l := [.tmp t]) (vs := [v]) hl ⟨hr, trivial⟩ k
theorem WX.retE2 {t u : Nat} {v v' : Value} (hl : fn.results = #[.tmp t, .tmp u]) (hr : Env.get E t = some v) (hr' : Env.get E u = some v') (k : R (.tuple #[v, v']) w) :
    WX N (bodyPost P fn fun e w' => ∃ v, e = .returned v ∧ R v w') .ret E w := WX.retE (l := [.tmp t, .tmp u]) (vs := [v, v']) hl ⟨hr, hr', trivial⟩ k
theorem le_maxLen {n : Nat} (h : n ≤ 140737488355328) : n ≤ maxLen := by
  have : (140737488355328 : Nat) ≤ maxLen := by decide
  omega
theorem WX.endE {l : List ResultVar} {vs : List Value} (hl : fn.results = l.toArray) (hr : resE E l vs) (k : R (tupleOf vs) w) :
    WX N (bodyPost P fn fun e w' => ∃ v, e = .returned v ∧ R v w') .normal E w := fun a h => ⟨h.defers, _, results_run h hl hr, _, rfl, k⟩
end

section
variable {P : Program} {ρ : Operand → Value} {o : Oper} {w : World} {x y z : Operand} {t u e : TypeId} {k k' : IntKind} {a b : Int} {F : Nat → Prop}

/-- a bound of a slice expression -/
def bnd (ρ : Operand → Value) (x : Option Operand) (dflt r : Nat) : Prop := (x = none ∧ r = dflt) ∨ ∃ y k b, x = some y ∧ ρ y = .int k b ∧ b = (r : Int)
theorem bnd_none {d : Nat} : bnd ρ none d d := .inl ⟨rfl, rfl⟩
theorem bnd_some {d r : Nat} (h : ρ y = .int k b) (hb : b = (r : Int)) : bnd ρ (some y) d r := .inr ⟨y, k, b, rfl, h, hb⟩

def cutA (A : Option Addr) (c l sz : Nat) : Option Addr := if c = l then A else A.map (·.add (l * sz))

theorem run_sliceBound_in {k : IntKind} {b : Int} {r y : Nat} {code : BoundsCode} (hb : b = (r : Int)) (hr : r ≤ y) : (Instr.sliceBound (.int k b) y code).run P w = .ok r w := by
  subst hb
  simp [Instr.sliceBound, asIntOf, hr]

theorem r_slice {A : Option Addr} {n c l h sz : Nat} {lo hi : Option Operand} (ho : o.op = .slice t x lo hi none) (hx : ρ x = .slice A n c) (hu : sliceElem P t = some e) (hz : sizeIs P e sz = true)
    (hlo : bnd ρ lo 0 l) (hhi : bnd ρ hi n h) (h1 : l ≤ h) (h2 : h ≤ n) (h3 : n ≤ c) : (execOp ρ o).run P w = .ok (.value (.slice (cutA A c l sz) (h - l) (c - l))) w := by
  unfold sliceElem at hu
  cases hd : P.underlying t with
  | none => simp [hd] at hu
  | some d =>
    rw [hd] at hu
    cases d <;> simp at hu
    subst hu
    have hc : h ≤ c := by omega
    have hsz := run_sizeOf (P := P) (w := w) hz
    unfold cutA
    rcases hlo with ⟨rfl, rfl⟩ | ⟨y1, k1, b1, rfl, hy1, hb1⟩ <;> rcases hhi with ⟨rfl, rfl⟩ | ⟨y2, k2, b2, rfl, hy2, hb2⟩
    · simp [execOp, ho, hx, Instr.sliceAt, Instr.slice, run_underlying hd, Instr.sliceBounds, hsz]
    · simp [execOp, ho, hx, hy2, Instr.sliceAt, Instr.slice, run_underlying hd, Instr.sliceBounds, hsz, run_sliceBound_in hb2 hc]
    · simp [execOp, ho, hx, hy1, Instr.sliceAt, Instr.slice, run_underlying hd, Instr.sliceBounds, hsz, run_sliceBound_in hb1 h1]
    · simp [execOp, ho, hx, hy1, hy2, Instr.sliceAt, Instr.slice, run_underlying hd, Instr.sliceBounds, hsz, run_sliceBound_in hb1 h1, run_sliceBound_in hb2 hc]

theorem Rd.slice {A : Option Addr} {n c l h sz : Nat} {xs : List Value} (hr : Rd w F (.slice A n c) n sz xs) (h1 : l ≤ h) (h2 : h ≤ n) : Rd w F (.slice (cutA A c l sz) (h - l) (c - l)) (h - l) sz ((xs.drop (l * sz)).take ((h - l) * sz)) := by
  obtain ⟨A', c', hv, hc, hm, hl, hcell⟩ := hr
  injection hv with hA hn hc'
  subst hA hc'
  refine ⟨_, _, rfl, by omega, by omega, ?_, fun h0 => ?_⟩
  · rw [List.length_take, List.length_drop, hl, Nat.sub_mul]
    have : h * sz ≤ n * sz := Nat.mul_le_mul_right _ h2
    omega
  · obtain ⟨b, off, rfl, hF, hlt, hcl⟩ := hcell (by omega)
    refine ⟨b, off + l * sz, ?_, hF, hlt, fun j u hu => ?_⟩
    · unfold cutA
      rw [if_neg (by omega)]
      simp [Addr.add_lit]
    · rw [List.getElem?_take] at hu
      split at hu
      · rw [List.getElem?_drop] at hu
        rw [Nat.add_assoc]
        exact hcl _ u hu
      · cases hu

theorem Rd.open {A : Option Addr} {n c sz : Nat} {xs : List Value} (hr : Rd w F (.slice A n c) n sz xs) (h0 : 0 < n) : ∃ b off, A = some ⟨b, off, none⟩ ∧ F b ∧ b < w.heap.size ∧ ∀ j u, xs[j]? = some u → w.cell? ⟨b, off + j, none⟩ = some u := by
  obtain ⟨A', c', hv, hc, hm, hl, hcell⟩ := hr
  injection hv with hA hn hc'
  subst hA
  exact hcell (by omega)
theorem Rd.cap {A : Option Addr} {n c sz : Nat} {xs : List Value} (hr : Rd w F (.slice A n c) n sz xs) : n ≤ c := by
  obtain ⟨A', c', hv, hc, _⟩ := hr
  injection hv with hA hn hc'
  subst hc'
  exact hc
theorem Rd.cell {b off n c sz q j : Nat} {xs : List Value} {u : Value} (hr : Rd w F (.slice (some ⟨b, off, none⟩) n c) n sz xs) (hq : q = off + j) (hu : xs[j]? = some u) : w.cell? ⟨b, q, none⟩ = some u := by
  subst hq
  obtain ⟨A', c', hv, hc, hm, hl, hcell⟩ := hr
  injection hv with hA hn hc'
  subst hA
  have h0 : n ≠ 0 := fun e => by
    subst e
    have : xs = [] := List.eq_nil_of_length_eq_zero (by simpa using hl)
    subst this
    simp at hu
  obtain ⟨b', off', hA, _, _, hcl⟩ := hcell h0
  injection hA with hA
  injection hA with hA1 hA2
  subst hA1 hA2
  exact hcl j u hu
theorem Rd.slice_form {v : Value} {n sz : Nat} {xs : List Value} (hr : Rd w F v n sz xs) : ∃ A c, v = .slice A n c ∧ n ≤ c := by
  obtain ⟨A, c, hv, hc, _⟩ := hr
  exact ⟨A, c, hv, hc⟩

theorem r_extract {vs : Array Value} {i : Nat} {v : Value} (ho : o.op = .extract x i) (hx : ρ x = .tuple vs) (hv : vs[i]? = some v) : (execOp ρ o).run P w = .ok (.value v) w := by
  simp [execOp, ho, hx, Instr.extract, hv]

theorem Rd.of_blk {b n sz : Nat} {cs : Array Value} {T : TypeId} (h : Blk w b cs T) (hF : F b) (hn : cs.size = n * sz) (hm : n ≤ 140737488355328) : Rd w F (.slice (some ⟨b, 0, none⟩) n n) n sz cs.toList :=
  ⟨_, _, rfl, Nat.le_refl _, hm, by simpa using hn, fun _ => ⟨b, 0, rfl, hF, h.lt, fun j u hu => by
    rw [Nat.zero_add]
    exact h.cell (by simpa using hu)⟩⟩
theorem Grow.trans {F : Nat → Prop} {w w1 w2 : World} (h : w.heap.size ≤ w1.heap.size) (h' : w1.heap.size ≤ w2.heap.size) {k : Nat} (hk : Grow (Grow F w w1) w1 w2 k) : Grow F w w2 k := by
  rcases hk with (hk | hk) | hk
  · exact .inl hk
  · exact .inr ⟨hk.1, by omega⟩
  · exact .inr ⟨by omega, hk.2⟩
theorem Grow.le {F : Nat → Prop} {w w1 w2 : World} (h' : w1.heap.size ≤ w2.heap.size) {k : Nat} (hk : Grow F w w1 k) : Grow F w w2 k := by
  rcases hk with hk | hk
  · exact .inl hk
  · exact .inr ⟨hk.1, by omega⟩
theorem Grow.old {F : Nat → Prop} {w w' : World} {g : Nat} (hg : g < w.heap.size) (hF : ¬ F g) : ¬ Grow F w w' g := fun h => by
  rcases h with h | h
  · exact hF h
  · omega
end
theorem mk_toList (l : List UInt8) : (ByteArray.mk l.toArray).toList = l := by simp [ByteArray.toList_eq]
end Go.Proofs.YtomkdhkkggbioaaGreatDoor

/-
  More operations: slices against nil, strings, bytes and strings, literals in memory.
-/
namespace Go.Proofs.YtomkdhkkggbioaaGreatDoor
open Go
set_option linter.unusedSimpArgs false
set_option linter.unusedVariables false

section
variable {P : Program} {ρ : Operand → Value} {o : Oper} {w : World} {x y z : Operand} {t u e : TypeId} {k k' : IntKind} {a b : Int} {F : Nat → Prop}

theorem r_eqlStr {s s' : ByteArray} (ho : o.op = .binOp .eql t x y u) (hx : ρ x = .string s) (hy : ρ y = .string s') : (execOp ρ o).run P w = .ok (.value (.bool (decide (s.toList = s'.toList)))) w := by
  simp [execOp, ho, hx, hy, go_sem]; rw [Bool.eq_iff_iff]; simp
theorem r_neqStr {s s' : ByteArray} (ho : o.op = .binOp .neq t x y u) (hx : ρ x = .string s) (hy : ρ y = .string s') : (execOp ρ o).run P w = .ok (.value (.bool (decide (s.toList ≠ s'.toList)))) w := by
  simp [execOp, ho, hx, hy, go_sem]; rw [Bool.eq_iff_iff]; simp
theorem r_addStr {s s' : ByteArray} (ho : o.op = .binOp .add t x y u) (hx : ρ x = .string s) (hy : ρ y = .string s') (h : s.size + s'.size ≤ 9223372036854775807) : (execOp ρ o).run P w = .ok (.value (.string (s ++ s'))) w := by
  have h1 := run_string_add_sum (P := P) w s s' h
  simp [execOp, ho, hx, hy, binOp, h1, go_sem]

end

section
variable {P : Program} {N : Nat} {ops : Array Oper} {Q : Exit → Act → World → Prop} {o : Oper} {E : Env} {w : World} {d : Nat} {v : Value} {K : Env → World → Prop} {F : Nat → Prop}

/-- where a struct's fields stand: offset and cells -/
def placesOf (P : Program) (t : TypeId) : Option (List (Nat × Nat)) :=
  match P.underlying t with
  | some (.struct fs) => fs.toList.mapM fun f => (P.info? f.type).map fun q => (f.offset, q.size)
  | _ => none
def zeroOf (P : Program) (t : TypeId) : Option Value := (P.info? t).bind (·.zero)
theorem run_mapM_list {α β : Type} {f : α → Sem β} {g : α → β} : ∀ (l : List α), (∀ x ∈ l, ∀ w, (f x).run P w = .ok (g x) w) → ∀ w, (l.mapM f).run P w = .ok (l.map g) w
  | [], _, w => by simp
  | x :: l, h, w => by
    have h1 := h x (by simp) w
    have h2 := run_mapM_list l (fun y hy => h y (by simp [hy])) w
    simp [List.mapM_cons, h1, h2]

theorem run_zeroValue {t : TypeId} {z : Value} (hz : zeroOf P t = some z) : (zeroValue t).run P w = .ok z w := by
  unfold zeroOf at hz
  cases hi : P.info? t with
  | none => simp [hi] at hz
  | some i => simp only [hi, Option.bind_some] at hz; simp [zeroValue, typeInfo, hi, hz]

theorem mapM_option {α β : Type} {f : α → Option β} : ∀ {l : List α} {r : List β}, l.mapM f = some r → r.length = l.length ∧ ∀ i : Nat, ∀ x, l[i]? = some x → f x = r[i]?
  | [], r, h => by simp at h; subst h; simp
  | a :: l, r, h => by
    simp only [List.mapM_cons, Option.bind_eq_bind, Option.bind_eq_some_iff] at h
    obtain ⟨b, hb, r', hr, h⟩ := h
    simp only [Option.pure_def, Option.some.injEq] at h
    subst h
    have := mapM_option hr
    refine ⟨by simp [this.1], fun i x hx => ?_⟩
    cases i with
    | zero => simp at hx; subst hx; simpa using hb
    | succ i => simpa using this.2 i x (by simpa using hx)

theorem run_build {t : TypeId} {parts : Array (Nat × Value)} {pl : List (Nat × Nat)} {z : Value} {cs : Array Value} (hp : placesOf P t = some pl) (hz : zeroOf P t = some z) (hb : Instr.fill (fun i => pl[i]?) z.cells parts.toList = some cs) :
    (Instr.build t parts).run P w = .ok (.agg cs) w := by
  unfold placesOf at hp
  cases hu : P.underlying t with
  | none => simp [hu] at hp
  | some d =>
    rw [hu] at hp
    cases d <;> simp at hp
    rename_i fs
    have hpl := mapM_option hp
    have hok' : ∀ f ∈ fs.toList, (P.info? f.type).isSome = true := fun f hf => by
      obtain ⟨i, hi, he⟩ := List.getElem_of_mem hf
      have h1 := hpl.2 i f (by rw [List.getElem?_eq_getElem hi, he])
      rw [List.getElem?_eq_getElem (by rw [hpl.1]; exact hi)] at h1
      cases hq : P.info? f.type with
      | none => simp [hq] at h1
      | some q => rfl
    have hm : (fs.mapM (m := Sem) fun f => do pure (f.offset, ← sizeOf f.type)).run P w = .ok (fs.map fun f => (f.offset, ((P.info? f.type).map (·.size)).getD 0)) w := by
      have h1 := run_mapM_list (P := P) (f := fun f : Field => do pure (f.offset, ← sizeOf f.type)) (g := fun f => (f.offset, ((P.info? f.type).map (·.size)).getD 0)) fs.toList (fun f hf w => by
        have := hok' f hf
        obtain ⟨q, hq⟩ := Option.isSome_iff_exists.1 this
        simp [sizeOf, typeInfo, hq]) w
      rw [Array.mapM_eq_mapM_toList]
      simp only [Sem.run_map, h1]
      simp only [Result.andThen_ok]
      exact congrArg (fun q => Result.ok q w) (Array.ext' (by simp))
    have hf : (fun (i : Nat) => (fs.map fun (f : Field) => (f.offset, ((P.info? f.type).map (·.size)).getD 0))[i]?) = (fun i => pl[i]?) := by
      funext i
      rw [Array.getElem?_map]
      cases hg : fs[i]? with
      | none =>
        have : pl.length ≤ i := by rw [hpl.1]; simpa using hg
        rw [List.getElem?_eq_none this]; rfl
      | some f =>
        have h1 := hpl.2 i f (by simpa using hg)
        rw [← h1]
        have : f ∈ fs.toList := by rw [Array.mem_toList_iff]; exact Array.mem_of_getElem? hg
        obtain ⟨q, hq⟩ := Option.isSome_iff_exists.1 (hok' f this)
        simp [hq]
    simp only [Instr.build, Sem.run_bind, run_zeroValue hz, Result.andThen_ok, run_underlying hu, hm, hf]
    simp only [hb]
    rfl

def evps (E : Env) : List (Nat × Operand) → List (Nat × Value) → Prop
  | [], [] => True
  | (i, x) :: l, (j, v) :: vs => (i = j ∧ Env.ev E x = v) ∧ evps E l vs
  | _, _ => False
theorem evps_map {E : Env} : ∀ {l : List (Nat × Operand)} {vs : List (Nat × Value)}, evps E l vs → l.map (fun p => (p.1, Env.ev E p.2)) = vs
  | [], [], _ => rfl
  | (i, x) :: l, (j, v) :: vs, h => by simp [h.1.1, h.1.2, evps_map h.2]

theorem r_build {t : TypeId} {ps : Array (Nat × Operand)} {vs : List (Nat × Value)} {pl : List (Nat × Nat)} {z : Value} {cs : Array Value} (ho : o.op = .build t ps) (hv : evps E ps.toList vs) (hp : placesOf P t = some pl) (hz : zeroOf P t = some z) (hb : Instr.fill (fun i => pl[i]?) z.cells vs = some cs) :
    (execOp (Env.ev E) o).run P w = .ok (.value (.agg cs)) w := by
  have h1 : (ps.map fun (p : Nat × Operand) => (p.1, Env.ev E p.2)).toList = vs := by rw [← evps_map hv]; simp
  have h2 := run_build (P := P) (w := w) (parts := ps.map fun (p : Nat × Operand) => (p.1, Env.ev E p.2)) hp hz (by rw [h1]; exact hb)
  simp only [execOp, ho, Sem.run_bind, h2, Result.andThen_ok, Sem.run_pure]
/-- a new row of values that are written out -/
def rowCells (z : Value) (n : Nat) : Array Value := (List.replicate n z.cells.toList).flatten.toArray
theorem rowCells_eq (z : Value) (n sz : Nat) (hz : z.cells.size = sz) (h0 : 0 < sz) : (Array.range (n * sz)).map (z.cells[· % z.cells.size]!) = rowCells z n := by
  apply Array.ext
  · simp [rowCells, hz, List.length_flatten, List.map_replicate, List.sum_replicate_nat]
  · intro i h1 h2
    simp at h1
    simp only [Array.getElem_map, Array.getElem_range, rowCells, List.getElem_toArray]
    have hlt : i % z.cells.size < z.cells.size := Nat.mod_lt _ (by omega)
    rw [getElem!_pos z.cells (i % z.cells.size) hlt]
    have key : ∀ (n i : Nat) (h : i < (List.replicate n z.cells.toList).flatten.length), (List.replicate n z.cells.toList).flatten[i] = z.cells[i % z.cells.size]'(Nat.mod_lt _ (by omega)) := by
      intro n
      induction n with
      | zero => intro i h; simp at h
      | succ n ih =>
        intro i h
        simp only [List.replicate_succ, List.flatten_cons]
        rw [List.getElem_append]
        split
        · rename_i h3
          simp only [Array.getElem_toList]
          congr 1
          exact (Nat.mod_eq_of_lt (by simpa using h3)).symm
        · rename_i h3
          rw [ih]
          congr 1
          simp at h3 ⊢
          rw [← Nat.mod_eq_sub_mod h3]
    exact (key n i (by simpa [rowCells] using h2)).symm

theorem r_buildSlice {t e : TypeId} {by_ sz n : Nat} {z : Value} {ps : Array (Nat × Operand)} {vs : List (Nat × Value)} {cs : Array Value} (ho : o.op = .buildSlice t n ps) (hv : evps E ps.toList vs) (hr : RowT P t e sz by_ z) (hn : Nat.ble (n * sz) 16777216 = true)
    (hb : Instr.fill (fun i => some (i * sz, sz)) (rowCells z n) vs = some cs) : (execOp (Env.ev E) o).run P w = .ok (.value (.slice (some ⟨w.heap.size, 0, none⟩) n n)) (w.alloc (.cells cs e)) := by
  have h1 : (ps.map fun (p : Nat × Operand) => (p.1, Env.ev E p.2)).toList = vs := by rw [← evps_map hv]; simp
  obtain ⟨i, hi, hz, _, _⟩ := hr.parts
  have h2 := run_buildSlice (P := P) (w := w) (z := z) (n := n) (parts := ps.map fun (p : Nat × Operand) => (p.1, Env.ev E p.2)) hr.und hr.sizeIs (by simp [hi, hz]) (Nat.le_of_ble_eq_true hn) (by rw [rowCells_eq z n sz hr.cells hr.pos, h1]; exact hb)
  simp only [execOp, ho, Sem.run_bind, h2, Result.andThen_ok, Sem.run_pure]

theorem fill_one : ∀ (vs : List Value) (i : Nat) (cells : Array Value), (∀ v ∈ vs, v.oneCell' = true) → i + vs.length ≤ cells.size →
    Instr.fill (fun i => some (i * 1, 1)) cells (vs.zipIdx i |>.map fun p => (p.2, p.1)) = some (cells.toList.take i ++ vs ++ cells.toList.drop (i + vs.length)).toArray
  | [], i, cells, _, _ => by simp [Instr.fill]
  | v :: vs, i, cells, h, hl => by
    have hv := oneCell_cells (h v (by simp))
    simp only [List.length_cons] at hl
    have hi : i < cells.size := by omega
    have ih := fill_one vs (i + 1) (cells.setIfInBounds i v) (fun u hu => h u (by simp [hu])) (by simp; omega)
    simp only [List.zipIdx_cons, List.map_cons, Instr.fill, hv]
    have h1 : ¬ (1 ≠ 1 || decide (i * 1 + 1 > cells.size)) = true := by simp; omega
    simp only [List.size_toArray, List.length_cons, List.length_nil, Nat.zero_add]
    rw [if_neg h1]
    have h2 : (#[v].zipIdx.foldl (fun cs (x : Value × Nat) => cs.setIfInBounds (i * 1 + x.2) x.1) cells) = cells.setIfInBounds i v := by simp
    rw [h2, ih]
    congr 2
    simp only [Array.toList_setIfInBounds]
    rw [List.drop_set_of_lt (by omega), show i + 1 + vs.length = i + (vs.length + 1) by omega]
    have h3 : (cells.toList.set i v).take (i + 1) = cells.toList.take i ++ [v] := by
      rw [List.take_succ_eq_append_getElem (by simpa using hi)]
      simp [List.take_set_of_le]
    rw [h3]
    simp

/-- one-cell elements, all written out -/
theorem r_buildSlice1 {t e : TypeId} {by_ n : Nat} {z : Value} {ps : Array (Nat × Operand)} {vs : List Value} (ho : o.op = .buildSlice t n ps) (hv : evs E (ps.toList.map (·.2)) vs) (hi : ps.toList.map (·.1) = List.range n) (hr : RowT P t e 1 by_ z) (hn : Nat.ble n 16777216 = true)
    (h1 : vs.all Value.oneCell' = true) : (execOp (Env.ev E) o).run P w = .ok (.value (.slice (some ⟨w.heap.size, 0, none⟩) n n)) (w.alloc (.cells vs.toArray e)) := by
  have hl : vs.length = n := by
    have h2 := congrArg List.length (evs_map hv)
    have h3 := congrArg List.length hi
    simp at h2 h3
    omega
  have hps : (ps.map fun (p : Nat × Operand) => (p.1, Env.ev E p.2)).toList = (vs.zipIdx 0 |>.map fun p => (p.2, p.1)) := by
    apply List.ext_getElem?
    intro i
    have h2 := evs_map hv
    simp only [Array.toList_map, List.getElem?_map, List.getElem?_zipIdx]
    have h3 : vs[i]? = (ps.toList[i]?).map (fun p => Env.ev E p.2) := by rw [← h2]; simp [Function.comp_def]
    have h4 : (ps.toList[i]?).map (·.1) = (List.range n)[i]? := by rw [← hi]; simp
    cases hp : ps.toList[i]? with
    | none => rw [hp] at h3; simp at h3; simp [h3]
    | some p =>
      rw [hp] at h3 h4
      simp only [Option.map_some] at h3 h4
      have h5 : i < n := by
        rcases Nat.lt_or_ge i n with h | h
        · exact h
        · rw [List.getElem?_eq_none (by simpa using h)] at h4; cases h4
      rw [List.getElem?_range h5] at h4
      injection h4 with h4
      simp [h3, h4]
  obtain ⟨i, hi', hz, _, _⟩ := hr.parts
  have hfill := fill_one vs 0 (rowCells z n) (fun v hv => List.all_eq_true.1 h1 v hv) (by
    have hzc := hr.cells
    simp [rowCells, hzc, List.length_flatten, List.map_replicate, List.sum_replicate_nat, hl])
  have hb : Instr.fill (fun i => some (i * 1, 1)) (rowCells z n) (ps.map fun (p : Nat × Operand) => (p.1, Env.ev E p.2)).toList = some vs.toArray := by
    rw [hps, hfill]
    have hzc := hr.cells
    have : (rowCells z n).toList.drop (0 + vs.length) = [] := List.drop_eq_nil_of_le (by simp [rowCells, hzc, List.length_flatten, List.map_replicate, List.sum_replicate_nat, hl])
    rw [this]
    simp
  have h2 := run_buildSlice (P := P) (w := w) (z := z) (n := n) (sz := 1) (parts := ps.map fun (p : Nat × Operand) => (p.1, Env.ev E p.2)) hr.und hr.sizeIs (by simp [hi', hz]) (by have := Nat.le_of_ble_eq_true hn; omega) (by rw [rowCells_eq z n 1 hr.cells hr.pos]; exact hb)
  simp only [execOp, ho, Sem.run_bind, h2, Result.andThen_ok, Sem.run_pure]

theorem r_boxAgg {ρ : Operand → Value} {t : TypeId} {x : Operand} {cs : Array Value} (ho : o.op = .box t x) (hx : ρ x = .agg cs) : (execOp ρ o).run P w = .ok (.value (.pointer (some ⟨w.heap.size, 0, none⟩))) (w.alloc (.cells cs t)) := by
  simp [execOp, ho, hx, Instr.box, newVar, newRow, Value.cells]
theorem r_alloc {ρ : Operand → Value} {t : TypeId} {z : Value} (ho : o.op = .alloc t) (hz : zeroOf P t = some z) : (execOp ρ o).run P w = .ok (.value (.pointer (some ⟨w.heap.size, 0, none⟩))) (w.alloc (.cells z.cells t)) := by
  simp [execOp, ho, Instr.alloc, run_zeroValue hz, newVar, newRow]

end
/-! a conversion of a slice to its own type: its row's mark -/
section
variable {P : Program} {o : Oper} {w : World} {x : Operand} {t e : TypeId} {N d : Nat} {ops : Array Oper} {Q : Exit → Act → World → Prop} {K : Env → World → Prop} {E : Env}

theorem Rd.of_heap {F : Nat → Prop} {b n sz : Nat} {cs : Array Value} {T : TypeId} {z : Nat × Nat} (h : w.heap[b]? = some (.cells cs T z)) (hF : F b) (hn : cs.size = n * sz) (hm : n ≤ 140737488355328) : Rd w F (.slice (some ⟨b, 0, none⟩) n n) n sz cs.toList := by
  have hlt : b < w.heap.size := by
    rcases Nat.lt_or_ge b w.heap.size with h' | h'
    · exact h'
    · rw [Array.getElem?_eq_none h'] at h; cases h
  refine ⟨_, _, rfl, Nat.le_refl _, hm, by simp [hn], fun _ => ⟨b, 0, rfl, hF, hlt, fun j u hj => ?_⟩⟩
  rw [Array.getElem?_toList] at hj
  simp [World.cell?, h, hj]

end
theorem Own.open {w : World} {F : Nat → Prop} {T : TypeId} {sz n : Nat} {v : Value} {xs : List Value} (h : Own w F T sz v n xs) (h0 : 0 < n) :
    ∃ g cap cur, v = .slice (some ⟨g, 0, none⟩) n cap ∧ Blk w g cur T ∧ F g ∧ n ≤ cap ∧ cap ≤ maxLen ∧ cur.size = cap * sz ∧ cur.toList.take (n * sz) = xs := by
  rcases h.1.2 with ⟨rfl, rfl⟩ | ⟨g, cap, cur, rfl, _, hg, hc, hm, hs, hx⟩
  · omega
  · exact ⟨g, cap, cur, rfl, hg, h.2 g rfl, hc, hm, hs, hx⟩
theorem Own.shut {w : World} {F : Nat → Prop} {T : TypeId} {sz n g cap : Nat} {cur : Array Value} (hb : Blk w g cur T) (hF : F g) (h1 : n ≤ cap) (h2 : cap ≤ maxLen) (h3 : cur.size = cap * sz) :
    Own w F T sz (.slice (some ⟨g, 0, none⟩) n cap) n (cur.toList.take (n * sz)) := by
  have hle : n * sz ≤ cap * sz := Nat.mul_le_mul_right _ h1
  refine ⟨⟨by rw [List.length_take, Array.length_toList, h3, Nat.min_eq_left hle], .inr ⟨g, cap, cur, rfl, Nat.zero_le _, hb, h1, h2, h3, rfl⟩⟩, fun k hk => ?_⟩
  simp only [Value.ownBlock, Option.some.injEq] at hk
  subst hk
  exact hF
/-! facts carried on, the side proof found by itself -/
theorem Blk.updA {w w' : World} {S : Nat → Prop} {b : Nat} {cs : Array Value} {T : TypeId} (h : Blk w b cs T) (hu : Upd S w w') (hn : ¬ S b := by first | exact (fun h => h) | with_reducible assumption | (simp only [At]; omega) | (simp only [At, New, Grow, From, No]; omega)) : Blk w' b cs T := h.upd hu hn
theorem Own.updA {w w' : World} {F S : Nat → Prop} {T : TypeId} {sz n : Nat} {v : Value} {xs : List Value} (h : Own w F T sz v n xs) (hu : Upd S w w') (hn : ∀ k, F k → k < w.heap.size → ¬ S k := by first | exact (fun _ _ _ h => h) | with_reducible assumption | (intro k hk hl hS; simp only [At] at hS; subst hS; contradiction) | (intro k hk hl hS; simp only [At] at hS; subst hS; exact Grow.old (by omega) (by assumption) hk) | (intro k hk hl hS; (try simp only [At, From, No, Grow, New] at hk hS); omega)) : Own w' F T sz v n xs := h.upd hu hn
theorem Rd.updA {w w' : World} {F S : Nat → Prop} {sz n : Nat} {v : Value} {xs : List Value} (h : Rd w F v n sz xs) (hu : Upd S w w') (hn : ∀ k, F k → k < w.heap.size → ¬ S k := by first | exact (fun _ _ _ h => h) | with_reducible assumption | (intro k hk hl hS; simp only [At] at hS; subst hS; contradiction) | (intro k hk hl hS; simp only [At] at hS; subst hS; exact Grow.old (by omega) (by assumption) hk) | (intro k hk hl hS; (try simp only [At, From, No, Grow, New] at hk hS); omega)) : Rd w' F v n sz xs := h.upd hu hn
theorem Upd.transA {S S' : Nat → Prop} {w w1 w2 : World} (h : Upd S w w1) (h' : Upd S' w1 w2) (hs : ∀ k, k < w.heap.size → S' k → S k := by first | exact (fun _ _ h => h) | exact (fun _ _ h => h.elim) | (intro k hl hk; (try simp only [At, New, Grow, From, No] at hk ⊢); omega)) : Upd S w w2 := h.trans h' hs
end Go.Proofs.YtomkdhkkggbioaaGreatDoor

/-
  From a walk that returns true and leaves what was there to the row's statement.
-/
namespace Go.Proofs.YtomkdhkkggbioaaGreatDoor
open Go Go.ChangeShapes Go.WideShapes Go.ChangeAt Go.RowKit
set_option linter.unusedSimpArgs false
set_option linter.unusedVariables false

theorem own_none : ownKnob Tryz.prog.godebug = none := by kernel_rfl
theorem laid_out : laidOutB Tryz.prog = true := by kernel_rfl

theorem trodAll_below {H : Type} {enc : TypeId × Value → H} {P : Program} (hl : laidOutB P = true) {W W' : World} (hb : Below W.heap.size W W') {sp : Nat → Bool} :
    ∀ {ts : List TypeId} {vs : List Value} {ds : List (DataW H)} {ps : List MemPlace}, (ts.all fun t => P.readableRec t && decide (t < P.types.size)) = true →
      DataW.TrodAll enc P W 0 (fun _ => true) true ts vs ds ps → (∀ x ∈ ps, x.block < W.heap.size) → (∀ x ∈ ps, sp x.block = true) → DataW.TrodAll enc P W' 0 sp true ts vs ds ps
  | [], [], [], _, _, h, _, _ => h
  | [], [], _ :: _, _, _, h, _, _ => h.elim
  | [], _ :: _, _, _, _, h, _, _ => h.elim
  | _ :: _, [], _, _, _, h, _, _ => h.elim
  | _ :: _, _ :: _, [], _, _, h, _, _ => h.elim
  | t :: ts, v :: vs, d :: ds, _, hr, ⟨p, q, h1, h2, e⟩, hlt, hs => by
    simp only [List.all_cons, Bool.and_eq_true, decide_eq_true_eq] at hr
    refine ⟨p, q, ?_, ?_, e⟩
    · exact WideElems.Trod_stays hl hr.1.1 hr.1.2 h1 (fun x hx => hb.same (hlt x (by rw [e]; simp [hx]))) (fun x hx => hs x (by rw [e]; simp [hx]))
    · exact trodAll_below hl hb hr.2 h2 (fun x hx => hlt x (by rw [e]; simp [hx])) (fun x hx => hs x (by rw [e]; simp [hx]))

theorem trodAll_length {H : Type} {enc : TypeId × Value → H} {P : Program} {w : World} {b : Nat} {sp : Nat → Bool} {hd : Bool} :
    ∀ {ts : List TypeId} {vs : List Value} {ds : List (DataW H)} {ps : List MemPlace}, DataW.TrodAll enc P w b sp hd ts vs ds ps → ds.length = ts.length
  | [], [], [], _, _ => rfl
  | [], [], _ :: _, _, h => h.elim
  | [], _ :: _, _, _, h => h.elim
  | _ :: _, [], _, _, h => h.elim
  | _ :: _, _ :: _, [], _, h => h.elim
  | _ :: _, _ :: _, _ :: _, _, ⟨_, _, _, h2, _⟩ => by simp [trodAll_length h2]

end Go.Proofs.YtomkdhkkggbioaaGreatDoor

/-
  Arguments opened: bytes.
-/
namespace Go.Proofs.YtomkdhkkggbioaaGreatDoor
open Go Go.ChangeShapes Go.WideShapes Go.ChangeAt Go.RowKit Go.Deep
set_option linter.unusedSimpArgs false
set_option linter.unusedVariables false

end Go.Proofs.YtomkdhkkggbioaaGreatDoor

/-
  More operations: a string's byte.
-/
namespace Go.Proofs.YtomkdhkkggbioaaGreatDoor
open Go
set_option linter.unusedSimpArgs false
set_option linter.unusedVariables false

theorem byteArray_get? (s : ByteArray) (j : Nat) : s[j]? = s.toList[j]? := by
  by_cases h : j < s.size
  · have h1 : s[j]? = some s[j] := getElem?_pos s j h
    rw [h1, ByteArray.toList_eq]
    have h2 : j < s.data.size := h
    rw [Array.getElem?_toList, Array.getElem?_eq_getElem h2]
    rfl
  · have h1 : s[j]? = none := getElem?_neg s j h
    have h2 : ¬ j < s.data.size := h
    rw [h1, ByteArray.toList_eq]
    simp
    omega

section
variable {P : Program} {ρ : Operand → Value} {o : Oper} {w : World} {x y : Operand} {t : TypeId} {k : IntKind}
theorem r_indexStr {s : ByteArray} {i : Int} {j : Nat} {c : UInt8} (ho : o.op = .index t x y) (hx : ρ x = .string s) (hy : ρ y = .int k i) (ht : P.underlying t = some .string) (hi : i = (j : Int)) (hc : s.toList[j]? = some c) :
    (execOp ρ o).run P w = .ok (.value (.int .u8 (c.toNat : Int))) w := by
  subst hi
  have h1 : s[j]? = some c := by rw [byteArray_get?]; exact hc
  simp [execOp, ho, hx, hy, Instr.index, asIntOf, run_underlying ht, h1]
theorem r_quoN {a b : Int} {u : TypeId} (ho : o.op = .binOp .quo t x y u) (hx : ρ x = .int k a) (hy : ρ y = .int k b) (ha : 0 ≤ a) (hb : 0 < b) (hk : inK k (a / b)) : (execOp ρ o).run P w = .ok (.value (.int k (a / b))) w := by
  rw [r_quo ho hx hy (by omega), Int.tdiv_eq_ediv_of_nonneg ha, wrap_in hk]
end
end Go.Proofs.YtomkdhkkggbioaaGreatDoor

/-
  Whole numbers as float64: sums, differences and products that stay below 2^53 are exact. No program in sight.
-/
namespace Go.Proofs.YtomkdhkkggbioaaGreatDoor
open Go Ieee
set_option linter.unusedSimpArgs false
set_option linter.unusedVariables false

end Go.Proofs.YtomkdhkkggbioaaGreatDoor

/-
  More operations: complex numbers, floats, structs of two cells, a result that lies in a cell.
-/
namespace Go.Proofs.YtomkdhkkggbioaaGreatDoor
open Go
set_option linter.unusedSimpArgs false
set_option linter.unusedVariables false

section
variable {P : Program} {ρ : Operand → Value} {o : Oper} {w : World} {x y : Operand} {t u : TypeId} {k : IntKind}

end

section
variable {P : Program} {o : Oper} {w : World} {x y : Operand} {t : TypeId} {N : Nat} {ops : Array Oper} {Q : Exit → Act → World → Prop} {K : Env → World → Prop} {E : Env}
end

section
variable {P : Program} {N : Nat} {E : Env} {w : World} {fn : Func} {R : Value → World → Prop}
theorem result_cell {a : Act} (h : Sat N E a) {b : Nat} {t : TypeId} {p : Addr} {vs : List Value} (hl : fn.results = #[.cell b t]) (hr : Env.get E b = some (.pointer (some p))) (ht : aggB P t = true) (hn : sizeIs P t vs.length = true) (hc : CellsAt w p vs) :
    (results fn a.tmps).run P w = .ok (.agg vs.toArray) w := by
  have h3 : a.tmps[b]?.getD undef = .pointer (some p) := by rw [h.vals b _ hr]; rfl
  have hl2 := run_loadCells_list (P := P) w p vs hc
  simp only [loadCells] at hl2
  unfold results
  rw [hl]
  simp [h3, asAddr, loadVar, run_isAgg_agg ht, run_sizeOf hn, hl2, go_sem]
theorem WX.retC {b : Nat} {t : TypeId} {p : Addr} {vs : List Value} (hl : fn.results = #[.cell b t]) (hr : Env.get E b = some (.pointer (some p))) (ht : aggB P t = true) (hn : sizeIs P t vs.length = true) (hc : CellsAt w p vs) (k : R (.agg vs.toArray) w) :
    WX N (bodyPost P fn fun e w' => ∃ v, e = .returned v ∧ R v w') .ret E w := fun a h => ⟨h.defers, _, result_cell h hl hr ht hn hc, _, rfl, k⟩
end

section
variable {P : Program} {N : Nat} {E : Env} {w : World} {fn : Func} {R : Value → World → Prop}
/-- results, in temporaries and in cells -/
def resM (P : Program) (w : World) (E : Env) : List ResultVar → List Value → Prop
  | [], [] => True
  | .tmp t :: l, v :: vs => Env.get E t = some v ∧ resM P w E l vs
  | .cell b t :: l, v :: vs => (∃ p us, Env.get E b = some (.pointer (some p)) ∧ aggB P t = true ∧ sizeIs P t us.length = true ∧ CellsAt w p us ∧ v = .agg us.toArray) ∧ resM P w E l vs
  | _, _ => False

theorem resM_run {a : Act} (h : Sat N E a) : ∀ {l : List ResultVar} {vs : List Value}, resM P w E l vs →
    (l.mapM (m := Sem) fun r => match r with | .tmp t => pure (a.tmps.getD t undef) | .cell b t => do loadVar t (← asAddr (a.tmps.getD b undef))).run P w = .ok vs w
  | [], [], _ => by simp [go_sem]
  | [], _ :: _, h => h.elim
  | .tmp _ :: _, [], h => h.elim
  | .cell _ _ :: _, [], h => h.elim
  | .tmp t :: l, v :: vs, hr => by
    have h1 := h.vals t v hr.1
    have h2 := resM_run h hr.2
    have h3 : a.tmps[t]?.getD undef = v := by rw [h1]; rfl
    simp only [Array.getD_eq_getD_getElem?] at h2 ⊢
    simp [List.mapM_cons, h2, h3]
  | .cell b t :: l, v :: vs, hr => by
    obtain ⟨⟨p, us, hb, ht, hn, hc, rfl⟩, hr2⟩ := hr
    have h2 := resM_run h hr2
    have h3 : a.tmps[b]?.getD undef = .pointer (some p) := by rw [h.vals b _ hb]; rfl
    have hl2 := run_loadCells_list (P := P) w p us hc
    simp only [loadCells] at hl2
    simp only [Array.getD_eq_getD_getElem?] at h2 ⊢
    have e1 : (do loadVar t (← asAddr (a.tmps[b]?.getD undef)) : Sem Value).run P w = .ok (.agg us.toArray) w := by
      simp [h3, asAddr, loadVar, run_isAgg_agg ht, run_sizeOf hn, hl2, go_sem]
    rw [List.mapM_cons, Sem.run_bind, e1, Result.andThen_ok, Sem.run_bind, h2, Result.andThen_ok, Sem.run_pure]

theorem resM_results {a : Act} (h : Sat N E a) {l : List ResultVar} {vs : List Value} (hl : fn.results = l.toArray) (hr : resM P w E l vs) : (results fn a.tmps).run P w = .ok (tupleOf vs) w := by
  have h1 := resM_run (P := P) (w := w) h hr
  unfold results
  rw [hl, List.mapM_toArray]
  simp only [Sem.run_bind]
  have h2 : (Sem.run P (List.mapM (m := Sem) (fun x => match x with
    | ResultVar.tmp t => pure (a.tmps[t]?.getD undef)
    | ResultVar.cell b t => do loadVar t (← asAddr (a.tmps[b]?.getD undef))) l) w) = .ok vs w := by
    simpa only [Array.getD_eq_getD_getElem?] using h1
  simp only [Array.getD_eq_getD_getElem?]
  simp
  erw [h2]
  match vs with
  | [] => rfl
  | [v] => rfl
  | a :: b :: r => simp [tupleOf]
theorem WX.retM {l : List ResultVar} {vs : List Value} (hl : fn.results = l.toArray) (hr : resM P w E l vs) (k : R (tupleOf vs) w) :
    WX N (bodyPost P fn fun e w' => ∃ v, e = .returned v ∧ R v w') .ret E w := fun a h => ⟨h.defers, _, resM_results h hl hr, _, rfl, k⟩
end

end Go.Proofs.YtomkdhkkggbioaaGreatDoor

/-
  More operations: structs of two whole numbers, compared.
-/
namespace Go.Proofs.YtomkdhkkggbioaaGreatDoor
open Go
set_option linter.unusedSimpArgs false
set_option linter.unusedVariables false

section
variable {P : Program} {ρ : Operand → Value} {o : Oper} {w : World} {x y : Operand} {t u : TypeId}

end
end Go.Proofs.YtomkdhkkggbioaaGreatDoor

/-
  More operations: a row of zeros.
-/
namespace Go.Proofs.YtomkdhkkggbioaaGreatDoor
open Go
set_option linter.unusedSimpArgs false
set_option linter.unusedVariables false

section
variable {P : Program} {ρ : Operand → Value} {o : Oper} {w : World} {x y : Operand} {t e : TypeId}
end
end Go.Proofs.YtomkdhkkggbioaaGreatDoor

/-
  More operations: the lesser and the greater of two numbers; complex numbers compared.
-/
namespace Go.Proofs.YtomkdhkkggbioaaGreatDoor
open Go Ieee
set_option linter.unusedSimpArgs false
set_option linter.unusedVariables false

section
variable {P : Program} {ρ : Operand → Value} {o : Oper} {w : World} {x y : Operand} {k k' : IntKind} {a b : Int}
theorem r_negN {t : TypeId} (ho : o.op = .unOp .neg t x) (hx : ρ x = .int k a) (h : inK k (-a)) : (execOp ρ o).run P w = .ok (.value (.int k (-a))) w := by
  rw [r_neg ho hx, wrap_in h]
end

end Go.Proofs.YtomkdhkkggbioaaGreatDoor

/-
  More operations: an array's element.
-/
namespace Go.Proofs.YtomkdhkkggbioaaGreatDoor
open Go
set_option linter.unusedSimpArgs false
set_option linter.unusedVariables false

section
variable {P : Program} {ρ : Operand → Value} {o : Oper} {w : World} {x y : Operand} {t e : TypeId} {k : IntKind}
end
end Go.Proofs.YtomkdhkkggbioaaGreatDoor

/-
  More operations: strings as lists of bytes, sliced and compared.
-/
namespace Go.Proofs.YtomkdhkkggbioaaGreatDoor
open Go
set_option linter.unusedSimpArgs false
set_option linter.unusedVariables false

theorem extract_bytes (s : List UInt8) (a b : Nat) : (ByteArray.mk s.toArray).extract a b = ⟨((s.drop a).take (b - a)).toArray⟩ := by
  apply ByteArray.ext
  apply Array.ext'
  rw [ByteArray.data_extract]
  simp [List.extract_eq_take_drop]

section
variable {P : Program} {ρ : Operand → Value} {o : Oper} {w : World} {x y : Operand} {t u : TypeId} {s s' : List UInt8}

theorem r_sliceStr {l h : Nat} {lo hi : Option Operand} (ho : o.op = .slice t x lo hi none) (hx : ρ x = .string ⟨s.toArray⟩) (hu : P.underlying t = some .string)
    (hlo : bnd ρ lo 0 l) (hhi : bnd ρ hi s.length h) (h1 : l ≤ h) (h2 : h ≤ s.length) : (execOp ρ o).run P w = .ok (.value (.string ⟨((s.drop l).take (h - l)).toArray⟩)) w := by
  have hsz : (ByteArray.mk s.toArray).size = s.length := by simp [ByteArray.size]
  have hext := extract_bytes s l h
  rcases hlo with ⟨rfl, rfl⟩ | ⟨y1, k1, b1, rfl, hy1, hb1⟩ <;> rcases hhi with ⟨rfl, rfl⟩ | ⟨y2, k2, b2, rfl, hy2, hb2⟩
  · simp [execOp, ho, hx, Instr.sliceAt, Instr.slice, run_underlying hu, Instr.sliceBounds, hsz, hext]
  · simp [execOp, ho, hx, hy2, Instr.sliceAt, Instr.slice, run_underlying hu, Instr.sliceBounds, hsz, run_sliceBound_in hb2 h2, hext]
  · simp [execOp, ho, hx, hy1, Instr.sliceAt, Instr.slice, run_underlying hu, Instr.sliceBounds, hsz, run_sliceBound_in hb1 h1, hext]
  · simp [execOp, ho, hx, hy1, hy2, Instr.sliceAt, Instr.slice, run_underlying hu, Instr.sliceBounds, hsz, run_sliceBound_in hb1 h1, run_sliceBound_in hb2 h2, hext]

theorem r_eqlStrL (ho : o.op = .binOp .eql t x y u) (hx : ρ x = .string ⟨s.toArray⟩) (hy : ρ y = .string ⟨s'.toArray⟩) : (execOp ρ o).run P w = .ok (.value (.bool (decide (s = s')))) w := by
  rw [r_eqlStr ho hx hy, mk_toList, mk_toList]
theorem r_neqStrL (ho : o.op = .binOp .neq t x y u) (hx : ρ x = .string ⟨s.toArray⟩) (hy : ρ y = .string ⟨s'.toArray⟩) : (execOp ρ o).run P w = .ok (.value (.bool (decide (s ≠ s')))) w := by
  rw [r_neqStr ho hx hy, mk_toList, mk_toList]
theorem r_lenStrL (ho : o.op = .call { callee := .builtin .len, args := #[x], argTypes := #[t] }) (hx : ρ x = .string ⟨s.toArray⟩) (hu : P.underlying t = some .string) : (execOp ρ o).run P w = .ok (.value (.int .i64 (s.length : Int))) w := by
  rw [r_lenString ho hx hu]
  simp [ByteArray.size]
theorem r_addStrL (ho : o.op = .binOp .add t x y u) (hx : ρ x = .string ⟨s.toArray⟩) (hy : ρ y = .string ⟨s'.toArray⟩) (h : s.length + s'.length ≤ 9223372036854775807) : (execOp ρ o).run P w = .ok (.value (.string ⟨(s ++ s').toArray⟩)) w := by
  rw [r_addStr ho hx hy (by simpa [ByteArray.size] using h)]
  congr 3
end
end Go.Proofs.YtomkdhkkggbioaaGreatDoor

/-
  More operations: structs of any size, stored and loaded.
-/
namespace Go.Proofs.YtomkdhkkggbioaaGreatDoor
open Go
set_option linter.unusedSimpArgs false
set_option linter.unusedVariables false

theorem heap_setRow_ne (w : World) (g : Nat) (cs : Array Value) (k : Nat) (hk : ¬ k = g) : (w.setRow g cs).heap[k]? = w.heap[k]? := by
  have hne : ¬ g = k := fun h => hk h.symm
  simp [World.setRow, Array.getElem?_modify, hne]
theorem Upd.setRow (w : World) (g : Nat) (cs : Array Value) : Upd (At g) w (w.setRow g cs) :=
  ⟨rfl, rfl, rfl, by simp [World.setRow], fun k _ hn => heap_setRow_ne w g cs k hn⟩

section
variable {P : Program} {o : Oper} {w : World} {x y : Operand} {t : TypeId} {N : Nat} {ops : Array Oper} {Q : Exit → Act → World → Prop} {K : Env → World → Prop} {E : Env}

theorem r_storeN {ρ : Operand → Value} {g off : Nat} {us : List Value} {cs : Array Value} {T : TypeId} (ho : o.op = .store t x y) (hx : ρ x = .pointer (some ⟨g, off, none⟩)) (hy : ρ y = .agg us.toArray) (hz : sizeIs P t us.length = true) (hb : Blk w g cs T) (hle : off + us.length ≤ cs.size) (h1 : us.all Value.oneCell' = true) :
    (execOp ρ o).run P w = .ok .skip (w.setRow g (cs.toList.take off ++ us ++ cs.toList.drop (off + us.length)).toArray) := by
  have h2 := run_storeCells_at P g off T us 0 cs w hb (by omega) (fun v hv => List.all_eq_true.1 h1 v hv)
  rw [Nat.add_zero] at h2
  simp [execOp, ho, hx, hy, Instr.storeAt, Instr.sureAddr, storeVar, run_sizeOf hz, Value.cells, h2]

theorem SO.storeN {g off : Nat} {us : List Value} {cs : Array Value} {T : TypeId} (hop : o.op = .store t x y) (hx : Env.ev E x = .pointer (some ⟨g, off, none⟩)) (hy : Env.ev E y = .agg us.toArray) (hz : sizeIs P t us.length = true) (hb : Blk w g cs T) (hle : off + us.length ≤ cs.size) (h1 : us.all Value.oneCell' = true)
    (hd : o.dst = none) (ho : opsOK E o = true) (hw : wantedE ops E o = some true)
    (k : ∀ w', Upd (At g) w w' → Blk w' g (cs.toList.take off ++ us ++ cs.toList.drop (off + us.length)).toArray T → w'.heap.size = w.heap.size → K E w') : SO P N ops Q o K E w :=
  SO.eff hd ho hw (r_storeN hop hx hy hz hb hle h1) (k _ (Upd.setRow _ _ _) (setRow_heap w g cs _ T _ hb) (by simp [World.setRow]))
/-- the whole block -/
theorem SO.storeAll {g : Nat} {us : List Value} {cs : Array Value} {T : TypeId} (hop : o.op = .store t x y) (hx : Env.ev E x = .pointer (some ⟨g, 0, none⟩)) (hy : Env.ev E y = .agg us.toArray) (hz : sizeIs P t us.length = true) (hb : Blk w g cs T) (hle : cs.size = us.length) (h1 : us.all Value.oneCell' = true)
    (hd : o.dst = none) (ho : opsOK E o = true) (hw : wantedE ops E o = some true)
    (k : ∀ w', Upd (At g) w w' → Blk w' g us.toArray T → w'.heap.size = w.heap.size → K E w') : SO P N ops Q o K E w :=
  SO.storeN hop hx hy hz hb (by omega) h1 hd ho hw (fun w' hu hb' hs => k w' hu (by
    have e : cs.toList.take 0 ++ us ++ cs.toList.drop (0 + us.length) = us := by
      rw [Nat.zero_add, List.drop_of_length_le (by simp [hle]), List.take_zero]
      simp
    rwa [e] at hb') hs)

end

theorem Blk.cellsL {w : World} {g : Nat} {us : List Value} {T : TypeId} (h : Blk w g us.toArray T) : CellsAt w ⟨g, 0, none⟩ us := fun j v hj => by
  rw [Addr.add_lit, Nat.zero_add]
  exact h.cell (by simpa using hj)
theorem Blk.cellsP {w : World} {g off : Nat} {cs : Array Value} {us : List Value} {T : TypeId} (h : Blk w g cs T) (hu : ∀ j v, us[j]? = some v → cs[off + j]? = some v) : CellsAt w ⟨g, off, none⟩ us := fun j v hj => by
  rw [Addr.add_lit]
  exact h.cell (hu j v hj)
theorem Rd.cellsL {w : World} {F : Nat → Prop} {b off n c sz q i : Nat} {xs us : List Value} (hr : Rd w F (.slice (some ⟨b, off, none⟩) n c) n sz xs) (hq : q = off + i) (hu : ∀ j v, us[j]? = some v → xs[i + j]? = some v) : CellsAt w ⟨b, q, none⟩ us := fun j v hj => by
  subst hq
  rw [Addr.add_lit]
  exact hr.cell (j := i + j) (by omega) (hu j v hj)
/-- the cells of one of the elements -/
theorem flatMap_get {α : Type} {dec : α → List Value} {sz : Nat} (hd : ∀ a, (dec a).length = sz) : ∀ {l : List α} {i : Nat} {a : α}, l[i]? = some a → ∀ j v, (dec a)[j]? = some v → (l.flatMap dec)[i * sz + j]? = some v
  | [], i, a, h, _, _, _ => by simp at h
  | b :: l, 0, a, h, j, v, hv => by
    simp only [List.getElem?_cons_zero, Option.some.injEq] at h
    subst h
    have hj : j < (dec b).length := (List.getElem?_eq_some_iff.1 hv).1
    rw [Nat.zero_mul, Nat.zero_add, List.flatMap_cons, List.getElem?_append_left hj]
    exact hv
  | b :: l, i + 1, a, h, j, v, hv => by
    have ih := flatMap_get hd (l := l) (i := i) (by simpa using h) j v hv
    rw [List.flatMap_cons, List.getElem?_append_right (by rw [hd b, Nat.add_mul, Nat.one_mul]; omega), hd b, show (i + 1) * sz + j - sz = i * sz + j by rw [Nat.add_mul, Nat.one_mul]; omega]
    exact ih
end Go.Proofs.YtomkdhkkggbioaaGreatDoor

/-
  Closed facts on the types and functions of this seat, by a program of this work (tab.py).
-/
namespace Go.Proofs.YtomkdhkkggbioaaGreatDoor

theorem flat_2 : flatB Tryz.prog 2 = true := by kernel_rfl
theorem int_2 : Tryz.prog.underlying 2 = some (.int .i64) := by kernel_rfl
theorem flat_3 : flatB Tryz.prog 3 = true := by kernel_rfl
theorem size_3 : sizeIs Tryz.prog 3 1 = true := by kernel_rfl
theorem some_3 : (Tryz.prog.underlying 3).isSome = true := by kernel_rfl
theorem flat_4 : flatB Tryz.prog 4 = true := by kernel_rfl
theorem size_4 : sizeIs Tryz.prog 4 1 = true := by kernel_rfl
theorem flat_5 : flatB Tryz.prog 5 = true := by kernel_rfl
theorem some_5 : (Tryz.prog.underlying 5).isSome = true := by kernel_rfl
theorem flat_9 : flatB Tryz.prog 9 = true := by kernel_rfl
theorem size_9 : sizeIs Tryz.prog 9 1 = true := by kernel_rfl
theorem str_9 : Tryz.prog.underlying 9 = some .string := by kernel_rfl
theorem int_21 : Tryz.prog.underlying 21 = some (.int .i32) := by kernel_rfl
theorem flat_22 : flatB Tryz.prog 22 = true := by kernel_rfl
theorem elem_22 : sliceElem Tryz.prog 22 = some 24 := by kernel_rfl
theorem row_22 : RowT Tryz.prog 22 24 3 48 (.agg #[.string ⟨#[]⟩, .int .i64 0, .slice none 0 0]) := ⟨by kernel_rfl, by kernel_rfl, rfl, by decide⟩
theorem agg_24 : aggB Tryz.prog 24 = true := by kernel_rfl
theorem size_24 : sizeIs Tryz.prog 24 3 = true := by kernel_rfl
theorem zero_24 : zeroOf Tryz.prog 24 = some (.agg #[.string ⟨#[]⟩, .int .i64 0, .slice none 0 0]) := by kernel_rfl
theorem plc_24 : placesOf Tryz.prog 24 = some [(0, 1), (1, 1), (2, 1)] := by kernel_rfl
theorem fld_24_0 : fieldOff Tryz.prog 24 0 = some 0 := by kernel_rfl
theorem fld_24_1 : fieldOff Tryz.prog 24 1 = some 1 := by kernel_rfl
theorem fld_24_2 : fieldOff Tryz.prog 24 2 = some 2 := by kernel_rfl
theorem elem_30 : sliceElem Tryz.prog 30 = some 39 := by kernel_rfl
theorem row_30 : RowT Tryz.prog 30 39 11 152 (.agg #[.int .u8 0, .string ⟨#[]⟩, .bool false, .int .u8 0, .string ⟨#[]⟩, .int .i64 0, .bool false, .slice none 0 0, .slice none 0 0, .int .i64 0, .slice none 0 0]) := ⟨by kernel_rfl, by kernel_rfl, rfl, by decide⟩
theorem flat_33 : flatB Tryz.prog 33 = true := by kernel_rfl
theorem size_33 : sizeIs Tryz.prog 33 1 = true := by kernel_rfl
theorem elem_33 : sliceElem Tryz.prog 33 = some 72 := by kernel_rfl
theorem row_33 : RowT Tryz.prog 33 72 4 56 (.agg #[.int .u8 0, .string ⟨#[]⟩, .int .i64 0, .slice none 0 0]) := ⟨by kernel_rfl, by kernel_rfl, rfl, by decide⟩
theorem flat_34 : flatB Tryz.prog 34 = true := by kernel_rfl
theorem size_34 : sizeIs Tryz.prog 34 1 = true := by kernel_rfl
theorem elem_34 : sliceElem Tryz.prog 34 = some 36 := by kernel_rfl
theorem row_34 : RowT Tryz.prog 34 36 6 88 (.agg #[.int .u8 0, .string ⟨#[]⟩, .int .i64 0, .bool false, .slice none 0 0, .slice none 0 0]) := ⟨by kernel_rfl, by kernel_rfl, rfl, by decide⟩
theorem agg_36 : aggB Tryz.prog 36 = true := by kernel_rfl
theorem size_36 : sizeIs Tryz.prog 36 6 = true := by kernel_rfl
theorem zero_36 : zeroOf Tryz.prog 36 = some (.agg #[.int .u8 0, .string ⟨#[]⟩, .int .i64 0, .bool false, .slice none 0 0, .slice none 0 0]) := by kernel_rfl
theorem plc_36 : placesOf Tryz.prog 36 = some [(0, 1), (1, 1), (2, 1), (3, 1), (4, 1), (5, 1)] := by kernel_rfl
theorem fld_36_0 : fieldOff Tryz.prog 36 0 = some 0 := by kernel_rfl
theorem fld_36_1 : fieldOff Tryz.prog 36 1 = some 1 := by kernel_rfl
theorem fld_36_2 : fieldOff Tryz.prog 36 2 = some 2 := by kernel_rfl
theorem fld_36_3 : fieldOff Tryz.prog 36 3 = some 3 := by kernel_rfl
theorem fld_36_4 : fieldOff Tryz.prog 36 4 = some 4 := by kernel_rfl
theorem fld_36_5 : fieldOff Tryz.prog 36 5 = some 5 := by kernel_rfl
theorem flat_37 : flatB Tryz.prog 37 = true := by kernel_rfl
theorem size_37 : sizeIs Tryz.prog 37 1 = true := by kernel_rfl
theorem elem_37 : sliceElem Tryz.prog 37 = some 41 := by kernel_rfl
theorem row_37 : RowT Tryz.prog 37 41 5 72 (.agg #[.string ⟨#[]⟩, .bool false, .string ⟨#[]⟩, .int .i64 0, .slice none 0 0]) := ⟨by kernel_rfl, by kernel_rfl, rfl, by decide⟩
theorem agg_39 : aggB Tryz.prog 39 = true := by kernel_rfl
theorem size_39 : sizeIs Tryz.prog 39 11 = true := by kernel_rfl
theorem zero_39 : zeroOf Tryz.prog 39 = some (.agg #[.int .u8 0, .string ⟨#[]⟩, .bool false, .int .u8 0, .string ⟨#[]⟩, .int .i64 0, .bool false, .slice none 0 0, .slice none 0 0, .int .i64 0, .slice none 0 0]) := by kernel_rfl
theorem plc_39 : placesOf Tryz.prog 39 = some [(0, 1), (1, 1), (2, 1), (3, 6), (9, 1), (10, 1)] := by kernel_rfl
theorem fld_39_4 : fieldOff Tryz.prog 39 4 = some 9 := by kernel_rfl
theorem fld_39_5 : fieldOff Tryz.prog 39 5 = some 10 := by kernel_rfl
theorem agg_41 : aggB Tryz.prog 41 = true := by kernel_rfl
theorem size_41 : sizeIs Tryz.prog 41 5 = true := by kernel_rfl
theorem zero_41 : zeroOf Tryz.prog 41 = some (.agg #[.string ⟨#[]⟩, .bool false, .string ⟨#[]⟩, .int .i64 0, .slice none 0 0]) := by kernel_rfl
theorem plc_41 : placesOf Tryz.prog 41 = some [(0, 1), (1, 1), (2, 3)] := by kernel_rfl
theorem fld_41_0 : fieldOff Tryz.prog 41 0 = some 0 := by kernel_rfl
theorem fld_41_1 : fieldOff Tryz.prog 41 1 = some 1 := by kernel_rfl
theorem fld_41_2 : fieldOff Tryz.prog 41 2 = some 2 := by kernel_rfl
theorem flat_53 : flatB Tryz.prog 53 = true := by kernel_rfl
theorem elem_53 : sliceElem Tryz.prog 53 = some 81 := by kernel_rfl
theorem row_53 : RowT Tryz.prog 53 81 3 32 (.agg #[.int .u8 0, .string ⟨#[]⟩, .int .i64 0]) := ⟨by kernel_rfl, by kernel_rfl, rfl, by decide⟩
theorem zero_58 : zeroOf Tryz.prog 58 = some (.agg #[.slice none 0 0, .int .i64 0, .int .i64 0, .int .i64 0, .int .i64 0]) := by kernel_rfl
theorem plc_58 : placesOf Tryz.prog 58 = some [(0, 1), (1, 1), (2, 1), (3, 1), (4, 1)] := by kernel_rfl
theorem fld_58_0 : fieldOff Tryz.prog 58 0 = some 0 := by kernel_rfl
theorem fld_58_1 : fieldOff Tryz.prog 58 1 = some 1 := by kernel_rfl
theorem fld_58_2 : fieldOff Tryz.prog 58 2 = some 2 := by kernel_rfl
theorem fld_58_3 : fieldOff Tryz.prog 58 3 = some 3 := by kernel_rfl
theorem fld_58_4 : fieldOff Tryz.prog 58 4 = some 4 := by kernel_rfl
theorem flat_66 : flatB Tryz.prog 66 = true := by kernel_rfl
theorem size_66 : sizeIs Tryz.prog 66 1 = true := by kernel_rfl
theorem elem_66 : sliceElem Tryz.prog 66 = some 9 := by kernel_rfl
theorem row_66 : RowT Tryz.prog 66 9 1 16 (.string ⟨#[]⟩) := ⟨by kernel_rfl, by kernel_rfl, rfl, by decide⟩
theorem agg_72 : aggB Tryz.prog 72 = true := by kernel_rfl
theorem size_72 : sizeIs Tryz.prog 72 4 = true := by kernel_rfl
theorem zero_72 : zeroOf Tryz.prog 72 = some (.agg #[.int .u8 0, .string ⟨#[]⟩, .int .i64 0, .slice none 0 0]) := by kernel_rfl
theorem plc_72 : placesOf Tryz.prog 72 = some [(0, 1), (1, 1), (2, 1), (3, 1)] := by kernel_rfl
theorem fld_72_0 : fieldOff Tryz.prog 72 0 = some 0 := by kernel_rfl
theorem fld_72_1 : fieldOff Tryz.prog 72 1 = some 1 := by kernel_rfl
theorem fld_72_3 : fieldOff Tryz.prog 72 3 = some 3 := by kernel_rfl
theorem agg_81 : aggB Tryz.prog 81 = true := by kernel_rfl
theorem size_81 : sizeIs Tryz.prog 81 3 = true := by kernel_rfl
theorem zero_81 : zeroOf Tryz.prog 81 = some (.agg #[.int .u8 0, .string ⟨#[]⟩, .int .i64 0]) := by kernel_rfl
theorem plc_81 : placesOf Tryz.prog 81 = some [(0, 1), (1, 1), (2, 1)] := by kernel_rfl
theorem fld_81_0 : fieldOff Tryz.prog 81 0 = some 0 := by kernel_rfl
theorem fld_81_1 : fieldOff Tryz.prog 81 1 = some 1 := by kernel_rfl
theorem fld_81_2 : fieldOff Tryz.prog 81 2 = some 2 := by kernel_rfl
theorem elem_176 : sliceElem Tryz.prog 176 = some 66 := by kernel_rfl
theorem row_176 : RowT Tryz.prog 176 66 1 24 (.slice none 0 0) := ⟨by kernel_rfl, by kernel_rfl, rfl, by decide⟩
theorem body_12 : hasBody Tryz.prog 12 = true := by kernel_rfl
theorem body_13 : hasBody Tryz.prog 13 = true := by kernel_rfl
theorem body_15 : hasBody Tryz.prog 15 = true := by kernel_rfl
theorem body_16 : hasBody Tryz.prog 16 = true := by kernel_rfl
theorem body_19 : hasBody Tryz.prog 19 = true := by kernel_rfl
theorem body_28 : hasBody Tryz.prog 28 = true := by kernel_rfl
theorem body_29 : hasBody Tryz.prog 29 = true := by kernel_rfl
theorem body_30 : hasBody Tryz.prog 30 = true := by kernel_rfl
theorem body_31 : hasBody Tryz.prog 31 = true := by kernel_rfl
theorem body_32 : hasBody Tryz.prog 32 = true := by kernel_rfl
theorem body_33 : hasBody Tryz.prog 33 = true := by kernel_rfl
theorem body_34 : hasBody Tryz.prog 34 = true := by kernel_rfl
theorem body_35 : hasBody Tryz.prog 35 = true := by kernel_rfl
theorem body_38 : hasBody Tryz.prog 38 = true := by kernel_rfl
theorem body_40 : hasBody Tryz.prog 40 = true := by kernel_rfl
theorem body_48 : hasBody Tryz.prog 48 = true := by kernel_rfl
theorem body_50 : hasBody Tryz.prog 50 = true := by kernel_rfl
theorem body_51 : hasBody Tryz.prog 51 = true := by kernel_rfl
theorem body_52 : hasBody Tryz.prog 52 = true := by kernel_rfl
theorem body_53 : hasBody Tryz.prog 53 = true := by kernel_rfl
theorem body_54 : hasBody Tryz.prog 54 = true := by kernel_rfl
theorem body_55 : hasBody Tryz.prog 55 = true := by kernel_rfl
theorem body_56 : hasBody Tryz.prog 56 = true := by kernel_rfl
theorem body_57 : hasBody Tryz.prog 57 = true := by kernel_rfl
theorem body_58 : hasBody Tryz.prog 58 = true := by kernel_rfl
theorem body_59 : hasBody Tryz.prog 59 = true := by kernel_rfl
theorem body_74 : hasBody Tryz.prog 74 = true := by kernel_rfl
theorem body_75 : hasBody Tryz.prog 75 = true := by kernel_rfl
theorem body_76 : hasBody Tryz.prog 76 = true := by kernel_rfl
theorem body_77 : hasBody Tryz.prog 77 = true := by kernel_rfl
theorem body_78 : hasBody Tryz.prog 78 = true := by kernel_rfl
theorem body_79 : hasBody Tryz.prog 79 = true := by kernel_rfl
theorem body_80 : hasBody Tryz.prog 80 = true := by kernel_rfl
theorem body_81 : hasBody Tryz.prog 81 = true := by kernel_rfl
theorem body_82 : hasBody Tryz.prog 82 = true := by kernel_rfl
theorem body_83 : hasBody Tryz.prog 83 = true := by kernel_rfl
theorem body_84 : hasBody Tryz.prog 84 = true := by kernel_rfl
theorem body_85 : hasBody Tryz.prog 85 = true := by kernel_rfl
theorem body_86 : hasBody Tryz.prog 86 = true := by kernel_rfl
theorem body_87 : hasBody Tryz.prog 87 = true := by kernel_rfl
theorem body_88 : hasBody Tryz.prog 88 = true := by kernel_rfl
theorem body_98 : hasBody Tryz.prog 98 = true := by kernel_rfl
theorem body_99 : hasBody Tryz.prog 99 = true := by kernel_rfl
theorem body_100 : hasBody Tryz.prog 100 = true := by kernel_rfl
theorem body_114 : hasBody Tryz.prog 114 = true := by kernel_rfl
theorem body_115 : hasBody Tryz.prog 115 = true := by kernel_rfl
theorem body_116 : hasBody Tryz.prog 116 = true := by kernel_rfl
theorem body_125 : hasBody Tryz.prog 125 = true := by kernel_rfl
theorem body_126 : hasBody Tryz.prog 126 = true := by kernel_rfl
theorem body_127 : hasBody Tryz.prog 127 = true := by kernel_rfl
theorem body_138 : hasBody Tryz.prog 138 = true := by kernel_rfl
theorem body_139 : hasBody Tryz.prog 139 = true := by kernel_rfl
theorem body_140 : hasBody Tryz.prog 140 = true := by kernel_rfl
theorem body_141 : hasBody Tryz.prog 141 = true := by kernel_rfl
theorem body_150 : hasBody Tryz.prog 150 = true := by kernel_rfl
theorem body_151 : hasBody Tryz.prog 151 = true := by kernel_rfl
theorem mixed : Tryz.prog.follows .mixedOrders = true := by kernel_rfl
end Go.Proofs.YtomkdhkkggbioaaGreatDoor

/-
  strings.Join, strconv.Itoa, FormatInt, FormatBool: the kit's contracts laid at this program (printed by the kit's lay-plain.mjs), and their use.
-/
namespace Go.Proofs
open Go.Shelf
def Tryz.lays156_ren : Go.Shelf.Ren := ⟨fun | 156 => 40 | 165 => 64 | 166 => 65 | 169 => 66 | 240 => 92 | 241 => 93 | 276 => 107 | 277 => 108 | n => n, fun | 31 => 66 | 9 => 9 | 3 => 3 | 4 => 4 | 0 => 0 | 20 => 20 | 72 => 106 | 76 => 110 | 70 => 104 | 37 => 64 | 75 => 109 | 127 => 127 | 164 => 149 | 5 => 5 | 80 => 112 | n => n, fun | n => n⟩
theorem Tryz.lays156 : Go.Proofs.Lays.n156 Tryz.prog Tryz.lays156_ren := {
  mixed := by kernel_rfl
  f156 := Tryz.func40.trans (congrArg some (by kernel_rfl))
  f165 := Tryz.func64.trans (congrArg some (by kernel_rfl))
  f166 := Tryz.func65.trans (congrArg some (by kernel_rfl))
  f169 := Tryz.func66.trans (congrArg some (by kernel_rfl))
  f240 := Tryz.func92.trans (congrArg some (by kernel_rfl))
  f241 := Tryz.func93.trans (congrArg some (by kernel_rfl))
  f276 := Tryz.func107.trans (congrArg some (by kernel_rfl))
  f277 := Tryz.func108.trans (congrArg some (by kernel_rfl))
  t0 := Tryz.underlying0
  a0 := Tryz.isAgg0
  z0 := Tryz.sizeOf0
  v0 := Tryz.zeroValue0
  t3 := Tryz.underlying3
  a3 := Tryz.isAgg3
  z3 := Tryz.sizeOf3
  v3 := Tryz.zeroValue3
  t4 := Tryz.underlying4
  a4 := Tryz.isAgg4
  z4 := Tryz.sizeOf4
  v4 := Tryz.zeroValue4
  t9 := Tryz.underlying9
  a9 := Tryz.isAgg9
  z9 := Tryz.sizeOf9
  v9 := Tryz.zeroValue9
  t20 := Tryz.underlying20
  a20 := Tryz.isAgg20
  z20 := Tryz.sizeOf20
  v20 := Tryz.zeroValue20
  t31 := Tryz.underlying66
  a31 := Tryz.isAgg66
  z31 := Tryz.sizeOf66
  v31 := Tryz.zeroValue66
  t37 := Tryz.underlying64
  a37 := Tryz.isAgg64
  z37 := Tryz.sizeOf64
  v37 := Tryz.zeroValue64
  t70 := Tryz.underlying104
  a70 := Tryz.isAgg104
  z70 := Tryz.sizeOf104
  v70 := Tryz.zeroValue104
  t72 := Tryz.underlying106
  a72 := Tryz.isAgg106
  z72 := Tryz.sizeOf106
  v72 := Tryz.zeroValue106
  t75 := Tryz.underlying109
  a75 := Tryz.isAgg109
  z75 := Tryz.sizeOf109
  v75 := Tryz.zeroValue109
  t76 := Tryz.underlying110
  a76 := Tryz.isAgg110
  z76 := Tryz.sizeOf110
  v76 := Tryz.zeroValue110
  t127 := Tryz.underlying127
  a127 := Tryz.isAgg127
  z127 := Tryz.sizeOf127
  v127 := Tryz.zeroValue127
  t164 := Tryz.underlying149
  a164 := Tryz.isAgg149
  z164 := Tryz.sizeOf149
  v164 := Tryz.zeroValue149 }
theorem Tryz.Builder_Extra_156 : Builder.Extra Tryz.prog Tryz.lays156_ren := {
  sizeBuilder := by kernel_rfl
  liesBuilder := by kernel_rfl
  t5 := Tryz.underlying5
  a5 := Tryz.isAgg5
  z5 := Tryz.sizeOf5
  v5 := Tryz.zeroValue5
  infoByte := by kernel_rfl
  cellsByte := by kernel_rfl
  sizeByte := by kernel_rfl
  neB5 := by decide }
open Go.RowKit in
/-- No element: the empty string; the world is as it was. (Whatever the slice's address and capacity: a nil slice too.) (LAID: no walk: one application.) -/
theorem Tryz.strings_Join_none (a : Option Addr) (c : Nat) (sep : ByteArray) (w : World) :
    Calls Tryz.prog 40 #[.slice a 0 c, .string sep] w fun e w' => e = .returned (.string ⟨#[]⟩) ∧ w' = w := Any.strings_Join_none Tryz.lays156 Tryz.Builder_Extra_156 a c sep w
open Go.RowKit in
/-- strings.Join: "Join concatenates the elements of its first argument to create a single string. The separator string sep is placed between elements in the resulting string.": HOWEVER MANY ELEMENTS. Below the heap's end the world is as it was. (LAID: no walk: one application.) -/
theorem Tryz.strings_Join (bk o c : Nat) (xs : List ByteArray) (sep : ByteArray) (w : World) (hcells : ∀ (j : Nat) x, xs[j]? = some x → w.cell? ⟨bk, o + j, none⟩ = some (.string x)) (hbk : bk < w.heap.size) (hN : xs.length ≤ 140737488355328) (hcap : xs.length ≤ c) (hlen : (Lib.join (xs.map (·.data.toList)) sep.data.toList).length ≤ 140737488355328) :
    Calls Tryz.prog 40 #[.slice (some ⟨bk, o, none⟩) xs.length c, .string sep] w fun e w' => e = .returned (.string ⟨(Lib.join (xs.map (·.data.toList)) sep.data.toList).toArray⟩) ∧ Below w.heap.size w w' := Any.strings_Join Tryz.lays156 Tryz.Builder_Extra_156 bk o c xs sep w hcells hbk hN hcap hlen
def Tryz.lays121_ren : Go.Shelf.Ren := ⟨fun | 121 => 49 | 214 => 73 | n => n, fun | 4 => 4 | 9 => 9 | n => n, fun | n => n⟩
theorem Tryz.lays121 : Go.Proofs.Lays.n121 Tryz.prog Tryz.lays121_ren := {
  mixed := by kernel_rfl
  f121 := Tryz.func49.trans (congrArg some (by kernel_rfl))
  f214 := Tryz.func73.trans (congrArg some (by kernel_rfl))
  t4 := Tryz.underlying4
  a4 := Tryz.isAgg4
  z4 := Tryz.sizeOf4
  v4 := Tryz.zeroValue4
  t9 := Tryz.underlying9
  a9 := Tryz.isAgg9
  z9 := Tryz.sizeOf9
  v9 := Tryz.zeroValue9 }
open Go.RowKit in
/-- strconv.FormatBool: "FormatBool returns "true" or "false" according to the value of b.": IT RETURNS 'Lib.formatBool b'; the world is as it was. (LAID: no walk: one application.) -/
theorem Tryz.strconv_FormatBool (b : Bool) (w : World) :
    Calls Tryz.prog 49 #[.bool b] w fun e w' => e = .returned (.string ⟨(Lib.formatBool b).toArray⟩) ∧ w' = w := Any.strconv_FormatBool Tryz.lays121 b w
def Tryz.laysM171_ren : Go.Shelf.Ren := ⟨fun | 171 => 38 | 243 => 62 | 246 => 72 | 283 => 94 | 284 => 95 | 285 => 96 | 286 => 97 | 129 => 110 | 317 => 109 | 318 => 111 | 319 => 112 | 320 => 113 | 337 => 123 | 338 => 124 | n => n, fun | 3 => 3 | 9 => 9 | 2 => 2 | 4 => 4 | 171 => 128 | 0 => 0 | 53 => 103 | 37 => 64 | 5 => 5 | 173 => 131 | 212 => 154 | 51 => 88 | 20 => 20 | 213 => 155 | 46 => 157 | 232 => 188 | 233 => 189 | n => n, fun | 17 => 0 | 18 => 2 | 19 => 3 | n => n⟩
theorem Tryz.laysM171 : Go.Proofs.LaysM.n171 Tryz.prog Tryz.laysM171_ren := {
  mixed := by kernel_rfl
  f129 := Tryz.func110.trans (congrArg some (by kernel_rfl))
  f171 := Tryz.func38.trans (congrArg some (by kernel_rfl))
  f243 := Tryz.func62.trans (congrArg some (by kernel_rfl))
  f246 := Tryz.func72.trans (congrArg some (by kernel_rfl))
  f283 := Tryz.func94.trans (congrArg some (by kernel_rfl))
  f284 := Tryz.func95.trans (congrArg some (by kernel_rfl))
  f285 := Tryz.func96.trans (congrArg some (by kernel_rfl))
  f286 := Tryz.func97.trans (congrArg some (by kernel_rfl))
  f317 := Tryz.func109.trans (congrArg some (by kernel_rfl))
  f318 := Tryz.func111.trans (congrArg some (by kernel_rfl))
  f319 := Tryz.func112.trans (congrArg some (by kernel_rfl))
  f320 := Tryz.func113.trans (congrArg some (by kernel_rfl))
  f337 := Tryz.func123.trans (congrArg some (by kernel_rfl))
  f338 := Tryz.func124.trans (congrArg some (by kernel_rfl))
  t0 := Tryz.underlying0
  a0 := Tryz.isAgg0
  z0 := Tryz.sizeOf0
  v0 := Tryz.zeroValue0
  t2 := Tryz.underlying2
  a2 := Tryz.isAgg2
  z2 := Tryz.sizeOf2
  v2 := Tryz.zeroValue2
  t3 := Tryz.underlying3
  a3 := Tryz.isAgg3
  z3 := Tryz.sizeOf3
  v3 := Tryz.zeroValue3
  t4 := Tryz.underlying4
  a4 := Tryz.isAgg4
  z4 := Tryz.sizeOf4
  v4 := Tryz.zeroValue4
  t5 := Tryz.underlying5
  a5 := Tryz.isAgg5
  z5 := Tryz.sizeOf5
  v5 := Tryz.zeroValue5
  t9 := Tryz.underlying9
  a9 := Tryz.isAgg9
  z9 := Tryz.sizeOf9
  v9 := Tryz.zeroValue9
  t20 := Tryz.underlying20
  a20 := Tryz.isAgg20
  z20 := Tryz.sizeOf20
  v20 := Tryz.zeroValue20
  t37 := Tryz.underlying64
  a37 := Tryz.isAgg64
  z37 := Tryz.sizeOf64
  v37 := Tryz.zeroValue64
  t46 := Tryz.underlying157
  a46 := Tryz.isAgg157
  z46 := Tryz.sizeOf157
  v46 := Tryz.zeroValue157
  t51 := Tryz.underlying88
  a51 := Tryz.isAgg88
  z51 := Tryz.sizeOf88
  v51 := Tryz.zeroValue88
  t53 := Tryz.underlying103
  a53 := Tryz.isAgg103
  z53 := Tryz.sizeOf103
  v53 := Tryz.zeroValue103
  t171 := Tryz.underlying128
  a171 := Tryz.isAgg128
  z171 := Tryz.sizeOf128
  v171 := Tryz.zeroValue128
  t173 := Tryz.underlying131
  a173 := Tryz.isAgg131
  z173 := Tryz.sizeOf131
  v173 := Tryz.zeroValue131
  t212 := Tryz.underlying154
  a212 := Tryz.isAgg154
  z212 := Tryz.sizeOf154
  v212 := Tryz.zeroValue154
  t213 := Tryz.underlying155
  a213 := Tryz.isAgg155
  z213 := Tryz.sizeOf155
  t232 := Tryz.underlying188
  a232 := Tryz.isAgg188
  z232 := Tryz.sizeOf188
  v232 := Tryz.zeroValue188
  t233 := Tryz.underlying189
  a233 := Tryz.isAgg189
  z233 := Tryz.sizeOf189
  v233 := Tryz.zeroValue189
  g17 := by kernel_rfl
  g18 := by kernel_rfl
  g19 := by kernel_rfl
  i0 := by kernel_rfl
  i2 := by kernel_rfl
  i3 := by kernel_rfl
  i4 := by kernel_rfl
  i5 := by kernel_rfl
  i9 := by kernel_rfl
  i20 := by kernel_rfl
  i37 := by kernel_rfl
  i46 := by kernel_rfl
  i51 := by kernel_rfl
  i53 := by kernel_rfl
  i171 := by kernel_rfl
  i173 := by kernel_rfl
  i212 := by kernel_rfl
  i232 := by kernel_rfl
  i233 := by kernel_rfl
  m17 := by kernel_rfl
  m18 := by kernel_rfl
  m19 := by kernel_rfl }
open Go.RowKit Go.Sort Go.Lib in
/-- strconv.Itoa: "Itoa is equivalent to FormatInt(int64(i), 10).": i's DECIMAL NUMERAL ('Lib.itoa': a '-' where i is negative, then the digits), FOR EVERY int. The world behind the call: the world before it, new blocks behind the heap (the library's 'var a [24]byte'), draws. (LAID: no walk: one application.) -/
theorem Tryz.strconv_Itoa (n : Int) (h0 : -9223372036854775808 ≤ n) (h1 : n ≤ 9223372036854775807) (w : World) (htab : Lib.TabIs Tryz.prog w "internal/strconv.uint64pow10" .u64 Lib.pow10Tab) :
    Calls Tryz.prog 38 #[.int .i64 n] w fun e w' => e = .returned (.string ⟨(Lib.itoa n).toArray⟩) ∧ ∃ k os, w' = grow (w.drewN k) os := Any.strconv_Itoa Tryz.laysM171 n h0 h1 w htab
def Tryz.laysM173_ren : Go.Shelf.Ren := ⟨fun | 173 => 48 | 246 => 72 | 283 => 94 | 284 => 95 | 285 => 96 | 286 => 97 | 129 => 110 | 317 => 109 | 318 => 111 | 319 => 112 | 320 => 113 | 337 => 123 | 338 => 124 | n => n, fun | 2 => 2 | 3 => 3 | 9 => 9 | 4 => 4 | 171 => 128 | 0 => 0 | 53 => 103 | 37 => 64 | 5 => 5 | 173 => 131 | 212 => 154 | 51 => 88 | 20 => 20 | 213 => 155 | 46 => 157 | 232 => 188 | 233 => 189 | n => n, fun | 17 => 0 | 18 => 2 | 19 => 3 | n => n⟩
theorem Tryz.laysM173 : Go.Proofs.LaysM.n173 Tryz.prog Tryz.laysM173_ren := {
  mixed := by kernel_rfl
  f129 := Tryz.func110.trans (congrArg some (by kernel_rfl))
  f173 := Tryz.func48.trans (congrArg some (by kernel_rfl))
  f246 := Tryz.func72.trans (congrArg some (by kernel_rfl))
  f283 := Tryz.func94.trans (congrArg some (by kernel_rfl))
  f284 := Tryz.func95.trans (congrArg some (by kernel_rfl))
  f285 := Tryz.func96.trans (congrArg some (by kernel_rfl))
  f286 := Tryz.func97.trans (congrArg some (by kernel_rfl))
  f317 := Tryz.func109.trans (congrArg some (by kernel_rfl))
  f318 := Tryz.func111.trans (congrArg some (by kernel_rfl))
  f319 := Tryz.func112.trans (congrArg some (by kernel_rfl))
  f320 := Tryz.func113.trans (congrArg some (by kernel_rfl))
  f337 := Tryz.func123.trans (congrArg some (by kernel_rfl))
  f338 := Tryz.func124.trans (congrArg some (by kernel_rfl))
  t0 := Tryz.underlying0
  a0 := Tryz.isAgg0
  z0 := Tryz.sizeOf0
  v0 := Tryz.zeroValue0
  t2 := Tryz.underlying2
  a2 := Tryz.isAgg2
  z2 := Tryz.sizeOf2
  v2 := Tryz.zeroValue2
  t3 := Tryz.underlying3
  a3 := Tryz.isAgg3
  z3 := Tryz.sizeOf3
  v3 := Tryz.zeroValue3
  t4 := Tryz.underlying4
  a4 := Tryz.isAgg4
  z4 := Tryz.sizeOf4
  v4 := Tryz.zeroValue4
  t5 := Tryz.underlying5
  a5 := Tryz.isAgg5
  z5 := Tryz.sizeOf5
  v5 := Tryz.zeroValue5
  t9 := Tryz.underlying9
  a9 := Tryz.isAgg9
  z9 := Tryz.sizeOf9
  v9 := Tryz.zeroValue9
  t20 := Tryz.underlying20
  a20 := Tryz.isAgg20
  z20 := Tryz.sizeOf20
  v20 := Tryz.zeroValue20
  t37 := Tryz.underlying64
  a37 := Tryz.isAgg64
  z37 := Tryz.sizeOf64
  v37 := Tryz.zeroValue64
  t46 := Tryz.underlying157
  a46 := Tryz.isAgg157
  z46 := Tryz.sizeOf157
  v46 := Tryz.zeroValue157
  t51 := Tryz.underlying88
  a51 := Tryz.isAgg88
  z51 := Tryz.sizeOf88
  v51 := Tryz.zeroValue88
  t53 := Tryz.underlying103
  a53 := Tryz.isAgg103
  z53 := Tryz.sizeOf103
  v53 := Tryz.zeroValue103
  t171 := Tryz.underlying128
  a171 := Tryz.isAgg128
  z171 := Tryz.sizeOf128
  v171 := Tryz.zeroValue128
  t173 := Tryz.underlying131
  a173 := Tryz.isAgg131
  z173 := Tryz.sizeOf131
  v173 := Tryz.zeroValue131
  t212 := Tryz.underlying154
  a212 := Tryz.isAgg154
  z212 := Tryz.sizeOf154
  v212 := Tryz.zeroValue154
  t213 := Tryz.underlying155
  a213 := Tryz.isAgg155
  z213 := Tryz.sizeOf155
  t232 := Tryz.underlying188
  a232 := Tryz.isAgg188
  z232 := Tryz.sizeOf188
  v232 := Tryz.zeroValue188
  t233 := Tryz.underlying189
  a233 := Tryz.isAgg189
  z233 := Tryz.sizeOf189
  v233 := Tryz.zeroValue189
  g17 := by kernel_rfl
  g18 := by kernel_rfl
  g19 := by kernel_rfl
  i0 := by kernel_rfl
  i2 := by kernel_rfl
  i3 := by kernel_rfl
  i4 := by kernel_rfl
  i5 := by kernel_rfl
  i9 := by kernel_rfl
  i20 := by kernel_rfl
  i37 := by kernel_rfl
  i46 := by kernel_rfl
  i51 := by kernel_rfl
  i53 := by kernel_rfl
  i171 := by kernel_rfl
  i173 := by kernel_rfl
  i212 := by kernel_rfl
  i232 := by kernel_rfl
  i233 := by kernel_rfl
  m17 := by kernel_rfl
  m18 := by kernel_rfl
  m19 := by kernel_rfl }
open Go.RowKit Go.Sort Go.Lib in
/-- strconv.FormatInt: "FormatInt returns the string representation of i in the given base": AT BASE 10: i's decimal numeral, for every int64. (LAID: no walk: one application.) -/
theorem Tryz.strconv_FormatInt_10 (n : Int) (h0 : -9223372036854775808 ≤ n) (h1 : n ≤ 9223372036854775807) (w : World) (htab : Lib.TabIs Tryz.prog w "internal/strconv.uint64pow10" .u64 Lib.pow10Tab) :
    Calls Tryz.prog 48 #[.int .i64 n, .int .i64 10] w fun e w' => e = .returned (.string ⟨(Lib.itoa n).toArray⟩) ∧ ∃ k os, w' = grow (w.drewN k) os := Any.strconv_FormatInt_10 Tryz.laysM173 n h0 h1 w htab
def Tryz.lays173_ren : Go.Shelf.Ren := ⟨fun | 173 => 48 | 246 => 72 | 283 => 94 | 284 => 95 | 285 => 96 | 286 => 97 | 129 => 110 | 317 => 109 | 318 => 111 | 319 => 112 | 320 => 113 | 337 => 123 | 338 => 124 | n => n, fun | 2 => 2 | 3 => 3 | 9 => 9 | 4 => 4 | 171 => 128 | 0 => 0 | 53 => 103 | 37 => 64 | 5 => 5 | 173 => 131 | 212 => 154 | 51 => 88 | 20 => 20 | 213 => 155 | 46 => 157 | 232 => 188 | 233 => 189 | n => n, fun | 17 => 0 | 18 => 2 | 19 => 3 | n => n⟩
theorem Tryz.lays173 : Go.Proofs.Lays.n173 Tryz.prog Tryz.lays173_ren := {
  mixed := by kernel_rfl
  f129 := Tryz.func110.trans (congrArg some (by kernel_rfl))
  f173 := Tryz.func48.trans (congrArg some (by kernel_rfl))
  f246 := Tryz.func72.trans (congrArg some (by kernel_rfl))
  f283 := Tryz.func94.trans (congrArg some (by kernel_rfl))
  f284 := Tryz.func95.trans (congrArg some (by kernel_rfl))
  f285 := Tryz.func96.trans (congrArg some (by kernel_rfl))
  f286 := Tryz.func97.trans (congrArg some (by kernel_rfl))
  f317 := Tryz.func109.trans (congrArg some (by kernel_rfl))
  f318 := Tryz.func111.trans (congrArg some (by kernel_rfl))
  f319 := Tryz.func112.trans (congrArg some (by kernel_rfl))
  f320 := Tryz.func113.trans (congrArg some (by kernel_rfl))
  f337 := Tryz.func123.trans (congrArg some (by kernel_rfl))
  f338 := Tryz.func124.trans (congrArg some (by kernel_rfl))
  t0 := Tryz.underlying0
  a0 := Tryz.isAgg0
  z0 := Tryz.sizeOf0
  v0 := Tryz.zeroValue0
  t2 := Tryz.underlying2
  a2 := Tryz.isAgg2
  z2 := Tryz.sizeOf2
  v2 := Tryz.zeroValue2
  t3 := Tryz.underlying3
  a3 := Tryz.isAgg3
  z3 := Tryz.sizeOf3
  v3 := Tryz.zeroValue3
  t4 := Tryz.underlying4
  a4 := Tryz.isAgg4
  z4 := Tryz.sizeOf4
  v4 := Tryz.zeroValue4
  t5 := Tryz.underlying5
  a5 := Tryz.isAgg5
  z5 := Tryz.sizeOf5
  v5 := Tryz.zeroValue5
  t9 := Tryz.underlying9
  a9 := Tryz.isAgg9
  z9 := Tryz.sizeOf9
  v9 := Tryz.zeroValue9
  t20 := Tryz.underlying20
  a20 := Tryz.isAgg20
  z20 := Tryz.sizeOf20
  v20 := Tryz.zeroValue20
  t37 := Tryz.underlying64
  a37 := Tryz.isAgg64
  z37 := Tryz.sizeOf64
  v37 := Tryz.zeroValue64
  t46 := Tryz.underlying157
  a46 := Tryz.isAgg157
  z46 := Tryz.sizeOf157
  v46 := Tryz.zeroValue157
  t51 := Tryz.underlying88
  a51 := Tryz.isAgg88
  z51 := Tryz.sizeOf88
  v51 := Tryz.zeroValue88
  t53 := Tryz.underlying103
  a53 := Tryz.isAgg103
  z53 := Tryz.sizeOf103
  v53 := Tryz.zeroValue103
  t171 := Tryz.underlying128
  a171 := Tryz.isAgg128
  z171 := Tryz.sizeOf128
  v171 := Tryz.zeroValue128
  t173 := Tryz.underlying131
  a173 := Tryz.isAgg131
  z173 := Tryz.sizeOf131
  v173 := Tryz.zeroValue131
  t212 := Tryz.underlying154
  a212 := Tryz.isAgg154
  z212 := Tryz.sizeOf154
  v212 := Tryz.zeroValue154
  t213 := Tryz.underlying155
  a213 := Tryz.isAgg155
  z213 := Tryz.sizeOf155
  t232 := Tryz.underlying188
  a232 := Tryz.isAgg188
  z232 := Tryz.sizeOf188
  v232 := Tryz.zeroValue188
  t233 := Tryz.underlying189
  a233 := Tryz.isAgg189
  z233 := Tryz.sizeOf189
  v233 := Tryz.zeroValue189
  g17 := by kernel_rfl
  g18 := by kernel_rfl
  g19 := by kernel_rfl }
open Go.RowKit Go.Sort Go.Lib in
/-- THE ROAD WITHOUT THE TABLE: 0 <= i < 100. (LAID: no walk: one application.) -/
theorem Tryz.strconv_FormatInt_10_small (i : Nat) (hi : i < 100) (w : World) :
    Calls Tryz.prog 48 #[.int .i64 i, .int .i64 10] w fun e w' => e = .returned (.string ⟨(Lib.decDigits i).toArray⟩) ∧ w' = w := Any.strconv_FormatInt_10_small Tryz.lays173 i hi w
end Go.Proofs
namespace Go.Proofs.YtomkdhkkggbioaaGreatDoor
open Go
set_option linter.unusedSimpArgs false
set_option linter.unusedVariables false

/-- a text as a value -/
def Sv (l : List UInt8) : Value := .string ⟨l.toArray⟩
theorem Upd.of_below {B : Nat} {w w' : World} (h : Go.RowKit.Below B w w') : Upd (From B) w w' :=
  ⟨h.os, h.tape, h.output, h.size, fun k _ hn => h.block k (by unfold From at hn; omega)⟩
/-- the table of powers of ten, as start-up lays it -/
def Pow10 (w : World) : Prop := Lib.TabIs Tryz.prog w "internal/strconv.uint64pow10" .u64 Lib.pow10Tab
theorem Pow10.upd {w w' : World} {S : Nat → Prop} (h : Pow10 w) (hu : Upd S w w') (hn : ∀ k, k < w.heap.size → ¬ S k) : Pow10 w' := by
  unfold Pow10 Lib.TabIs World.var? at h ⊢
  cases hg : Tryz.prog.globalNamed "internal/strconv.uint64pow10" with
  | none => rw [hg] at h; cases h
  | some g =>
    rw [hg] at h
    simp only [Option.bind_some] at h ⊢
    have hl : g < w.heap.size := by
      rcases Nat.lt_or_ge g w.heap.size with h9 | h9
      · exact h9
      · rw [Array.getElem?_eq_none (by omega)] at h; cases h
    rw [hu.block g hl (hn g hl)]
    exact h
theorem Upd.grew (w : World) (k : Nat) (os : Array Obj) : Upd No w (Go.Sort.grow (w.drewN k) os) := by
  refine ⟨rfl, rfl, rfl, ?_, fun q hq _ => ?_⟩
  · show w.heap.size ≤ (w.heap ++ os).size
    rw [Array.size_append]
    omega
  · show (w.heap ++ os)[q]? = w.heap[q]?
    rw [Array.getElem?_append_left hq]

theorem itoa_ok {w : World} {n : Int} (hn : inK .i64 n) (ht : Pow10 w) : Ret Tryz.prog 38 #[.int .i64 n] w fun v w' => v = Sv (Lib.itoa n) ∧ Upd No w w' := by
  simp only [inK] at hn
  refine Calls.mono (Tryz.strconv_Itoa n hn.1 hn.2 w ht) ?_
  rintro e w' ⟨rfl, k, os, rfl⟩
  exact ⟨_, rfl, rfl, Upd.grew w k os⟩
theorem formatInt_ok {w : World} {n : Int} (hn : inK .i64 n) (ht : Pow10 w) : Ret Tryz.prog 48 #[.int .i64 n, .int .i64 10] w fun v w' => v = Sv (Lib.itoa n) ∧ Upd No w w' := by
  simp only [inK] at hn
  refine Calls.mono (Tryz.strconv_FormatInt_10 n hn.1 hn.2 w ht) ?_
  rintro e w' ⟨rfl, k, os, rfl⟩
  exact ⟨_, rfl, rfl, Upd.grew w k os⟩
theorem sjoin_ok {w : World} {F : Nat → Prop} {v : Value} {xs : List (List UInt8)} {sep : List UInt8} (hr : Rd w F v xs.length 1 (xs.map Sv)) (hlen : (Lib.join xs sep).length ≤ 140737488355328) :
    Ret Tryz.prog 40 #[v, Sv sep] w fun u w' => u = Sv (Lib.join xs sep) ∧ Upd No w w' := by
  obtain ⟨A, c, rfl, hc⟩ := hr.slice_form
  have hm := hr.le
  rcases Nat.eq_zero_or_pos xs.length with h0 | h0
  · obtain rfl := List.eq_nil_of_length_eq_zero h0
    refine Calls.mono (Tryz.strings_Join_none A c ⟨sep.toArray⟩ w) ?_
    rintro e w' ⟨rfl, rfl⟩
    exact ⟨_, rfl, rfl, Upd.refl _ _⟩
  · obtain ⟨b, off, rfl, _, hbl, hcell⟩ := hr.open h0
    have e1 : ((xs.map fun x => (⟨x.toArray⟩ : ByteArray)).map (·.data.toList)) = xs := by rw [List.map_map]; exact (List.map_congr_left (fun x _ => by simp)).trans (List.map_id _)
    have h9 := Tryz.strings_Join b off c (xs.map fun x => (⟨x.toArray⟩ : ByteArray)) ⟨sep.toArray⟩ w (fun j x hj => by
      rw [List.getElem?_map] at hj
      cases hx : xs[j]? with
      | none => rw [hx] at hj; cases hj
      | some y =>
        rw [hx] at hj
        injection hj with hj
        subst hj
        exact hcell j _ (by rw [List.getElem?_map, hx]; rfl)) hbl (by rw [List.length_map]; exact hm) (by rw [List.length_map]; exact hc) (by rw [e1]; simpa using hlen)
    rw [List.length_map, e1] at h9
    refine Calls.mono h9 ?_
    rintro e w' ⟨rfl, h⟩
    exact ⟨_, rfl, by simp [Sv], (Upd.of_below h).mono fun k hk h9 => by simp only [From] at h9; omega⟩
end Go.Proofs.YtomkdhkkggbioaaGreatDoor

/-
  From a walk to the statement of a row that lists variables: the table of powers of ten (law 05).
-/
namespace Go.Proofs.YtomkdhkkggbioaaGreatDoor
open Go Go.ChangeShapes Go.WideShapes Go.ChangeAt Go.RowKit
set_option linter.unusedSimpArgs false
set_option linter.unusedVariables false

abbrev laidL : List (String × DataW Unit) := [("math/bits.deBruijn32tab", Rows.laid_math_bits_deBruijn32tab), ("math/bits.deBruijn64tab", Rows.laid_math_bits_deBruijn64tab), ("internal/strconv.uint64pow10", Rows.laid_internal_strconv_uint64pow10)]

theorem trod_ints {P : Program} {w : World} {fuel n : Nat} {e t : TypeId} {k : IntKind} {cs : List Value} {p : List MemPlace} {l : List Int} (ht : P.underlying t = some (.array n e)) (he : P.underlying e = some (.int k)) (hc : P.cellsOf e = 1) (hct : P.cellsOf t = n) (hl : l.length = n)
    (h : DataW.trod (fun _ => ()) P w 0 (fun _ => true) false fuel t cs = some (.agg (l.map fun i => .lit (.int k i)), p)) : cs = l.map (Value.int k) := by
  obtain ⟨xs, m, rfl, hx, hlen, hxs, hel⟩ := DataW.trod_array ht h
  simp only [Prod.mk.injEq, DataW.agg.injEq] at hx
  apply List.ext_getElem?
  intro i
  rcases Nat.lt_or_ge i n with hi | hi
  · have h1 := hel i hi
    rw [hc] at h1
    have hxi : xs[i]? = some xs[i] := List.getElem?_eq_getElem (by omega)
    rw [hxi] at h1
    obtain ⟨z, e1, e2, _⟩ := DataW.trod_int he h1
    have h2 : (xs.map (·.1))[i]? = (l.map fun i => (DataW.lit (.int k i) : DataW Unit))[i]? := by rw [← hx.1]
    rw [List.getElem?_map, List.getElem?_map, hxi, e2, List.getElem?_eq_getElem (by omega)] at h2
    simp only [Option.map_some, Option.some.injEq, DataW.lit.injEq, Lit.int.injEq, true_and] at h2
    have h3 : cs[i]? = some (.int k z) := by
      have h4 : ((cs.drop (i * 1)).take 1)[0]? = some (.int k z) := by rw [e1]; rfl
      rw [List.getElem?_take_of_lt (by omega), List.getElem?_drop, Nat.mul_one, Nat.add_zero] at h4
      exact h4
    rw [h3, List.getElem?_map, List.getElem?_eq_getElem (by omega), h2]
    rfl
  · rw [List.getElem?_eq_none (by omega), List.getElem?_eq_none (by rw [List.length_map]; omega)]

theorem gTab : Tryz.prog.globalNamed "internal/strconv.uint64pow10" = some 0 := by kernel_rfl
theorem tTab : (Tryz.prog.globals[0]?).map (·.type) = some 154 := by kernel_rfl
theorem datTab : (Rows.laid_internal_strconv_uint64pow10 : DataW Unit) = .agg (Lib.pow10Tab.map fun i => .lit (.int .u64 i)) := by kernel_rfl

theorem pow_of_laid {W : World} (h : laidMetH Tryz.prog laidL W) : Pow10 W := by
  rw [MakeChecks.laidMetH_plain _ _ _ (by kernel_rfl)] at h
  obtain ⟨ps, ⟨g0, t0, cs0, f0, p0, q0, hg0, ht0, hv0, hd0, ⟨g1, t1, cs1, f1, p1, q1, hg1, ht1, hv1, hd1, ⟨g2, t2, cs2, f2, p2, q2, hg2, ht2, hv2, hd2, _, _⟩, _⟩, _⟩, _, _⟩ := h
  obtain rfl := Option.some.inj (gTab.symm.trans hg2)
  obtain rfl := Option.some.inj (tTab.symm.trans ht2)
  rw [datTab] at hd2
  have e2 := trod_ints (l := Lib.pow10Tab) Tryz.underlying154 Tryz.underlying103 (by kernel_rfl) (by kernel_rfl) Lib.pow10Tab_length hd2
  unfold Pow10 Lib.TabIs
  rw [hv2]
  congr 1
  exact Array.ext' e2

/-- The door's own heap meets the condition. -/
theorem door_met (os : Os) (args : Array Value) : laidMetH Tryz.prog laidL ((World.doorLaid Tryz.prog 24 os).forCall (fun _ _ => 0) ⟨#[], args, []⟩).memory :=
  laidMetH_of_parts3 (fuel := 8) (laidMet_of_run' 8 (by kernel_rfl) (by kernel_rfl)) (by kernel_rfl) (by kernel_rfl)

set_option maxRecDepth 100000 in
theorem law_returns_laid {H : Type} {enc : TypeId × Value → H} {os : Os} {f : FuncId} {fn : Func} {s : ChangeSpec} {tb : TypeId} {conds : List PathCond} (started : os.Started)
    (hfn : Tryz.prog.funcs[f]? = some fn) (noInit : Tryz.prog.inits.idxOf? f = none) (hv : s.vars = [])
    (hspec : ∀ ds : List (DataW H), ds.length = fn.params.toList.length → s.fn H ds = { results := [.lit (.bool true)], args := ds })
    (hres : fn.resultTypes = #[tb]) (htb : Tryz.prog.underlying tb = some .bool)
    (hrd : (fn.params.toList.all fun t => Tryz.prog.readableRec t && decide (t < Tryz.prog.types.size)) = true)
    (witness : ∃ (w : World) (tape : Tape) (i : Input), w.os = os ∧ (w.forCall tape i).Shaped Tryz.checked.prog ∧ i.vars = [] ∧ Input.okWide Tryz.checked.prog (w.forCall tape i) .any w.heap.size f i ∧
      ((s.pre enc Tryz.checked.prog fn conds false (w.forCall tape i).memory i.args ∧ laidMetH Tryz.prog laidL (w.forCall tape i).memory) ∧ sizedMet enc Tryz.checked.prog fn (OpenSpec.ofChange s) false (w.forCall tape i).memory i.args) ∧ ({} : Assume).holds Tryz.checked.prog (lone (Frame.enter Tryz.checked.prog f i.args .normal) [] (w.forCall tape i)))
    (walk : ∀ (W : World) (base : Nat) (args : Array Value) (ds : List (DataW H)) (ps : List MemPlace), Pow10 W →
      (∀ (j : Nat) t v, fn.params[j]? = some t → args[j]? = some v → Value.okWide Tryz.prog W .any base t v) →
      DataW.TrodAll enc Tryz.prog W 0 (fun _ => true) true fn.params.toList args.toList ds ps →
      conds.all (PathCond.test Tryz.prog ⟨fn.params.toList, ds, [], []⟩) = true →
      (DataW.weightsEach Tryz.prog fn.params.toList ds).all (· ≤ reachBytes) = true →
      Ret Tryz.prog f args W fun v W' => v = .bool true ∧ Upd No W W') :
    ReturnsInHanded {} Tryz.checked os f .any (fun w args => (s.pre enc Tryz.prog fn conds false w args ∧ laidMetH Tryz.prog laidL w) ∧ sizedMet enc Tryz.prog fn (OpenSpec.ofChange s) false w args) (s.post enc Tryz.prog fn false true false false) := by
  refine returnsInHanded_of_change_and (C := Tryz.checked) (X := fun w _ => laidMetH Tryz.prog laidL w) (fun _ _ _ hh h => h.of_heap hh) own_none started noInit hfn witness ?_
  intro W base args ds gs before hval hW hcnd hwt hL _
  have hW' := hW
  obtain ⟨p, q, hA, hV, rfl, hz, hnd⟩ := hW
  have hvt : s.plain.varTypes Tryz.checked.prog = [] := by simp [ChangeSpec.plain, DataSpec.varTypes, hv]
  have hV0 := hV
  rw [hv] at hV
  obtain ⟨rfl, rfl⟩ := trodVars_none hV
  simp only [hvt, List.append_nil] at hwt hcnd hW' hz
  have hA' : DataW.TrodAll enc Tryz.prog W 0 (fun _ => true) true fn.params.toList args.toList ds p := hA
  refine Calls.mono (walk W base args ds p (pow_of_laid hL) hval hA' hcnd hwt) ?_
  rintro e W' ⟨v, rfl, rfl, hu⟩
  have hb : Below W.heap.size W W' := hu.below (Nat.le_refl _) (fun _ h => h.elim)
  have hlt : ∀ x ∈ p, x.block < W.heap.size := hA'.lt
  have hsf := hspec ds (trodAll_length hA')
  have harg : ∀ sp : Nat → Bool, (∀ x ∈ p, sp x.block = true) → DataW.TrodAll enc Tryz.prog W' 0 sp true fn.params.toList args.toList ds p := fun sp hs => trodAll_below laid_out hb hrd hA' hlt hs
  have hr1 : ∀ (b : Nat) (sp : Nat → Bool) (hd : Bool), DataW.TrodAll enc Tryz.prog W' b sp hd fn.resultTypes.toList ((Value.bool true).resultList fn.resultTypes.size) [.lit (.bool true)] [] := fun b sp hd => by
    rw [hres]
    exact trodAll_cons_mk (p' := []) (shut_bool htb _) trodAll_mk0
  have hvars : ∀ sp : Nat → Bool, DataW.TrodVars enc Tryz.prog W' sp s.vars [] [] := fun sp => by
    rw [hv]; exact rfl
  refine ⟨_, rfl, ds, [], p, [], p, [], hW', ?_, ?_, ?_, World.keptBut_mono (fun _ f => f.elim) (hb.frame fun _ => False), fun h => by cases h⟩
  · rw [List.append_nil, hsf]; exact hr1 _ _ _
  · rw [List.append_nil, hsf]; exact harg _ (fun x hx => by simpa using hlt x hx)
  · rw [List.append_nil, hsf]; exact hvars _
end Go.Proofs.YtomkdhkkggbioaaGreatDoor

/-
  The reference's lexer, in plain Lean: blanks and remarks, one token, all tokens.
-/
namespace Go.Proofs.YtomkdhkkggbioaaGreatDoor
open Go
set_option linter.unusedSimpArgs false
set_option linter.unusedVariables false

def smB (c : UInt8) : Bool := decide (97 ≤ c.toNat ∧ c.toNat ≤ 122)
def grB (c : UInt8) : Bool := decide (65 ≤ c.toNat ∧ c.toNat ≤ 90)
def dgB (c : UInt8) : Bool := decide (48 ≤ c.toNat ∧ c.toNat ≤ 57)
def inB (c : UInt8) : Bool := smB c || grB c || dgB c || decide (c.toNat = 95) || decide (c.toNat = 39)
def wsB (c : UInt8) : Bool := decide (c.toNat = 32 ∨ c.toNat = 10 ∨ c.toNat = 9 ∨ c.toNat = 13)
/-- does a word stand there? -/
def atF (s : List UInt8) (i : Nat) (w : List UInt8) : Bool := decide ((s.drop i).take w.length = w)
/-- behind a remark, of which so many are open -/
def remF : Nat → List UInt8 → Option (List UInt8)
  | d, 40 :: 42 :: r => remF (d + 1) r
  | d, 42 :: 41 :: r => if d = 1 then some r else remF (d - 1) r
  | d, _ :: r => if d = 0 then some r else remF d r
  | _, [] => none
theorem remF_len : ∀ (d : Nat) (s q : List UInt8), remF d s = some q → q.length < s.length
  | d, s, q, h => by
    unfold remF at h
    split at h
    · have := remF_len _ _ q h; simp only [List.length_cons]; omega
    · split at h
      · injection h with h; subst h; simp only [List.length_cons]; omega
      · have := remF_len _ _ q h; simp only [List.length_cons]; omega
    · split at h
      · injection h with h; subst h; simp only [List.length_cons]; omega
      · have := remF_len _ _ q h; simp only [List.length_cons]; omega
    · cases h
termination_by d s => s.length
theorem atF_two {s : List UInt8} {k : Nat} {a b : UInt8} (h : atF s k [a, b] = true) : s.drop k = a :: b :: s.drop (k + 2) := by
  simp only [atF, decide_eq_true_eq] at h
  have h1 := List.take_append_drop [a, b].length (s.drop k)
  rw [h, List.drop_drop] at h1
  exact h1.symm
theorem remF_open {s : List UInt8} {k d : Nat} (h : atF s k [40, 42] = true) : remF d (s.drop k) = remF (d + 1) (s.drop (k + 2)) := by
  rw [atF_two h, remF]
theorem remF_close {s : List UInt8} {k d : Nat} (h : atF s k [42, 41] = true) : remF (d + 1) (s.drop k) = if d = 0 then some (s.drop (k + 2)) else remF d (s.drop (k + 2)) := by
  rw [atF_two h, remF]
  simp
theorem remF_other {s : List UInt8} {k d : Nat} (hk : k < s.length) (h1 : atF s k [40, 42] = false) (h2 : atF s k [42, 41] = false) : remF (d + 1) (s.drop k) = remF (d + 1) (s.drop (k + 1)) := by
  simp only [atF, decide_eq_false_iff_not] at h1 h2
  rw [List.drop_eq_getElem_cons hk] at h1 h2 ⊢
  rw [remF]
  · simp
  · intro r hr hs
    rw [hr, hs] at h1
    simp at h1
  · intro r hr hs
    rw [hr, hs] at h2
    simp at h2
theorem remF_end {d : Nat} : remF d [] = none := by simp [remF]
/-- behind blanks and remarks -/
def skipF (s : List UInt8) : Option (List UInt8) :=
  match s with
  | [] => some []
  | c :: r => if wsB c = true then skipF r else
    if atF (c :: r) 0 [40, 42] = true then
      match h : remF 0 (c :: r) with
      | none => none
      | some q => skipF q
    else some (c :: r)
termination_by s.length
decreasing_by
  · simp
  · exact remF_len _ _ _ h
theorem skipF_nil : skipF [] = some [] := by rw [skipF]
theorem skipF_ws {c : UInt8} {r : List UInt8} (h : wsB c = true) : skipF (c :: r) = skipF r := by rw [skipF, if_pos h]
theorem skipF_stop {c : UInt8} {r : List UInt8} (h : wsB c = false) (h2 : atF (c :: r) 0 [40, 42] = false) : skipF (c :: r) = some (c :: r) := by
  rw [skipF, if_neg (by simp [h]), if_neg (by simp [h2])]
theorem skipF_rem {c : UInt8} {r q : List UInt8} (h : wsB c = false) (h2 : atF (c :: r) 0 [40, 42] = true) (h3 : remF 0 (c :: r) = some q) : skipF (c :: r) = skipF q := by
  rw [skipF, if_neg (by simp [h]), if_pos h2]
  split
  · rename_i h4; rw [h3] at h4; cases h4
  · rename_i h4; rw [h3] at h4; injection h4 with h4; rw [h4]
theorem skipF_none {c : UInt8} {r : List UInt8} (h : wsB c = false) (h2 : atF (c :: r) 0 [40, 42] = true) (h3 : remF 0 (c :: r) = none) : skipF (c :: r) = none := by
  rw [skipF, if_neg (by simp [h]), if_pos h2]
  split
  · rfl
  · rename_i h4; rw [h3] at h4; cases h4
theorem skipF_len9 : ∀ (n : Nat) (s q : List UInt8), s.length ≤ n → skipF s = some q → q.length ≤ s.length
  | n, [], q, _, hq => by rw [skipF_nil] at hq; injection hq with hq; subst hq; simp
  | 0, c :: r, q, hn, hq => by simp at hn
  | n + 1, c :: r, q, hn, hq => by
    simp only [List.length_cons] at hn ⊢
    cases hw : wsB c with
    | true =>
      rw [skipF_ws hw] at hq
      have := skipF_len9 n r q (by omega) hq
      omega
    | false =>
      cases ha : atF (c :: r) 0 [40, 42] with
      | false => rw [skipF_stop hw ha] at hq; injection hq with hq; subst hq; simp
      | true =>
        cases hr : remF 0 (c :: r) with
        | none => rw [skipF_none hw ha hr] at hq; cases hq
        | some p =>
          rw [skipF_rem hw ha hr] at hq
          have h1 := remF_len _ _ _ hr
          simp only [List.length_cons] at h1
          have h2 := skipF_len9 n p q (by omega) hq
          omega
theorem skipF_len (s q : List UInt8) (h : skipF s = some q) : q.length ≤ s.length := skipF_len9 _ s q (Nat.le_refl _) h

structure Tok where
  k : Nat
  s : List UInt8
deriving DecidableEq
def wordsL : List (List UInt8) := [[108, 101, 116], [114, 101, 99], [105, 110], [102, 117, 110], [105, 102], [116, 104, 101, 110], [101, 108, 115, 101], [109, 97, 116, 99, 104], [119, 105, 116, 104], [116, 114, 121], [116, 121, 112, 101], [111, 102], [109, 111, 100], [116, 114, 117, 101], [102, 97, 108, 115, 101]]
def signsL : List (List UInt8) := [[45, 62], [58, 61], [59, 59], [60, 62], [60, 61], [58, 58], [124, 124], [38, 38], [40], [41], [91], [93], [44], [59], [124], [61], [60], [43], [45], [42], [47], [94], [33], [95]]
/-- digits as a number below 2^62 -/
def numF : Nat → List UInt8 → Option Nat
  | n, [] => some n
  | n, c :: r => if (4611686018427387903 - (c.toNat - 48)) / 10 < n then none else numF (n * 10 + (c.toNat - 48)) r
/-- what stands in quotes, behind what was read of it -/
def textF : List UInt8 → List UInt8 → Option (List UInt8 × List UInt8)
  | _, [] => none
  | t, c :: r => if c.toNat = 34 then some (t, r) else if c.toNat ≠ 92 then textF (t ++ [c]) r else
    match r with
    | [] => none
    | d :: r => if d.toNat = 110 then textF (t ++ [10]) r else if d.toNat = 116 then textF (t ++ [9]) r else if d.toNat = 34 then textF (t ++ [34]) r else if d.toNat = 92 then textF (t ++ [92]) r else none
theorem textF_len : ∀ (s t : List UInt8) (p : List UInt8 × List UInt8), textF t s = some p → p.2.length < s.length ∧ p.1.length + p.2.length < t.length + s.length
  | [], t, p, h => by simp [textF] at h
  | c :: r, t, p, h => by
    unfold textF at h
    split at h
    · injection h with h; subst h; simp only [List.length_cons]; omega
    · split at h
      · have := textF_len _ _ p h; simp only [List.length_cons, List.length_append, List.length_nil] at this ⊢; omega
      · split at h
        · cases h
        · rename_i d r2
          split at h
          · have := textF_len _ _ p h; simp only [List.length_cons, List.length_append, List.length_nil] at this ⊢; omega
          · split at h
            · have := textF_len _ _ p h; simp only [List.length_cons, List.length_append, List.length_nil] at this ⊢; omega
            · split at h
              · have := textF_len _ _ p h; simp only [List.length_cons, List.length_append, List.length_nil] at this ⊢; omega
              · split at h
                · have := textF_len _ _ p h; simp only [List.length_cons, List.length_append, List.length_nil] at this ⊢; omega
                · cases h
termination_by s => s.length
def wordF (w : List UInt8) : Bool := decide (w ∈ wordsL)
/-- the token at the beginning, and what stands behind it -/
def oneF : List UInt8 → Except Nat (Tok × List UInt8)
  | [] => .error 4
  | c :: r =>
    if (smB c || grB c || decide (c.toNat = 39)) = true then
      if 24 < (c :: r.takeWhile inB).length then .error 2
      else if wordF (c :: r.takeWhile inB) = true then .ok (⟨6, c :: r.takeWhile inB⟩, r.dropWhile inB)
      else if c.toNat = 39 then (if (r.head?.any smB) = true then .ok (⟨3, c :: r.takeWhile inB⟩, r.dropWhile inB) else .error 4)
      else if grB c = true then .ok (⟨2, c :: r.takeWhile inB⟩, r.dropWhile inB)
      else .ok (⟨1, c :: r.takeWhile inB⟩, r.dropWhile inB)
    else if dgB c = true then
      if ((r.dropWhile dgB).head?.any inB) = true then .error 4
      else if (numF 0 (c :: r.takeWhile dgB)).isNone = true then .error 1
      else .ok (⟨4, c :: r.takeWhile dgB⟩, r.dropWhile dgB)
    else if c.toNat = 34 then
      match textF [] r with
      | none => .error 4
      | some p => .ok (⟨5, p.1⟩, p.2)
    else match signsL.find? fun w => atF (c :: r) 0 w with
      | none => .error 4
      | some w => .ok (⟨7, w⟩, (c :: r).drop w.length)
theorem take_drop_len {p : UInt8 → Bool} (r : List UInt8) : (r.takeWhile p).length + (r.dropWhile p).length = r.length := by
  have := congrArg List.length (List.takeWhile_append_dropWhile (p := p) (l := r))
  rwa [List.length_append] at this
/-- a token's text is no longer than what it takes -/
theorem oneF_len {s : List UInt8} {t : Tok} {q : List UInt8} (h : oneF s = .ok (t, q)) : q.length < s.length ∧ t.s.length + q.length ≤ s.length := by
  cases s with
  | nil => simp [oneF] at h
  | cons c r =>
    have d1 := take_drop_len (p := inB) r
    have d2 := take_drop_len (p := dgB) r
    simp only [oneF] at h
    split at h
    · split at h
      · cases h
      · split at h
        · injection h with h; injection h with h1 h2; subst h1 h2; simp only [List.length_cons]; omega
        · split at h
          · split at h
            · injection h with h; injection h with h1 h2; subst h1 h2; simp only [List.length_cons]; omega
            · cases h
          · split at h <;> · injection h with h; injection h with h1 h2; subst h1 h2; simp only [List.length_cons]; omega
    · split at h
      · split at h
        · cases h
        · split at h
          · cases h
          · injection h with h; injection h with h1 h2; subst h1 h2; simp only [List.length_cons]; omega
      · split at h
        · split at h
          · cases h
          · rename_i p hp
            injection h with h; injection h with h1 h2; subst h1 h2
            have := textF_len _ _ _ hp
            simp only [List.length_cons, List.length_nil] at this ⊢; omega
        · split at h
          · cases h
          · rename_i w hw
            injection h with h; injection h with h1 h2; subst h1 h2
            have h3 := List.mem_of_find?_eq_some hw
            have h4 : ∀ w ∈ signsL, 0 < w.length := by decide
            have h5 := h4 w h3
            have h6 : atF (c :: r) 0 w = true := List.find?_some hw
            simp only [atF, List.drop_zero, decide_eq_true_eq] at h6
            have h7 := congrArg List.length h6
            rw [List.length_take] at h7
            simp only [List.length_drop, List.length_cons] at h7 ⊢
            omega
/-- all tokens -/
def lexF (s : List UInt8) : Except Nat (List Tok) :=
  match h : skipF s with
  | none => .error 4
  | some q =>
    if q = [] then .ok [⟨0, []⟩] else
    match h2 : oneF q with
    | .error e => .error e
    | .ok (t, r) => (lexF r).map (t :: ·)
termination_by s.length
decreasing_by
  have h3 := skipF_len _ _ h
  have h4 := (oneF_len h2).1
  omega
theorem lexF_none {s : List UInt8} (h : skipF s = none) : lexF s = .error 4 := by
  rw [lexF]
  split
  · rfl
  · rename_i h2; rw [h] at h2; cases h2
theorem lexF_end {s : List UInt8} (h : skipF s = some []) : lexF s = .ok [⟨0, []⟩] := by
  rw [lexF]
  split
  · rename_i h2; rw [h] at h2; cases h2
  · rename_i h2; rw [h] at h2; injection h2 with h2; subst h2; rfl
theorem lexF_err {s q : List UInt8} {e : Nat} (h : skipF s = some q) (hq : q ≠ []) (h2 : oneF q = .error e) : lexF s = .error e := by
  rw [lexF]
  split
  · rename_i h3; rw [h] at h3; cases h3
  · rename_i h3; rw [h] at h3; injection h3 with h3; subst h3
    rw [if_neg hq]
    split
    · rename_i h4; rw [h2] at h4; injection h4 with h4; rw [h4]
    · rename_i h4; rw [h2] at h4; cases h4
theorem lexF_step {s q r : List UInt8} {t : Tok} (h : skipF s = some q) (hq : q ≠ []) (h2 : oneF q = .ok (t, r)) : lexF s = (lexF r).map (t :: ·) := by
  rw [lexF]
  split
  · rename_i h3; rw [h] at h3; cases h3
  · rename_i h3; rw [h] at h3; injection h3 with h3; subst h3
    rw [if_neg hq]
    split
    · rename_i h4; rw [h2] at h4; cases h4
    · rename_i h4; rw [h2] at h4; injection h4 with h4; injection h4 with h4 h5; subst h4 h5; rfl
end Go.Proofs.YtomkdhkkggbioaaGreatDoor

/-
  More operations: a field of a struct's value.
-/
namespace Go.Proofs.YtomkdhkkggbioaaGreatDoor
open Go
set_option linter.unusedSimpArgs false
set_option linter.unusedVariables false

section
variable {P : Program} {ρ : Operand → Value} {o : Oper} {w : World} {x : Operand} {t : TypeId}
end
end Go.Proofs.YtomkdhkkggbioaaGreatDoor

/-
  Function values: made, and called.
-/
namespace Go.Proofs.YtomkdhkkggbioaaGreatDoor
open Go
set_option linter.unusedSimpArgs false
set_option linter.unusedVariables false

section
variable {P : Program} {N : Nat} {ops : Array Oper} {Q : Exit → Act → World → Prop} {o : Oper} {E : Env} {w w' : World} {d : Nat} {v : Value} {K : Env → World → Prop}
theorem r_callV {f : FuncId} {x : Operand} {xs : List Operand} {ts : Array TypeId} {first cap vs : List Value} (hop : o.op = .call { callee := .value x, args := xs.toArray, argTypes := ts }) (hx : Env.ev E x = .func (.func f) first.toArray cap.toArray) (hb : hasBody P f = true) (hvs : evs E xs vs) :
    (execOp E.ev o).run P w = .ok (.enter f (first ++ (vs ++ cap)).toArray) w := by
  have e1 := evs_map hvs
  simp [execOp, hop, resolve, Deferred.ofValue, hx, invoke, e1, run_callFunc_body hb]
/-- a call of a function value -/
theorem SO.callV {f : FuncId} {x : Operand} {xs : List Operand} {ts : Array TypeId} {first cap vs all : List Value} {R : Value → World → Prop} (hop : o.op = .call { callee := .value x, args := xs.toArray, argTypes := ts }) (hx : Env.ev E x = .func (.func f) first.toArray cap.toArray) (hb : hasBody P f = true) (hvs : evs E xs vs)
    (hall : first ++ (vs ++ cap) = all) (hc : Ret P f all.toArray w R)
    (hd : o.dst = some d) (hN : Nat.blt d N = true) (ho : opsOK E o = true) (hw : wantedE ops E o = some true) (k : ∀ v w'', R v w'' → K ((d, v) :: E) w'') : SO P N ops Q o K E w :=
  SO.enter hd hN ho hw (r_callV hop hx hb hvs) (hall ▸ hc) k
end
end Go.Proofs.YtomkdhkkggbioaaGreatDoor

/-
  Upd facts as tracked facts; rows copied into places; appended zeros.
-/
namespace Go.Proofs.YtomkdhkkggbioaaGreatDoor
open Go
set_option linter.unusedSimpArgs false
set_option linter.unusedVariables false

theorem Upd.upd {S S' : Nat → Prop} {w w1 w2 : World} (h : Upd S w w1) (h' : Upd S' w1 w2) (hs : ∀ k, k < w.heap.size → S' k → S k) : Upd S w w2 := h.trans h' hs
theorem Upd.updA {S S' : Nat → Prop} {w w1 w2 : World} (h : Upd S w w1) (h' : Upd S' w1 w2) (hs : ∀ k, k < w.heap.size → S' k → S k := by first | exact (fun _ _ h => h) | exact (fun _ _ h => h.elim) | (intro k hl hk; (try simp only [At, New, Grow, From, No] at hk ⊢); omega)) : Upd S w w2 := h.trans h' hs

section
variable {P : Program} {o : Oper} {w : World} {x y : Operand} {t : TypeId} {N : Nat} {ops : Array Oper} {Q : Exit → Act → World → Prop} {K : Env → World → Prop} {E : Env}

end

end Go.Proofs.YtomkdhkkggbioaaGreatDoor

/-
  print.Var's pieces: a rune as a text; the numeral of a number; two numbers of one numeral are one.
-/
namespace Go.Proofs.YtomkdhkkggbioaaGreatDoor
open Go
set_option linter.unusedSimpArgs false
set_option linter.unusedVariables false

theorem enc_ascii : ∀ a : Fin 128, Utf8.encode (a.val : Int) = ⟨#[UInt8.ofNat a.val]⟩ := by decide +kernel
section
variable {P : Program} {ρ : Operand → Value} {o : Oper} {w : World} {x : Operand} {t u : TypeId} {k : IntKind}
theorem r_runeStr {a : Nat} (ho : o.op = .convert t u x) (hx : ρ x = .int k (a : Int)) (ht : P.underlying t = some (.int k)) (hu : P.underlying u = some .string) (ha : a < 128) : (execOp ρ o).run P w = .ok (.value (Sv [UInt8.ofNat a])) w := by
  have h9 : Utf8.encode (a : Int) = ⟨#[UInt8.ofNat a]⟩ := enc_ascii ⟨a, ha⟩
  simp [execOp, ho, hx, convert, run_underlying ht, run_underlying hu, Conv.intToString, go_sem, h9, Sv]
end

/-- a variable's name -/
def varS (n : Int) : List UInt8 := if 1 ≤ n ∧ n ≤ 26 then [39, UInt8.ofNat (96 + n.toNat)] else 39 :: 116 :: Lib.itoa n
theorem decD_small {u : Nat} (h : u < 10) : Lib.decDigits u = [UInt8.ofNat (48 + u)] := by rw [Lib.decDigits, dif_pos h]
end Go.Proofs.YtomkdhkkggbioaaGreatDoor

/-
  Types as they may come in: small ones; their texts, in plain Lean.
-/
namespace Go.Proofs.YtomkdhkkggbioaaGreatDoor
open Go
set_option linter.unusedSimpArgs false
set_option linter.unusedVariables false

inductive Tr where
  | mk (n : List UInt8) (v : Int) (ks : List Tr)
inductive TR (w : World) (F : Nat → Prop) : List Value → Tr → Prop
  | mk {n : List UInt8} {v : Int} {ks : List Tr} {kv : Value} {xs : List (List Value)} : Rd w F kv ks.length 3 (xs.flatMap id) → xs.length = ks.length → inK .i64 v → n.length ≤ 1048576 → (∀ (i : Nat) c k, xs[i]? = some c → ks[i]? = some k → TR w F c k) → TR w F [Sv n, .int .i64 v, kv] (.mk n v ks)
theorem TR.upd {w w' : World} {F : Nat → Prop} {c : List Value} {t : Tr} (h : TR w F c t) (hu : Upd No w w') : TR w' F c t := by
  induction h with
  | mk hr hl hv hn hk ih => exact .mk (hr.upd hu (fun _ _ _ h => h)) hl hv hn fun i c k hc hk' => ih i c k hc hk'
theorem TR.len {w : World} {F : Nat → Prop} {c : List Value} {t : Tr} (h : TR w F c t) : c.length = 3 := by cases h; rfl
theorem TR.one {w : World} {F : Nat → Prop} {c : List Value} {t : Tr} (h : TR w F c t) : c.all Value.oneCell' = true := by
  cases h with
  | mk hr _ _ _ _ =>
    obtain ⟨A, c, rfl, _⟩ := hr.slice_form
    rfl

/-- small: levels left, the type -/
def okN (n : List UInt8) (k : Nat) : Bool := decide (k ≤ 6 ∧ ¬ (n = [] ∧ 0 < k) ∧ ¬ (n = [45, 62] ∧ k ≠ 2) ∧ ¬ (n = [42] ∧ k < 2))
def smallF : Nat → Tr → Bool
  | 0, _ => false
  | f + 1, .mk n v ks => okN n ks.length && ks.all (smallF f)
def brk (b : Bool) (s : List UInt8) : List UInt8 := if b = true then [40] ++ s ++ [41] else s
theorem brk_len (b : Bool) (s : List UInt8) : (brk b s).length ≤ s.length + 2 := by unfold brk; split <;> simp
/-- the text of a type, within what stands about it -/
def typS : Nat → Tr → Int → List UInt8
  | 0, _, _ => []
  | f + 1, .mk n v ks, a =>
    if n = [] then varS v
    else if n = [45, 62] then match ks with
      | [k0, k1] => brk (decide (0 < a)) (typS f k0 1 ++ [32, 45, 62, 32] ++ typS f k1 0)
      | _ => []
    else if n = [42] then brk (decide (1 < a)) (Lib.join (ks.map fun k => typS f k 2) [32, 42, 32])
    else match ks with
      | [] => n
      | [k0] => typS f k0 2 ++ [32] ++ n
      | _ => [40] ++ Lib.join (ks.map fun k => typS f k 0) [44, 32] ++ [41, 32] ++ n
theorem join_len (L : Nat) (sep : List UInt8) : ∀ xs : List (List UInt8), (∀ x ∈ xs, x.length ≤ L) → (Lib.join xs sep).length ≤ xs.length * (L + sep.length)
  | [], _ => by simp [Lib.join, List.intercalate]
  | [x], h => by
    have := h x (by simp)
    simp [Lib.join, List.intercalate]
    omega
  | x :: y :: r, h => by
    have h1 := h x (by simp)
    have h2 := join_len L sep (y :: r) (fun z hz => h z (by simp [hz]))
    have e : Lib.join (x :: y :: r) sep = x ++ sep ++ Lib.join (y :: r) sep := by simp [Lib.join, List.intercalate]
    rw [e, List.length_append, List.length_append, List.length_cons, Nat.add_mul, Nat.one_mul]
    omega
def bnT : Nat → Nat
  | 0 => 23
  | f + 1 => 6 * bnT f + 1048700
theorem varS_len9 {n : Int} (hn : inK .i64 n) : (varS n).length ≤ 100 := by
  have hd : ∀ u : Nat, u < 100000000000000000000 → (Lib.decDigits u).length ≤ 20 := by
    intro u h
    rw [Lib.decDigits_length]
    rcases Nat.lt_or_ge 20 (Lib.nDigits u) with h9 | h9
    · exfalso
      have h8 : ∀ (k v : Nat), k < Lib.nDigits v → 10 ^ k ≤ v ∨ k = 0 := by
        intro k
        induction k with
        | zero => intro v _; exact .inr rfl
        | succ k ih =>
          intro v hv
          by_cases h10 : v < 10
          · rw [Lib.nDigits_small h10] at hv; omega
          · rw [Lib.nDigits_big h10] at hv
            rcases ih (v / 10) (by omega) with h7 | h7
            · left; rw [Nat.pow_succ]; omega
            · subst h7; left; rw [Nat.pow_succ, Nat.pow_zero]; omega
      rcases h8 20 u h9 with h7 | h7
      · rw [show (10 : Nat) ^ 20 = 100000000000000000000 by decide] at h7; omega
      · cases h7
    · exact h9
  simp only [inK] at hn
  unfold varS
  split
  · simp
  · simp only [List.length_cons]
    unfold Lib.itoa
    split
    · rw [List.length_cons]
      have := hd n.natAbs (by omega)
      omega
    · have := hd n.toNat (by omega)
      omega
theorem typS_len {w : World} {F : Nat → Prop} : ∀ (f : Nat) (t : Tr) (c : List Value) (a : Int), smallF f t = true → TR w F c t → (typS f t a).length ≤ bnT f
  | 0, t, c, a, h, _ => by simp [smallF] at h
  | f + 1, .mk n v ks, c, a, h, ht => by
    simp only [smallF, Bool.and_eq_true, List.all_eq_true, okN, decide_eq_true_eq] at h
    obtain ⟨⟨hk6, hk0, hk1, hk2⟩, hall⟩ := h
    cases ht with
    | mk hr hl hv hn hk =>
      rename_i xs
      have each : ∀ (b : Int) k, k ∈ ks → (typS f k b).length ≤ bnT f := fun b k hm => by
        obtain ⟨i, hi, rfl⟩ := List.getElem_of_mem hm
        exact typS_len f _ (xs[i]'(by omega)) b (hall _ hm) (hk i _ _ (List.getElem?_eq_getElem (by omega)) (List.getElem?_eq_getElem hi))
      have hj : ∀ (b : Int) (sep : List UInt8), sep.length ≤ 3 → (Lib.join (ks.map fun k => typS f k b) sep).length ≤ 6 * bnT f + 18 := fun b sep hs => by
        have h1 := join_len (bnT f) sep (ks.map fun k => typS f k b) (fun x hx => by obtain ⟨k, hk', rfl⟩ := List.mem_map.1 hx; exact each b k hk')
        rw [List.length_map] at h1
        have h2 : ks.length * (bnT f + sep.length) ≤ 6 * (bnT f + 3) := Nat.mul_le_mul hk6 (by omega)
        omega
      simp only [typS, bnT]
      split
      · have := varS_len9 hv; omega
      · split
        · split
          · have h1 := each 1 _ (List.mem_cons_self ..)
            have h2 := each 0 _ (List.mem_cons_of_mem _ (List.mem_cons_self ..))
            refine Nat.le_trans (brk_len _ _) ?_
            simp only [List.length_append, List.length_cons, List.length_nil]
            omega
          · simp
        · split
          · refine Nat.le_trans (brk_len _ _) ?_
            have := hj 2 [32, 42, 32] (by decide)
            omega
          · split
            · omega
            · have h1 := each 2 _ (List.mem_cons_self ..)
              simp only [List.length_append, List.length_cons, List.length_nil]
              omega
            · have := hj 0 [44, 32] (by decide)
              simp only [List.length_append, List.length_cons, List.length_nil]
              omega
theorem bnT_le {f : Nat} (h : f ≤ 9) : bnT f ≤ 13000000000000 := by
  have : ∀ f : Fin 10, bnT f.val ≤ 13000000000000 := by decide
  exact this ⟨f, by omega⟩
end Go.Proofs.YtomkdhkkggbioaaGreatDoor

/-
  The reference's parser, in plain Lean.
-/
namespace Go.Proofs.YtomkdhkkggbioaaGreatDoor
open Go
set_option linter.unusedSimpArgs false
set_option linter.unusedVariables false

inductive Pt where
  | mk (k : Nat) (s : List UInt8) (n : Int) (ks : List Pt)
inductive Ex where
  | mk (k : Nat) (s : List UInt8) (n : Int) (rc : Bool) (ps : List Pt) (ks : List Ex)
structure Ct where
  s : List UInt8
  h : Bool
  t : Tr
structure Dc where
  k : Nat
  s : List UInt8
  rc : Bool
  e : Ex
  n : Nat
  cs : List Ct
def Pt.z : Pt := .mk 0 [] 0 []
def Ex.z : Ex := .mk 0 [] 0 false [] []
def Tr.z : Tr := .mk [] 0 []
def Ex.k : Ex → Nat
  | .mk k _ _ _ _ _ => k

/-- the reader: what is left, how much is open, its fault -/
structure St where
  ts : List Tok
  d : Nat
  e : Nat
def St.hd (s : St) : Tok := s.ts.headD ⟨0, []⟩
def isQ (s : St) (w : List UInt8) : Bool := decide (s.e = 0) && (decide (s.hd.s = w) && (decide (s.hd.k = 7) || decide (s.hd.k = 6)))
def kdQ (s : St) (k : Nat) : Bool := decide (s.e = 0) && decide (s.hd.k = k)
def tlQ (s : St) : St := { s with ts := s.ts.tail }
def fauQ (s : St) (e : Nat) : St := if s.e = 0 then { s with e := e } else s
def takQ (s : St) (w : List UInt8) : St := if isQ s w = true then tlQ s else s
def musQ (s : St) (w : List UInt8) : St := if isQ s w = true then tlQ s else fauQ s 4
def txtQ (s : St) (k : Nat) : List UInt8 × St := if kdQ s k = true then (s.hd.s, tlQ s) else ([], fauQ s 4)
def opnQ (s : St) : St := if s.e = 0 ∧ 50 < s.d + 1 then { ts := s.ts, d := s.d + 1, e := 5 } else { s with d := s.d + 1 }
def clsQ (s : St) : St := { s with d := s.d - 1 }
def sepQ {α : Type} (g : St → α × St) (w : List UInt8) : Nat → List α → St → List α × St
  | 0, l, s => (l, s)
  | k + 1, l, s => if isQ s w = true then sepQ g w k (l ++ [(g (tlQ s)).1]) (g (tlQ s)).2 else (l, s)
/-- what stands in [ ] -/
def lstQ {α : Type} (g : St → α × St) : Nat → List α → St → List α × St
  | 0, l, s => (l, s)
  | k + 1, l, s => if s.e = 0 then if isQ s [93] = true then (l, tlQ s) else
      lstQ g k (l ++ [(g (if l.length = 0 then s else musQ s [59])).1]) (g (if l.length = 0 then s else musQ s [59])).2
    else (l, s)
def nmsQ : Nat → List (List UInt8) → St → List (List UInt8) × St
  | 0, l, s => (l, s)
  | k + 1, l, s => if kdQ s 1 = true then nmsQ k (l ++ [s.hd.s]) (tlQ s) else (l, s)
/-- the place behind a text in a list, else 0 -/
def hasQ : List (List UInt8) → List UInt8 → Nat
  | [], _ => 0
  | x :: r, s => if x = s then 1 else if hasQ r s = 0 then 0 else hasQ r s + 1

/-! types -/
structure TQ where
  arr : List (List UInt8) → St → Tr × St
  app : List (List UInt8) → St → Tr × St
def starQ : List Tr → Tr
  | [x] => x
  | l => .mk [42] 0 l
def arrB (f : TQ) (vs : List (List UInt8)) (s : St) : Tr × St :=
  if (opnQ s).e = 0 then
    let p := f.app vs (opnQ s)
    let q := sepQ (f.app vs) [42] p.2.ts.length [p.1] p.2
    if isQ q.2 [45, 62] = true then
      let u := f.arr vs (tlQ q.2)
      (.mk [45, 62] 0 [starQ q.1, u.1], clsQ u.2)
    else (starQ q.1, clsQ q.2)
  else (Tr.z, clsQ (opnQ s))
def tnmQ : Nat → List Tr → St → List Tr × St
  | 0, l, s => (l, s)
  | k + 1, l, s => if kdQ s 1 = true then tnmQ k [.mk s.hd.s 0 l] (tlQ s) else (l, s)
def apbB (f : TQ) (vs : List (List UInt8)) (s : St) : List Tr × St :=
  if kdQ s 3 = true then ([.mk [] (hasQ vs s.hd.s) []], if hasQ vs s.hd.s = 0 then fauQ s 6 else tlQ s)
  else if kdQ s 1 = true then ([.mk s.hd.s 0 []], tlQ s)
  else
    let a := f.arr vs (musQ s [40])
    let b := sepQ (f.arr vs) [44] a.2.ts.length [a.1] a.2
    (b.1, if 1 < b.1.length ∧ (musQ b.2 [41]).e = 0 ∧ kdQ (musQ b.2 [41]) 1 = false then fauQ (musQ b.2 [41]) 4 else musQ b.2 [41])
def appB (f : TQ) (vs : List (List UInt8)) (s : St) : Tr × St :=
  if (opnQ s).e = 0 then
    let q := apbB f vs (opnQ s)
    let r := tnmQ q.2.ts.length q.1 q.2
    (r.1.headD Tr.z, clsQ r.2)
  else (Tr.z, clsQ (opnQ s))
def tq : Nat → TQ
  | 0 => ⟨fun _ s => (Tr.z, s), fun _ s => (Tr.z, s)⟩
  | n + 1 => ⟨arrB (tq n), appB (tq n)⟩

/-! patterns -/
structure PQ where
  pcons : St → Pt × St
  patom : St → Pt × St
def numV (s : List UInt8) : Int := ((numF 0 s).getD 0 : Nat)
def pbegQ (s : St) : Bool := kdQ s 1 || kdQ s 2 || kdQ s 4 || kdQ s 5 || isQ s [40] || isQ s [91] || isQ s [95] || isQ s [116, 114, 117, 101] || isQ s [102, 97, 108, 115, 101] || isQ s [45]
def ptupQ : List Pt → Pt
  | [x] => x
  | l => .mk 7 [] 0 l
def pthB (f : PQ) (s : St) : Pt × St :=
  if isQ s [45] = true then (.mk 3 [] (-numV (txtQ (tlQ s) 4).1) [], (txtQ (tlQ s) 4).2)
  else if kdQ s 4 = true then (.mk 3 [] (numV s.hd.s) [], tlQ s)
  else if kdQ s 5 = true then (.mk 4 s.hd.s 0 [], tlQ s)
  else if kdQ s 1 = true then (.mk 2 s.hd.s 0 [], tlQ s)
  else if kdQ s 2 = true then (.mk 10 s.hd.s 0 [], tlQ s)
  else if isQ s [95] = true then (.mk 1 [] 0 [], tlQ s)
  else if isQ s [116, 114, 117, 101] = true then (.mk 5 [] 1 [], tlQ s)
  else if isQ s [102, 97, 108, 115, 101] = true then (.mk 5 [] 0 [], tlQ s)
  else if isQ s [40] = true then
    if isQ (tlQ s) [41] = true then (.mk 6 [] 0 [], tlQ (tlQ s)) else
    let a := f.pcons (tlQ s)
    let b := sepQ f.pcons [44] a.2.ts.length [a.1] a.2
    (ptupQ b.1, musQ b.2 [41])
  else if isQ s [91] = true then
    let b := lstQ f.pcons ((tlQ s).ts.length + 2) [] (tlQ s)
    (b.1.foldr (fun a x => .mk 9 [] 0 [a, x]) (.mk 8 [] 0 []), b.2)
  else (Pt.z, fauQ s 4)
def patB (f : PQ) (s : St) : Pt × St :=
  if (opnQ s).e = 0 then
    let t := pthB f (opnQ s)
    (t.1, clsQ t.2)
  else (Pt.z, clsQ (opnQ s))
def pcoB (f : PQ) (s : St) : Pt × St :=
  if (opnQ s).e = 0 then
    let p : Pt × St := if kdQ (opnQ s) 2 = true then
        if pbegQ (tlQ (opnQ s)) = true then (.mk 10 (opnQ s).hd.s 0 [(f.patom (tlQ (opnQ s))).1], (f.patom (tlQ (opnQ s))).2)
        else (.mk 10 (opnQ s).hd.s 0 [], tlQ (opnQ s))
      else f.patom (opnQ s)
    if isQ p.2 [58, 58] = true then
      let q := f.pcons (tlQ p.2)
      (.mk 9 [] 0 [p.1, q.1], clsQ q.2)
    else (p.1, clsQ p.2)
  else (Pt.z, clsQ (opnQ s))
def pq : Nat → PQ
  | 0 => ⟨fun s => (Pt.z, s), fun s => (Pt.z, s)⟩
  | n + 1 => ⟨pcoB (pq n), patB (pq n)⟩
mutual
def namesP : Pt → List (List UInt8)
  | .mk k s _ ks => (if k = 2 then [s] else []) ++ namesPs ks
def namesPs : List Pt → List (List UInt8)
  | [] => []
  | p :: r => namesP p ++ namesPs r
end
def patQ (s : St) : Pt × St :=
  let p := (pq 51).pcons s
  (p.1, if (namesP p.1).Nodup then p.2 else fauQ p.2 7)

/-! expressions -/
structure EQ where
  expr : St → Ex × St
  one : St → Ex × St
  op : Nat → St → Ex × St
  pre : St → Ex × St
  atom : St → Ex × St
def funQ (l : List (List UInt8)) (e : Ex) : Ex := l.foldr (fun n e => .mk 10 n 0 false [] [e]) e
def binB (ex : St → Ex × St) (s : St) : Ex × St :=
  let t := txtQ (takQ s [114, 101, 99]) 1
  let nm := nmsQ t.2.ts.length [] t.2
  let q := ex (musQ nm.2 [61])
  (.mk 12 t.1 0 (isQ s [114, 101, 99]) [] [funQ nm.1 q.1], if q.2.e = 0 ∧ isQ s [114, 101, 99] = true ∧ (funQ nm.1 q.1).k ≠ 10 then fauQ q.2 4 else q.2)
def matL (ex : St → Ex × St) : Nat → List Pt → List Ex → St → (List Pt × List Ex) × St
  | 0, ps, ks, s => ((ps, ks), s)
  | k + 1, ps, ks, s => if s.e = 0 then
      let p := patQ s
      let e := ex (musQ p.2 [45, 62])
      if isQ e.2 [124] = true then matL ex k (ps ++ [p.1]) (ks ++ [e.1]) (tlQ e.2) else ((ps ++ [p.1], ks ++ [e.1]), e.2)
    else ((ps, ks), s)
def matB (ex : St → Ex × St) (s : St) : Ex × St :=
  let a := ex s
  let s1 := takQ (musQ a.2 [119, 105, 116, 104]) [124]
  let r := matL ex (s1.ts.length + 2) [] [a.1] s1
  (.mk 14 [] 0 false r.1.1 r.1.2, r.2)
def begQ (s : St) : Bool := kdQ s 1 || kdQ s 2 || kdQ s 4 || kdQ s 5 || isQ s [40] || isQ s [91] || isQ s [33] || isQ s [116, 114, 117, 101] || isQ s [102, 97, 108, 115, 101]
def etupQ : List Ex → Ex
  | [x] => x
  | l => .mk 7 [] 0 false [] l
def thgB (f : EQ) (s : St) : Ex × St :=
  if kdQ s 4 = true then (.mk 1 [] (numV s.hd.s) false [] [], tlQ s)
  else if kdQ s 5 = true then (.mk 2 s.hd.s 0 false [] [], tlQ s)
  else if kdQ s 1 = true then (.mk 5 s.hd.s 0 false [] [], tlQ s)
  else if kdQ s 2 = true then (.mk 6 s.hd.s 0 false [] [], tlQ s)
  else if isQ s [116, 114, 117, 101] = true then (.mk 3 [] 1 false [] [], tlQ s)
  else if isQ s [102, 97, 108, 115, 101] = true then (.mk 3 [] 0 false [] [], tlQ s)
  else if isQ s [33] = true then (.mk 19 [] 0 false [] [(f.atom (tlQ s)).1], (f.atom (tlQ s)).2)
  else if isQ s [40] = true then
    if isQ (tlQ s) [41] = true then (.mk 4 [] 0 false [] [], tlQ (tlQ s)) else
    let a := f.expr (tlQ s)
    let b := sepQ f.expr [44] a.2.ts.length [a.1] a.2
    (etupQ b.1, musQ b.2 [41])
  else if isQ s [91] = true then
    let b := lstQ f.one ((tlQ s).ts.length + 2) [] (tlQ s)
    (b.1.foldr (fun a x => .mk 9 [] 0 false [] [a, x]) (.mk 8 [] 0 false [] []), b.2)
  else (Ex.z, fauQ s 4)
def atmB (f : EQ) (s : St) : Ex × St :=
  if (opnQ s).e = 0 then
    let t := thgB f (opnQ s)
    (t.1, clsQ t.2)
  else (Ex.z, clsQ (opnQ s))
def aplQ (f : EQ) : Nat → Ex → St → Ex × St
  | 0, x, s => (x, s)
  | k + 1, x, s => if begQ s = true then aplQ f k (.mk 11 [] 0 false [] [x, (atmB f s).1]) (atmB f s).2 else (x, s)
def calB (f : EQ) (s : St) : Ex × St :=
  if kdQ s 2 = true then
    if begQ (tlQ s) = true then (.mk 6 s.hd.s 0 false [] [(atmB f (tlQ s)).1], (atmB f (tlQ s)).2)
    else (.mk 6 s.hd.s 0 false [] [], tlQ s)
  else
    let a := atmB f s
    aplQ f a.2.ts.length a.1 a.2
def preB (f : EQ) (s : St) : Ex × St :=
  if isQ s [45] = true then
    let x : Ex × St := if (opnQ (tlQ s)).e = 0 then f.pre (opnQ (tlQ s)) else (Ex.z, opnQ (tlQ s))
    (.mk 18 [] 0 false [] [x.1], clsQ x.2)
  else calB f s
def sgnL : Nat → List (List UInt8)
  | 0 => [[58, 61]]
  | 1 => [[124, 124]]
  | 2 => [[38, 38]]
  | 3 => [[61], [60, 62], [60, 61], [60]]
  | 4 => [[58, 58], [94]]
  | 5 => [[43], [45]]
  | _ => [[42], [47], [109, 111, 100]]
def sgnQ (s : St) (lv : Nat) : Option (List UInt8) := (sgnL lv).find? fun w => isQ s w
def rgtQ (lv : Nat) : Bool := decide (lv = 0) || decide (lv = 4)
def mkOp (w : List UInt8) (a b : Ex) : Ex := if w = [58, 58] then .mk 9 [] 0 false [] [a, b] else .mk 17 w 0 false [] [a, b]
def opR (f : EQ) (lv : Nat) (s : St) : Ex × St := if (opnQ s).e = 0 then f.op (if rgtQ lv = true then lv else lv + 1) (opnQ s) else (Ex.z, opnQ s)
def opL (f : EQ) (lv : Nat) : Nat → Ex → St → Ex × St
  | 0, a, s => (a, s)
  | k + 1, a, s => match sgnQ s lv with
    | none => (a, s)
    | some w => if rgtQ lv = true then (mkOp w a (opR f lv (tlQ s)).1, clsQ (opR f lv (tlQ s)).2)
      else opL f lv k (mkOp w a (opR f lv (tlQ s)).1) (clsQ (opR f lv (tlQ s)).2)
/-- operands and signs; so many levels are left -/
def opB (f : EQ) : Nat → St → Ex × St
  | 0, s => preB f s
  | j + 1, s => opL f (6 - j) (opB f j s).2.ts.length (opB f j s).1 (opB f j s).2
def addK (e : Ex) (y : Ex) : Ex := match e with
  | .mk k s n rc ps ks => .mk k s n rc ps (ks ++ [y])
def oneI (f : EQ) (s : St) : Ex × St :=
  if isQ s [108, 101, 116] = true then
    let b := binB f.expr (tlQ s)
    let y := f.expr (musQ b.2 [105, 110])
    (addK b.1 y.1, y.2)
  else if isQ s [102, 117, 110] = true then
    let t := txtQ (tlQ s) 1
    let nm := nmsQ t.2.ts.length [t.1] t.2
    let y := f.expr (musQ nm.2 [45, 62])
    (funQ nm.1 y.1, y.2)
  else if isQ s [105, 102] = true then
    let a := f.expr (tlQ s)
    let b := f.one (musQ a.2 [116, 104, 101, 110])
    let c := f.one (musQ b.2 [101, 108, 115, 101])
    (.mk 13 [] 0 false [] [a.1, b.1, c.1], c.2)
  else if isQ s [109, 97, 116, 99, 104] = true then matB f.expr (tlQ s)
  else if isQ s [116, 114, 121] = true then
    let a := f.expr (tlQ s)
    let t := txtQ (musQ a.2 [119, 105, 116, 104]) 1
    let b := f.expr (musQ t.2 [45, 62])
    (.mk 15 t.1 0 false [] [a.1, b.1], b.2)
  else f.op 0 s
def oneB (f : EQ) (s : St) : Ex × St :=
  if (opnQ s).e = 0 then
    let x := oneI f (opnQ s)
    (x.1, clsQ x.2)
  else (Ex.z, clsQ (opnQ s))
def expB (f : EQ) (s : St) : Ex × St :=
  if (opnQ s).e = 0 then
    let x := f.one (opnQ s)
    if isQ x.2 [59] = true then
      let y := f.expr (tlQ x.2)
      (.mk 16 [] 0 false [] [x.1, y.1], clsQ y.2)
    else (x.1, clsQ x.2)
  else (Ex.z, clsQ (opnQ s))
def eq9 : Nat → EQ
  | 0 => ⟨fun s => (Ex.z, s), fun s => (Ex.z, s), fun _ s => (Ex.z, s), fun s => (Ex.z, s), fun s => (Ex.z, s)⟩
  | n + 1 => ⟨expB (eq9 n), oneB (eq9 n), fun lv s => opB (eq9 n) (7 - lv) s, preB (eq9 n), atmB (eq9 n)⟩

/-! declarations -/
def varL (many : Bool) : Nat → List (List UInt8) → St → List (List UInt8) × St
  | 0, l, s => (l, s)
  | k + 1, l, s => if s.e = 0 then
      let t := txtQ s 3
      let s1 := if t.2.e = 0 ∧ 0 < hasQ l t.1 then fauQ t.2 7 else t.2
      if many = true ∧ isQ s1 [44] = true then varL many k (l ++ [t.1]) (tlQ s1) else (l ++ [t.1], s1)
    else (l, s)
def ctrL (vs : List (List UInt8)) : Nat → List Ct → St → List Ct × St
  | 0, l, s => (l, s)
  | k + 1, l, s => if s.e = 0 then
      let t := txtQ s 2
      let s1 := if t.2.e = 0 ∧ 0 < hasQ (l.map (·.s)) t.1 then fauQ t.2 7 else t.2
      let c : Ct × St := if isQ s1 [111, 102] = true then (⟨t.1, true, ((tq 51).arr vs (tlQ s1)).1⟩, ((tq 51).arr vs (tlQ s1)).2) else (⟨t.1, false, Tr.z⟩, s1)
      if isQ c.2 [124] = true then ctrL vs k (l ++ [c.1]) (tlQ c.2) else (l ++ [c.1], c.2)
    else (l, s)
def typQ (s : St) : Dc × St :=
  let many := isQ s [40]
  let s0 := takQ s [40]
  let v : List (List UInt8) × St := if many = true ∨ kdQ s0 3 = true then
      ((varL many (s0.ts.length + 2) [] s0).1, if many = true then musQ (varL many (s0.ts.length + 2) [] s0).2 [41] else (varL many (s0.ts.length + 2) [] s0).2)
    else ([], s0)
  let t := txtQ v.2 1
  let s2 := takQ (musQ t.2 [61]) [124]
  let c := ctrL v.1 (s2.ts.length + 2) [] s2
  (⟨3, t.1, false, Ex.z, v.1.length, c.1⟩, c.2)
def Ex.hk : Ex → Ex
  | .mk _ _ _ _ _ (x :: _) => x
  | _ => Ex.z
def Ex.tx : Ex → List UInt8
  | .mk _ s _ _ _ _ => s
def Ex.rec9 : Ex → Bool
  | .mk _ _ _ r _ _ => r
def Dc.z : Dc := ⟨0, [], false, Ex.z, 0, []⟩
def dclQ (s : St) : Dc × St :=
  if isQ s [116, 121, 112, 101] = true then typQ (tlQ s)
  else if isQ s [108, 101, 116] = true then
    let x := binB (eq9 51).expr (tlQ s)
    if x.2.e = 0 then
      if isQ x.2 [105, 110] = true then
        let y := (eq9 51).expr s
        (⟨1, [], false, y.1, 0, []⟩, y.2)
      else (⟨2, x.1.tx, x.1.rec9, x.1.hk, 0, []⟩, x.2)
    else (Dc.z, x.2)
  else
    let y := (eq9 51).expr s
    (⟨1, [], false, y.1, 0, []⟩, y.2)
def celL : Nat → List Dc → St → Except Nat (List Dc)
  | 0, l, s => .error s.e
  | k + 1, l, s => if s.e = 0 then
      if isQ s [59, 59] = true then celL k l (tlQ s)
      else if kdQ s 0 = true then .ok l
      else
        let d := dclQ s
        celL k (l ++ [d.1]) (if d.2.e = 0 ∧ kdQ d.2 0 = false ∧ isQ d.2 [59, 59] = false then fauQ d.2 4 else d.2)
    else .error s.e
def celF (s : List UInt8) : Except Nat (List Dc) := match (if 2000 < s.length then .error 2 else lexF s) with
  | .error e => .error e
  | .ok ts => celL (ts.length + 2) [] ⟨ts, 0, 0⟩
end Go.Proofs.YtomkdhkkggbioaaGreatDoor

/-
  Names of variables; numbers in digits, the reference's.
-/
namespace Go.Proofs.YtomkdhkkggbioaaGreatDoor
open Go
set_option linter.unusedSimpArgs false
set_option linter.unusedVariables false

theorem decD_len20 {u : Nat} (h : u < 100000000000000000000) : (Lib.decDigits u).length ≤ 20 := by
  rw [Lib.decDigits_length]
  rcases Nat.lt_or_ge 20 (Lib.nDigits u) with h9 | h9
  · exfalso
    have h8 : ∀ (k v : Nat), k < Lib.nDigits v → 10 ^ k ≤ v ∨ k = 0 := by
      intro k
      induction k with
      | zero => intro v _; exact .inr rfl
      | succ k ih =>
        intro v hv
        by_cases h10 : v < 10
        · rw [Lib.nDigits_small h10] at hv; omega
        · rw [Lib.nDigits_big h10] at hv
          rcases ih (v / 10) (by omega) with h7 | h7
          · left; rw [Nat.pow_succ]; omega
          · subst h7; left; rw [Nat.pow_succ, Nat.pow_zero]; omega
    rcases h8 20 u h9 with h7 | h7
    · rw [show (10 : Nat) ^ 20 = 100000000000000000000 by decide] at h7; omega
    · cases h7
  · exact h9
theorem itoa_len {n : Int} (hn : inK .i64 n) : (Lib.itoa n).length ≤ 21 := by
  simp only [inK] at hn
  unfold Lib.itoa
  split
  · rw [List.length_cons]
    have := decD_len20 (u := n.natAbs) (by omega)
    omega
  · have := decD_len20 (u := n.toNat) (by omega)
    omega
theorem Var_ok {w : World} {n : Int} (hn : inK .i64 n) (ht : Pow10 w) : Ret Tryz.prog 19 #[.int .i64 n] w fun v w' => v = Sv (varS n) ∧ Upd No w w' := by
  have hl := itoa_len hn
  have hn9 := hn
  simp only [inK] at hn9
  refine enterRet (vs := [_]) (N := 18) Tryz.func19 rfl rfl rfl ?_
  have hU := Upd.refl No w
  refine WC.keep [(0, _)] ⟨rfl, trivial⟩ (WC.seq (WC.region (WL.val rfl rfl rfl rfl (r_assign rfl ev_c) ?_)))
  refine WL.nil (WX.keep [(0, _)] ⟨rfl, trivial⟩ (WX.next (WC.seq (WC.seq (WC.region (WL.val rfl rfl rfl rfl (r_move rfl (ev_t rfl)) ?_))))))
  refine WL.val rfl rfl rfl rfl (r_geq rfl (ev_t rfl) ev_c) ?_
  refine WL.val rfl rfl rfl rfl (r_move rfl (ev_t rfl)) ?_
  refine WL.cases 5 rfl (fun hb1_2 => ?_) (fun hb1_2 => ?_)
  · try simp only [cS, ne_eq, Decidable.not_not] at hb1_2
    refine WL.val rfl rfl rfl rfl (r_move rfl (ev_t rfl)) ?_
    refine WL.val rfl rfl rfl rfl (r_leq rfl (ev_t rfl) ev_c) ?_
    refine WL.val rfl rfl rfl rfl (r_pickT rfl (ev_t rfl) (ev_t rfl)) ?_
    refine WL.nil (WX.keep [(0, _), (8, _)] ⟨rfl, rfl, trivial⟩ (WX.next (WC.cond rfl (ev_t rfl) (fun hc1 => ?_) (fun hc1 => ?_))))
    · try simp only [cS, ne_eq, Decidable.not_not] at hc1
      refine WC.seq (WC.region (WL.val rfl rfl rfl rfl (r_move rfl (ev_t rfl)) ?_))
      refine WL.val rfl rfl rfl rfl (r_addN rfl ev_c (ev_t rfl) (by simp only [inK]; omega)) ?_
      refine WL.val rfl rfl rfl rfl (r_subN rfl (ev_t rfl) ev_c (by simp only [inK]; omega)) ?_
      refine WL.val rfl rfl rfl rfl (r_convN rfl (ev_t rfl) some_3 int_21 (by simp only [inK]; omega)) ?_
      rw [show (97 : Int) + n - 1 = ((96 + n.toNat : Nat) : Int) by omega]
      refine WL.val rfl rfl rfl rfl (r_runeStr rfl (ev_t rfl) int_21 str_9 (by omega)) ?_
      refine WL.val rfl rfl rfl rfl (r_addStrL (s := [39]) (s' := [UInt8.ofNat (96 + n.toNat)]) rfl ev_c (ev_t rfl) (by simp)) ?_
      refine WL.val rfl rfl rfl rfl (r_assign rfl (ev_t rfl)) ?_
      refine WL.nil (WX.keep [(2, _)] ⟨rfl, trivial⟩ (WX.next (WC.ret (WX.thenRet (WX.retE1 rfl rfl ?_)))))
      exact ⟨by unfold varS Sv; rw [if_pos (by omega)]; rfl, hU⟩
    · try simp only [cS, ne_eq, Decidable.not_not] at hc1
      refine WC.skip (WX.next (WC.seq (WC.region (WL.val rfl rfl rfl rfl (r_move rfl (ev_t rfl)) ?_))))
      refine WL.cons (SO.call (itoa_ok hn (ht.upd hU (fun k _ h => h))) rfl body_38 ⟨(ev_t rfl), trivial⟩ rfl rfl rfl rfl ?_)
      rintro v9 w1 ⟨rfl, hu1⟩
      have hs1 := hu1.size
      replace hU := hU.transA hu1
      refine WL.val rfl rfl rfl rfl (r_addStrL (s := [39, 116]) (s' := Lib.itoa n) rfl ev_c (ev_t rfl) (by simp only [List.length_cons, List.length_nil]; omega)) ?_
      refine WL.val rfl rfl rfl rfl (r_assign rfl (ev_t rfl)) ?_
      refine WL.nil (WX.keep [(2, _)] ⟨rfl, trivial⟩ (WX.next (WC.ret (WX.retE1 rfl rfl ?_))))
      exact ⟨by unfold varS Sv; rw [if_neg (by omega)]; rfl, hU⟩
  · try simp only [cS, ne_eq, Decidable.not_not] at hb1_2
    refine WL.skip rfl rfl rfl (WL.skip rfl rfl rfl (WL.val rfl rfl rfl rfl (r_pickF rfl (ev_t rfl) ev_c) ?_))
    refine WL.nil (WX.keep [(0, _), (8, _)] ⟨rfl, rfl, trivial⟩ (WX.next (WC.cond_false rfl (ev_t rfl) ?_)))
    refine WC.skip (WX.next (WC.seq (WC.region (WL.val rfl rfl rfl rfl (r_move rfl (ev_t rfl)) ?_))))
    refine WL.cons (SO.call (itoa_ok hn (ht.upd hU (fun k _ h => h))) rfl body_38 ⟨(ev_t rfl), trivial⟩ rfl rfl rfl rfl ?_)
    rintro v9 w2 ⟨rfl, hu2⟩
    have hs2 := hu2.size
    replace hU := hU.transA hu2
    refine WL.val rfl rfl rfl rfl (r_addStrL (s := [39, 116]) (s' := Lib.itoa n) rfl ev_c (ev_t rfl) (by simp only [List.length_cons, List.length_nil]; omega)) ?_
    refine WL.val rfl rfl rfl rfl (r_assign rfl (ev_t rfl)) ?_
    refine WL.nil (WX.keep [(2, _)] ⟨rfl, trivial⟩ (WX.next (WC.ret (WX.retE1 rfl rfl ?_))))
    exact ⟨by unfold varS Sv; rw [if_neg (by omega)]; rfl, hU⟩

end Go.Proofs.YtomkdhkkggbioaaGreatDoor

/-
  The reference's lexer: signs, words, numbers.
-/
namespace Go.Proofs.YtomkdhkkggbioaaGreatDoor
open Go
set_option linter.unusedSimpArgs false
set_option linter.unusedVariables false

def Bv (c : UInt8) : Value := .int .u8 (c.toNat : Int)
theorem lsmall_ok {w : World} {c : UInt8} : Ret Tryz.prog 75 #[Bv c] w fun v w' => v = .bool (smB c) ∧ Upd No w w' := by
  have hc := c.toNat_lt
  refine enterRet (vs := [_]) (N := 9) Tryz.func75 rfl rfl rfl ?_
  have hU := Upd.refl No w
  refine WC.keep [(0, _)] ⟨rfl, trivial⟩ (WC.seq (WC.region (WL.val rfl rfl rfl rfl (r_assign rfl ev_c) ?_)))
  refine WL.nil (WX.keep [(0, _)] ⟨rfl, trivial⟩ (WX.next (WC.seq (WC.region (WL.val rfl rfl rfl rfl (r_move rfl (ev_t rfl)) ?_)))))
  refine WL.val rfl rfl rfl rfl (r_geq rfl (ev_t rfl) ev_c) ?_
  refine WL.val rfl rfl rfl rfl (r_move rfl (ev_t rfl)) ?_
  refine WL.cases 5 rfl (fun hb1_2 => ?_) (fun hb1_2 => ?_)
  · try simp only [cS, ne_eq, Decidable.not_not] at hb1_2
    refine WL.val rfl rfl rfl rfl (r_move rfl (ev_t rfl)) ?_
    refine WL.val rfl rfl rfl rfl (r_leq rfl (ev_t rfl) ev_c) ?_
    refine WL.val rfl rfl rfl rfl (r_pickT rfl (ev_t rfl) (ev_t rfl)) ?_
    refine WL.val rfl rfl rfl rfl (r_assign rfl (ev_t rfl)) ?_
    refine WL.nil (WX.keep [(2, _)] ⟨rfl, trivial⟩ (WX.next (WC.ret (WX.retE1 rfl rfl ?_))))
    refine ⟨?_, hU⟩
    congr 1
    rw [Bool.eq_iff_iff]
    simp [smB]
    omega
  · try simp only [cS, ne_eq, Decidable.not_not] at hb1_2
    refine WL.skip rfl rfl rfl (WL.skip rfl rfl rfl (WL.val rfl rfl rfl rfl (r_pickF rfl (ev_t rfl) ev_c) ?_))
    refine WL.val rfl rfl rfl rfl (r_assign rfl (ev_t rfl)) ?_
    refine WL.nil (WX.keep [(2, _)] ⟨rfl, trivial⟩ (WX.next (WC.ret (WX.retE1 rfl rfl ?_))))
    refine ⟨?_, hU⟩
    congr 1
    rw [Bool.eq_iff_iff]
    simp [smB]
    omega
theorem lgreat_ok {w : World} {c : UInt8} : Ret Tryz.prog 76 #[Bv c] w fun v w' => v = .bool (grB c) ∧ Upd No w w' := by
  have hc := c.toNat_lt
  refine enterRet (vs := [_]) (N := 9) Tryz.func76 rfl rfl rfl ?_
  have hU := Upd.refl No w
  refine WC.keep [(0, _)] ⟨rfl, trivial⟩ (WC.seq (WC.region (WL.val rfl rfl rfl rfl (r_assign rfl ev_c) ?_)))
  refine WL.nil (WX.keep [(0, _)] ⟨rfl, trivial⟩ (WX.next (WC.seq (WC.region (WL.val rfl rfl rfl rfl (r_move rfl (ev_t rfl)) ?_)))))
  refine WL.val rfl rfl rfl rfl (r_geq rfl (ev_t rfl) ev_c) ?_
  refine WL.val rfl rfl rfl rfl (r_move rfl (ev_t rfl)) ?_
  refine WL.cases 5 rfl (fun hb1_2 => ?_) (fun hb1_2 => ?_)
  · try simp only [cS, ne_eq, Decidable.not_not] at hb1_2
    refine WL.val rfl rfl rfl rfl (r_move rfl (ev_t rfl)) ?_
    refine WL.val rfl rfl rfl rfl (r_leq rfl (ev_t rfl) ev_c) ?_
    refine WL.val rfl rfl rfl rfl (r_pickT rfl (ev_t rfl) (ev_t rfl)) ?_
    refine WL.val rfl rfl rfl rfl (r_assign rfl (ev_t rfl)) ?_
    refine WL.nil (WX.keep [(2, _)] ⟨rfl, trivial⟩ (WX.next (WC.ret (WX.retE1 rfl rfl ?_))))
    refine ⟨?_, hU⟩
    congr 1
    rw [Bool.eq_iff_iff]
    simp [grB]
    omega
  · try simp only [cS, ne_eq, Decidable.not_not] at hb1_2
    refine WL.skip rfl rfl rfl (WL.skip rfl rfl rfl (WL.val rfl rfl rfl rfl (r_pickF rfl (ev_t rfl) ev_c) ?_))
    refine WL.val rfl rfl rfl rfl (r_assign rfl (ev_t rfl)) ?_
    refine WL.nil (WX.keep [(2, _)] ⟨rfl, trivial⟩ (WX.next (WC.ret (WX.retE1 rfl rfl ?_))))
    refine ⟨?_, hU⟩
    congr 1
    rw [Bool.eq_iff_iff]
    simp [grB]
    omega
theorem ldigit_ok {w : World} {c : UInt8} : Ret Tryz.prog 79 #[Bv c] w fun v w' => v = .bool (dgB c) ∧ Upd No w w' := by
  have hc := c.toNat_lt
  refine enterRet (vs := [_]) (N := 9) Tryz.func79 rfl rfl rfl ?_
  have hU := Upd.refl No w
  refine WC.keep [(0, _)] ⟨rfl, trivial⟩ (WC.seq (WC.region (WL.val rfl rfl rfl rfl (r_assign rfl ev_c) ?_)))
  refine WL.nil (WX.keep [(0, _)] ⟨rfl, trivial⟩ (WX.next (WC.seq (WC.region (WL.val rfl rfl rfl rfl (r_move rfl (ev_t rfl)) ?_)))))
  refine WL.val rfl rfl rfl rfl (r_geq rfl (ev_t rfl) ev_c) ?_
  refine WL.val rfl rfl rfl rfl (r_move rfl (ev_t rfl)) ?_
  refine WL.cases 5 rfl (fun hb1_2 => ?_) (fun hb1_2 => ?_)
  · try simp only [cS, ne_eq, Decidable.not_not] at hb1_2
    refine WL.val rfl rfl rfl rfl (r_move rfl (ev_t rfl)) ?_
    refine WL.val rfl rfl rfl rfl (r_leq rfl (ev_t rfl) ev_c) ?_
    refine WL.val rfl rfl rfl rfl (r_pickT rfl (ev_t rfl) (ev_t rfl)) ?_
    refine WL.val rfl rfl rfl rfl (r_assign rfl (ev_t rfl)) ?_
    refine WL.nil (WX.keep [(2, _)] ⟨rfl, trivial⟩ (WX.next (WC.ret (WX.retE1 rfl rfl ?_))))
    refine ⟨?_, hU⟩
    congr 1
    rw [Bool.eq_iff_iff]
    simp [dgB]
    omega
  · try simp only [cS, ne_eq, Decidable.not_not] at hb1_2
    refine WL.skip rfl rfl rfl (WL.skip rfl rfl rfl (WL.val rfl rfl rfl rfl (r_pickF rfl (ev_t rfl) ev_c) ?_))
    refine WL.val rfl rfl rfl rfl (r_assign rfl (ev_t rfl)) ?_
    refine WL.nil (WX.keep [(2, _)] ⟨rfl, trivial⟩ (WX.next (WC.ret (WX.retE1 rfl rfl ?_))))
    refine ⟨?_, hU⟩
    congr 1
    rw [Bool.eq_iff_iff]
    simp [dgB]
    omega
theorem lin_ok {w : World} {c : UInt8} : Ret Tryz.prog 77 #[Bv c] w fun v w' => v = .bool (inB c) ∧ Upd No w w' := by
  have hc := c.toNat_lt
  refine enterRet (vs := [_]) (N := 21) Tryz.func77 rfl rfl rfl ?_
  have hU := Upd.refl No w
  refine WC.keep [(0, _)] ⟨rfl, trivial⟩ (WC.seq (WC.region (WL.val rfl rfl rfl rfl (r_assign rfl ev_c) ?_)))
  refine WL.nil (WX.keep [(0, _)] ⟨rfl, trivial⟩ (WX.next (WC.seq (WC.region (WL.val rfl rfl rfl rfl (r_move rfl (ev_t rfl)) ?_)))))
  refine WL.cons (SO.call (lsmall_ok) rfl body_75 ⟨(ev_t rfl), trivial⟩ rfl rfl rfl rfl ?_)
  rintro v9 w1 ⟨rfl, hu1⟩
  have hs1 := hu1.size
  replace hU := hU.transA hu1
  refine WL.val rfl rfl rfl rfl (r_move rfl (ev_t rfl)) ?_
  refine WL.cases 5 rfl (fun hb1_2 => ?_) (fun hb1_2 => ?_)
  · refine WL.skip rfl rfl rfl (WL.skip rfl rfl rfl (WL.val rfl rfl rfl rfl (r_pickT rfl (ev_t rfl) ev_c) ?_))
    refine WL.val rfl rfl rfl rfl (r_move rfl (ev_t rfl)) ?_
    refine WL.skip rfl rfl rfl (WL.skip rfl rfl rfl (WL.val rfl rfl rfl rfl (r_pickT rfl (ev_t rfl) ev_c) ?_))
    refine WL.val rfl rfl rfl rfl (r_move rfl (ev_t rfl)) ?_
    refine WL.skip rfl rfl rfl (WL.skip rfl rfl rfl (WL.val rfl rfl rfl rfl (r_pickT rfl (ev_t rfl) ev_c) ?_))
    refine WL.val rfl rfl rfl rfl (r_move rfl (ev_t rfl)) ?_
    refine WL.skip rfl rfl rfl (WL.skip rfl rfl rfl (WL.val rfl rfl rfl rfl (r_pickT rfl (ev_t rfl) ev_c) ?_))
    refine WL.val rfl rfl rfl rfl (r_assign rfl (ev_t rfl)) ?_
    refine WL.nil (WX.keep [(2, _)] ⟨rfl, trivial⟩ (WX.next (WC.ret (WX.retE1 rfl rfl ?_))))
    refine ⟨?_, hU⟩
    congr 1
    rw [Bool.eq_iff_iff]
    simp_all [inB]
    try omega
  · refine WL.val rfl rfl rfl rfl (r_move rfl (ev_t rfl)) ?_
    refine WL.cons (SO.call (lgreat_ok) rfl body_76 ⟨(ev_t rfl), trivial⟩ rfl rfl rfl rfl ?_)
    rintro v9 w2 ⟨rfl, hu2⟩
    have hs2 := hu2.size
    replace hU := hU.transA hu2
    refine WL.val rfl rfl rfl rfl (r_pickF rfl (ev_t rfl) (ev_t rfl)) ?_
    refine WL.val rfl rfl rfl rfl (r_move rfl (ev_t rfl)) ?_
    refine WL.cases 9 rfl (fun hb1_6 => ?_) (fun hb1_6 => ?_)
    · refine WL.skip rfl rfl rfl (WL.skip rfl rfl rfl (WL.val rfl rfl rfl rfl (r_pickT rfl (ev_t rfl) ev_c) ?_))
      refine WL.val rfl rfl rfl rfl (r_move rfl (ev_t rfl)) ?_
      refine WL.skip rfl rfl rfl (WL.skip rfl rfl rfl (WL.val rfl rfl rfl rfl (r_pickT rfl (ev_t rfl) ev_c) ?_))
      refine WL.val rfl rfl rfl rfl (r_move rfl (ev_t rfl)) ?_
      refine WL.skip rfl rfl rfl (WL.skip rfl rfl rfl (WL.val rfl rfl rfl rfl (r_pickT rfl (ev_t rfl) ev_c) ?_))
      refine WL.val rfl rfl rfl rfl (r_assign rfl (ev_t rfl)) ?_
      refine WL.nil (WX.keep [(2, _)] ⟨rfl, trivial⟩ (WX.next (WC.ret (WX.retE1 rfl rfl ?_))))
      refine ⟨?_, hU⟩
      congr 1
      rw [Bool.eq_iff_iff]
      simp_all [inB]
      try omega
    · refine WL.val rfl rfl rfl rfl (r_move rfl (ev_t rfl)) ?_
      refine WL.cons (SO.call (ldigit_ok) rfl body_79 ⟨(ev_t rfl), trivial⟩ rfl rfl rfl rfl ?_)
      rintro v9 w3 ⟨rfl, hu3⟩
      have hs3 := hu3.size
      replace hU := hU.transA hu3
      refine WL.val rfl rfl rfl rfl (r_pickF rfl (ev_t rfl) (ev_t rfl)) ?_
      refine WL.val rfl rfl rfl rfl (r_move rfl (ev_t rfl)) ?_
      refine WL.cases 13 rfl (fun hb1_10 => ?_) (fun hb1_10 => ?_)
      · refine WL.skip rfl rfl rfl (WL.skip rfl rfl rfl (WL.val rfl rfl rfl rfl (r_pickT rfl (ev_t rfl) ev_c) ?_))
        refine WL.val rfl rfl rfl rfl (r_move rfl (ev_t rfl)) ?_
        refine WL.skip rfl rfl rfl (WL.skip rfl rfl rfl (WL.val rfl rfl rfl rfl (r_pickT rfl (ev_t rfl) ev_c) ?_))
        refine WL.val rfl rfl rfl rfl (r_assign rfl (ev_t rfl)) ?_
        refine WL.nil (WX.keep [(2, _)] ⟨rfl, trivial⟩ (WX.next (WC.ret (WX.retE1 rfl rfl ?_))))
        refine ⟨?_, hU⟩
        congr 1
        rw [Bool.eq_iff_iff]
        simp_all [inB]
        try omega
      · refine WL.val rfl rfl rfl rfl (r_move rfl (ev_t rfl)) ?_
        refine WL.val rfl rfl rfl rfl (r_eql rfl (ev_t rfl) ev_c) ?_
        refine WL.val rfl rfl rfl rfl (r_pickF rfl (ev_t rfl) (ev_t rfl)) ?_
        refine WL.val rfl rfl rfl rfl (r_move rfl (ev_t rfl)) ?_
        refine WL.cases 17 rfl (fun hb1_14 => ?_) (fun hb1_14 => ?_)
        · try simp only [cS, ne_eq, Decidable.not_not] at hb1_14
          refine WL.skip rfl rfl rfl (WL.skip rfl rfl rfl (WL.val rfl rfl rfl rfl (r_pickT rfl (ev_t rfl) ev_c) ?_))
          refine WL.val rfl rfl rfl rfl (r_assign rfl (ev_t rfl)) ?_
          refine WL.nil (WX.keep [(2, _)] ⟨rfl, trivial⟩ (WX.next (WC.ret (WX.retE1 rfl rfl ?_))))
          refine ⟨?_, hU⟩
          congr 1
          rw [Bool.eq_iff_iff]
          simp_all [inB]
          try omega
        · try simp only [cS, ne_eq, Decidable.not_not] at hb1_14
          refine WL.val rfl rfl rfl rfl (r_move rfl (ev_t rfl)) ?_
          refine WL.val rfl rfl rfl rfl (r_eql rfl (ev_t rfl) ev_c) ?_
          refine WL.val rfl rfl rfl rfl (r_pickF rfl (ev_t rfl) (ev_t rfl)) ?_
          refine WL.val rfl rfl rfl rfl (r_assign rfl (ev_t rfl)) ?_
          refine WL.nil (WX.keep [(2, _)] ⟨rfl, trivial⟩ (WX.next (WC.ret (WX.retE1 rfl rfl ?_))))
          refine ⟨?_, hU⟩
          congr 1
          rw [Bool.eq_iff_iff]
          simp_all [inB]
          try omega
theorem lat_ok {w : World} {s t : List UInt8} {i : Nat} (hi : i ≤ s.length) (hs : s.length ≤ 1000000) (ht : t.length ≤ 1000) : Ret Tryz.prog 74 #[Sv s, .int .i64 (i : Int), Sv t] w fun v w' => v = .bool (atF s i t) ∧ Upd No w w' := by
  refine enterRet (vs := [_, _, _]) (N := 25) Tryz.func74 rfl rfl rfl ?_
  have hU := Upd.refl No w
  refine WC.keep [(0, _), (1, _), (2, _)] ⟨rfl, rfl, rfl, trivial⟩ (WC.seq (WC.region (WL.val rfl rfl rfl rfl (r_assign rfl ev_c) ?_)))
  refine WL.nil (WX.keep [(0, _), (1, _), (2, _)] ⟨rfl, rfl, rfl, trivial⟩ (WX.next (WC.seq (WC.region (WL.val rfl rfl rfl rfl (r_move rfl (ev_t rfl)) ?_)))))
  refine WL.val rfl rfl rfl rfl (r_lenStrL rfl (ev_t rfl) str_9) ?_
  refine WL.val rfl rfl rfl rfl (r_move rfl (ev_t rfl)) ?_
  refine WL.val rfl rfl rfl rfl (r_subN rfl (ev_t rfl) (ev_t rfl) (by simp only [inK]; omega)) ?_
  refine WL.val rfl rfl rfl rfl (r_move rfl (ev_t rfl)) ?_
  refine WL.val rfl rfl rfl rfl (r_lenStrL rfl (ev_t rfl) str_9) ?_
  refine WL.val rfl rfl rfl rfl (r_geq rfl (ev_t rfl) (ev_t rfl)) ?_
  refine WL.val rfl rfl rfl rfl (r_move rfl (ev_t rfl)) ?_
  refine WL.cases 14 rfl (fun hb1_7 => ?_) (fun hb1_7 => ?_)
  · try simp only [cS, ne_eq, Decidable.not_not] at hb1_7
    refine WL.val rfl rfl rfl rfl (r_move rfl (ev_t rfl)) ?_
    refine WL.val rfl rfl rfl rfl (r_move rfl (ev_t rfl)) ?_
    refine WL.val rfl rfl rfl rfl (r_move rfl (ev_t rfl)) ?_
    refine WL.val rfl rfl rfl rfl (r_move rfl (ev_t rfl)) ?_
    refine WL.val rfl rfl rfl rfl (r_lenStrL rfl (ev_t rfl) str_9) ?_
    refine WL.val rfl rfl rfl rfl (r_addN rfl (ev_t rfl) (ev_t rfl) (by simp only [inK]; omega)) ?_
    refine WL.val rfl rfl rfl rfl (r_sliceStr (l := i) (h := i + t.length) rfl (ev_t rfl) str_9 (bnd_some (ev_t rfl) (by omega)) (bnd_some (ev_t rfl) (by omega)) (by omega) (by omega)) ?_
    refine WL.val rfl rfl rfl rfl (r_move rfl (ev_t rfl)) ?_
    refine WL.val rfl rfl rfl rfl (r_eqlStrL rfl (ev_t rfl) (ev_t rfl)) ?_
    refine WL.val rfl rfl rfl rfl (r_pickT rfl (ev_t rfl) (ev_t rfl)) ?_
    refine WL.val rfl rfl rfl rfl (r_assign rfl (ev_t rfl)) ?_
    refine WL.nil (WX.keep [(6, _)] ⟨rfl, trivial⟩ (WX.next (WC.ret (WX.retE1 rfl rfl ?_))))
    refine ⟨?_, hU⟩
    congr 1
    rw [Bool.eq_iff_iff]
    simp only [atF, decide_eq_true_eq]
    first
      | (rw [show i + t.length - i = t.length by omega])
      | (simp; intro h; have h9 := congrArg List.length h; simp at h9; omega)
      | fail
  · try simp only [cS, ne_eq, Decidable.not_not] at hb1_7
    refine WL.skip rfl rfl rfl (WL.skip rfl rfl rfl (WL.skip rfl rfl rfl (WL.skip rfl rfl rfl (WL.skip rfl rfl rfl (WL.skip rfl rfl rfl (WL.skip rfl rfl rfl (WL.skip rfl rfl rfl (WL.skip rfl rfl rfl (WL.val rfl rfl rfl rfl (r_pickF rfl (ev_t rfl) ev_c) ?_)))))))))
    refine WL.val rfl rfl rfl rfl (r_assign rfl (ev_t rfl)) ?_
    refine WL.nil (WX.keep [(6, _)] ⟨rfl, trivial⟩ (WX.next (WC.ret (WX.retE1 rfl rfl ?_))))
    refine ⟨?_, hU⟩
    congr 1
    rw [Bool.eq_iff_iff]
    simp only [atF, decide_eq_true_eq]
    first
      | (rw [show i + t.length - i = t.length by omega])
      | (simp; intro h; have h9 := congrArg List.length h; simp at h9; omega)
      | fail
end Go.Proofs.YtomkdhkkggbioaaGreatDoor
