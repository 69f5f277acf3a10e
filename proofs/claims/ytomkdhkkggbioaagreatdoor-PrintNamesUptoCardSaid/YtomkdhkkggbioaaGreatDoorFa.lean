/-
  A calculus of walks over environments of live temporaries: judgements, steps, regions in whatever order. Own work; no program in sight.
-/
import Derived.Calls
import Derived.Tactics
import Derived.OrdersHeld
import Derived.LoopTactic
import Derived.Laws.Entries
namespace Go.Proofs.YtomkdhkkggbioaaGreatDoor
open Go
set_option linter.unusedSimpArgs false
set_option linter.unusedVariables false

/-- The live temporaries. -/
abbrev Env := List (Nat × Value)

def Env.get : Env → Nat → Option Value
  | [], _ => none
  | (k, v) :: E, t => match Nat.beq k t with
    | true => some v
    | false => Env.get E t

def Env.ev (E : Env) : Operand → Value
  | .tmp t => match Env.get E t with
    | some v => v
    | none => undef
  | .const v => v
  | .global g => .pointer (some ⟨g, 0, none⟩)
  | .func f => .func (.func f) #[] #[]

def Env.has (E : Env) : Operand → Bool
  | .tmp t => (Env.get E t).isSome
  | _ => true

/-- Every entry of F stands in E. -/
def Env.sub (E : Env) : Env → Prop
  | [] => True
  | (k, v) :: F => Env.get E k = some v ∧ Env.sub E F

theorem Env.get_of_sub {E : Env} : ∀ {F : Env}, Env.sub E F → ∀ {t v}, Env.get F t = some v → Env.get E t = some v
  | [], _, _, _, h => by simp [Env.get] at h
  | (k, u) :: F, hs, t, v, h => by
    simp only [Env.get] at h
    split at h
    · rename_i hb
      have := Nat.eq_of_beq_eq_true hb
      subst this
      injection h with h
      subst h
      exact hs.1
    · exact Env.get_of_sub hs.2 h

structure Sat (N : Nat) (E : Env) (a : Act) : Prop where
  size : a.tmps.size = N
  defers : a.defers = []
  vals : ∀ t v, Env.get E t = some v → a.tmps[t]? = some v

theorem Sat.sub {N : Nat} {E F : Env} {a : Act} (h : Sat N E a) (hs : Env.sub E F) : Sat N F a :=
  ⟨h.size, h.defers, fun t v ht => h.vals t v (Env.get_of_sub hs ht)⟩

theorem Sat.eval {N : Nat} {E : Env} {a : Act} (h : Sat N E a) {x : Operand} (hx : E.has x = true) : a.eval x = E.ev x := by
  cases x with
  | tmp t =>
    simp only [Env.has] at hx
    cases hg : Env.get E t with
    | none => rw [hg] at hx; cases hx
    | some v =>
      have := h.vals t v hg
      simp only [Act.eval, Env.ev, hg, Array.getD_eq_getD_getElem?, this, Option.getD_some]
  | _ => rfl

theorem Sat.put {N : Nat} {E : Env} {a : Act} (h : Sat N E a) {d : Nat} (hd : d < N) (v : Value) : Sat N ((d, v) :: E) (a.put (some d) v) := by
  refine ⟨by simp [Act.put, h.size], by simp [Act.put, h.defers], fun t u ht => ?_⟩
  simp only [Env.get] at ht
  split at ht
  · rename_i hb
    have := Nat.eq_of_beq_eq_true hb
    subst this
    injection ht with ht
    subst ht
    simp [Act.put, h.size, hd]
  · rename_i hb
    have hne : d ≠ t := fun e => by subst e; simp at hb
    simp only [Act.put]
    rw [Array.getElem?_setIfInBounds_ne hne]
    exact h.vals t u ht

def notSelect (o : Op) : Bool := match o with | .select .. => false | _ => true

def opsL : Op → List Operand
  | .call c => (match c.callee with | .value f => [f] | .invoke r _ => [r] | .builtin _ => []) ++ c.args.toList
  | .makeFunc _ f c => f.toList ++ c.toList
  | .slice _ x l h m => x :: (l.toList ++ h.toList ++ m.toList)
  | .makeMap _ r => r.toList
  | .build _ ps => ps.toList.map (·.2)
  | .buildSlice _ _ ps => ps.toList.map (·.2)
  | op => op.operands.toList

theorem mem_opsL {op : Op} {x : Operand} (h : x ∈ op.operands) : x ∈ opsL op := by
  cases op <;> simp only [Op.operands, opsL, Call.operands] at h ⊢ <;> first
    | (simp at h; done)
    | (simpa using h)
    | (rename_i c; cases hc : c.callee <;> simp [hc] at h ⊢ <;> exact h)

/-- What an operation looks at is live. -/
def opsOK (E : Env) (o : Oper) : Bool := notSelect o.op && (opsL o.op).all E.has

theorem opsOK_exec {N : Nat} {E : Env} {a : Act} (h : Sat N E a) {o : Oper} (ho : opsOK E o = true) : execOp a.eval o = execOp E.ev o := by
  simp only [opsOK, Bool.and_eq_true] at ho
  refine execOp_congr o (fun cs b e => by rw [e] at ho; simp [notSelect] at ho) fun x hx => h.eval ?_
  exact List.all_eq_true.1 ho.2 x (mem_opsL hx)

/-- Does the operation's guard let it run? -/
def wantedE (ops : Array Oper) (E : Env) (o : Oper) : Option Bool :=
  match o.guard with
  | none => some true
  | some (j, want) =>
    match (ops[j]?).bind (·.dst) with
    | none => none
    | some d => match Env.get E d with
      | some (.bool b) => some (b == want)
      | some _ => some false
      | none => none

theorem wantedE_spec {N : Nat} {ops : Array Oper} {E : Env} {a : Act} (h : Sat N E a) {o : Oper} {b : Bool} (hw : wantedE ops E o = some b) :
    Region.wanted o (yielded ops a.tmps) = b := by
  unfold wantedE at hw
  unfold Region.wanted
  cases hg : o.guard with
  | none => simp only [hg] at hw ⊢; exact Option.some.inj hw
  | some gw =>
    obtain ⟨j, want⟩ := gw
    simp only [hg] at hw ⊢
    unfold yielded
    cases hd : (ops[j]?).bind (·.dst) with
    | none => simp [hd] at hw
    | some d =>
      simp only [hd] at hw
      cases hv : Env.get E d with
      | none => simp [hv] at hw
      | some v =>
        simp only [hv] at hw
        have h1 := h.vals d v hv
        simp only [Option.bind_some, h1]
        cases v <;> first | (simpa using hw) | (simp at hw; simp [hw]; done)

/-- Calls that return. -/
def Ret (P : Program) (f : FuncId) (args : Array Value) (w : World) (R : Value → World → Prop) : Prop :=
  Calls P f args w fun e w' => ∃ v, e = .returned v ∧ R v w'

theorem Ret.mono {P : Program} {f : FuncId} {args : Array Value} {w : World} {R R' : Value → World → Prop} (h : Ret P f args w R) (hr : ∀ v w', R v w' → R' v w') : Ret P f args w R' :=
  Calls.mono h fun _ _ ⟨v, he, hR⟩ => ⟨v, he, hr _ _ hR⟩

section
variable (P : Program) (N : Nat)

def WL (ops : Array Oper) (Q : Exit → Act → World → Prop) (l : List Oper) (E : Env) (w : World) : Prop := ∀ a, Sat N E a → wpList P ops Q l a w
def WC (Q : Exit → Act → World → Prop) (c : Code) (E : Env) (w : World) : Prop := ∀ a, Sat N E a → c.wp P Q a w
def WX (Q : Exit → Act → World → Prop) (e : Exit) (E : Env) (w : World) : Prop := ∀ a, Sat N E a → Q e a w
end

section lists
variable {P : Program} {N : Nat} {ops : Array Oper} {Q : Exit → Act → World → Prop} {l : List Oper} {o : Oper} {E : Env} {w w' : World} {d : Nat} {v : Value}

theorem WL.nil (k : WX N Q .normal E w) : WL P N ops Q [] E w := fun a h => k a h

theorem WL.val (hd : o.dst = some d) (hN : Nat.blt d N = true) (ho : opsOK E o = true) (hw : wantedE ops E o = some true)
    (hrun : (execOp E.ev o).run P w = .ok (.value v) w') (k : WL P N ops Q l ((d, v) :: E) w') : WL P N ops Q (o :: l) E w := by
  intro a h
  have hd' : d < N := Eq.mp Nat.blt_eq hN
  unfold wpList
  rw [if_pos (wantedE_spec h hw)]
  refine .inl ?_
  unfold Oper.wp
  rw [opsOK_exec h ho, hrun, Oper.upon_value, hd]
  exact k _ (h.put hd' v)

theorem WL.eff (hd : o.dst = none) (ho : opsOK E o = true) (hw : wantedE ops E o = some true)
    (hrun : (execOp E.ev o).run P w = .ok .skip w') (k : WL P N ops Q l E w') : WL P N ops Q (o :: l) E w := by
  intro a h
  unfold wpList
  rw [if_pos (wantedE_spec h hw)]
  refine .inl ?_
  unfold Oper.wp
  rw [opsOK_exec h ho, hrun, Oper.upon_skip, hd]
  exact k _ h

theorem WL.skip (hd : o.dst = some d) (hN : Nat.blt d N = true) (hw : wantedE ops E o = some false) (k : WL P N ops Q l ((d, undef) :: E) w) : WL P N ops Q (o :: l) E w := by
  intro a h
  have hd' : d < N := Eq.mp Nat.blt_eq hN
  unfold wpList
  rw [wantedE_spec h hw, hd]
  exact k _ (h.put hd' undef)

/-- an operation without a result is passed over -/
theorem WL.skip0 (hd : o.dst = none) (hw : wantedE ops E o = some false) (k : WL P N ops Q l E w) : WL P N ops Q (o :: l) E w := by
  intro a h
  unfold wpList
  rw [wantedE_spec h hw, hd]
  exact k _ h

theorem WL.call {f : FuncId} {args : Array Value} {R : Value → World → Prop} (hd : o.dst = some d) (hN : Nat.blt d N = true) (ho : opsOK E o = true) (hw : wantedE ops E o = some true)
    (hrun : (execOp E.ev o).run P w = .ok (.enter f args) w') (hc : Ret P f args w' R) (k : ∀ v w'', R v w'' → WL P N ops Q l ((d, v) :: E) w'') : WL P N ops Q (o :: l) E w := by
  intro a h
  have hd' : d < N := Eq.mp Nat.blt_eq hN
  unfold wpList
  rw [if_pos (wantedE_spec h hw)]
  refine .inl ?_
  unfold Oper.wp
  rw [opsOK_exec h ho, hrun, Oper.upon_enter]
  refine Calls.mono hc ?_
  rintro e w'' ⟨v, rfl, hR⟩
  simp only [hd]
  exact k v w'' hR _ (h.put hd' v)

theorem WL.call0 {f : FuncId} {args : Array Value} {R : Value → World → Prop} (hd : o.dst = none) (ho : opsOK E o = true) (hw : wantedE ops E o = some true)
    (hrun : (execOp E.ev o).run P w = .ok (.enter f args) w') (hc : Ret P f args w' R) (k : ∀ v w'', R v w'' → WL P N ops Q l E w'') : WL P N ops Q (o :: l) E w := by
  intro a h
  unfold wpList
  rw [if_pos (wantedE_spec h hw)]
  refine .inl ?_
  unfold Oper.wp
  rw [opsOK_exec h ho, hrun, Oper.upon_enter]
  refine Calls.mono hc ?_
  rintro e w'' ⟨v, rfl, hR⟩
  simp only [hd]
  exact k v w'' hR _ h

/-- a bool in a temporary: both ways -/
theorem WL.cases (t : Nat) {b : Bool} (hg : Env.get E t = some (.bool b)) (ht : b = true → WL P N ops Q l ((t, .bool true) :: E) w) (hf : b = false → WL P N ops Q l ((t, .bool false) :: E) w) :
    WL P N ops Q l E w := by
  intro a h
  cases b with
  | true => exact ht rfl a ⟨h.size, h.defers, fun s v hs => by
      simp only [Env.get] at hs
      split at hs
      · rename_i hb
        have := Nat.eq_of_beq_eq_true hb
        subst this
        injection hs with hs
        subst hs
        exact h.vals _ _ hg
      · exact h.vals s v hs⟩
  | false => exact hf rfl a ⟨h.size, h.defers, fun s v hs => by
      simp only [Env.get] at hs
      split at hs
      · rename_i hb
        have := Nat.eq_of_beq_eq_true hb
        subst this
        injection hs with hs
        subst hs
        exact h.vals _ _ hg
      · exact h.vals s v hs⟩

theorem WL.keep (F : Env) (hs : E.sub F) (k : WL P N ops Q l F w) : WL P N ops Q l E w := fun a h => k a (h.sub hs)
end lists

section code
variable {P : Program} {N : Nat} {Q : Exit → Act → World → Prop} {c x y : Code} {E : Env} {w : World}

theorem WC.keep (F : Env) (hs : E.sub F) (k : WC P N Q c F w) : WC P N Q c E w := fun a h => k a (h.sub hs)
theorem WX.keep {e : Exit} (F : Env) (hs : E.sub F) (k : WX N Q e F w) : WX N Q e E w := fun a h => k a (h.sub hs)
theorem WC.seq (k : WC P N (Exit.then (y.wp P Q) Q) x E w) : WC P N Q (.seq x y) E w := fun a h => wp_seq (k a h)
theorem WC.skip (k : WX N Q .normal E w) : WC P N Q .skip E w := fun a h => wp_skip (k a h)
theorem WC.label {n : Nat} (k : WX N Q .normal E w) : WC P N Q (.label n) E w := fun a h => wp_label (k a h)
theorem WC.ret (k : WX N Q .ret E w) : WC P N Q .ret E w := fun a h => wp_ret (k a h)
theorem WC.exit {id : Nat} (k : WX N Q (.exit id) E w) : WC P N Q (.exit id) E w := fun a h => wp_exit (k a h)
theorem WC.block {id : Nat} (k : WC P N (Exit.inBlock id Q) c E w) : WC P N Q (.block id c) E w := fun a h => wp_block (k a h)
theorem WC.region {id : Nat} {l : List Oper} (k : WL P N l.toArray Q l E w) : WC P N Q (.region id l.toArray false) E w := fun a h => wp_region_lit (k a h)
theorem WC.cond {t : Operand} {b : Bool} (ht : E.has t = true) (hb : E.ev t = .bool b) (k1 : b = true → WC P N Q x E w) (k2 : b = false → WC P N Q y E w) : WC P N Q (.cond t x y) E w :=
  fun a h => wp_cond_split (t := b) (by rw [h.eval ht, hb]) (fun e => k1 e a h) (fun e => k2 e a h)
theorem WC.cond_true {t : Operand} (ht : E.has t = true) (hb : E.ev t = .bool true) (k1 : WC P N Q x E w) : WC P N Q (.cond t x y) E w :=
  fun a h => wp_cond_true (by rw [h.eval ht, hb]) (k1 a h)
theorem WC.cond_false {t : Operand} (ht : E.has t = true) (hb : E.ev t = .bool false) (k1 : WC P N Q y E w) : WC P N Q (.cond t x y) E w :=
  fun a h => wp_cond_false (by rw [h.eval ht, hb]) (k1 a h)

theorem WX.next {k : Code} (h : WC P N Q k E w) : WX N (Exit.then (k.wp P Q) Q) .normal E w := fun a ha => h a ha
theorem WX.thenRet {K : Act → World → Prop} (h : WX N Q .ret E w) : WX N (Exit.then K Q) .ret E w := fun a ha => h a ha
theorem WX.thenExit {K : Act → World → Prop} {id : Nat} (h : WX N Q (.exit id) E w) : WX N (Exit.then K Q) (.exit id) E w := fun a ha => h a ha
theorem WX.blockNormal {id : Nat} (h : WX N Q .normal E w) : WX N (Exit.inBlock id Q) .normal E w := fun a ha => h a ha
theorem WX.blockRet {id : Nat} (h : WX N Q .ret E w) : WX N (Exit.inBlock id Q) .ret E w := fun a ha => h a ha
theorem WX.blockHere {id : Nat} (h : WX N Q .normal E w) : WX N (Exit.inBlock id Q) (.exit id) E w := fun a ha => by simp only [Exit.inBlock, if_true]; exact h a ha
theorem WX.blockPast {id j : Nat} (hj : Nat.beq j id = false) (h : WX N Q (.exit j) E w) : WX N (Exit.inBlock id Q) (.exit j) E w := fun a ha => by
  have : j ≠ id := fun e => by subst e; simp at hj
  simp only [Exit.inBlock, this, if_false]; exact h a ha

/-- a piece by what holds behind it: ways meet again -/
def Meets (N : Nat) (J : Env → World → Prop) : Act → World → Prop := fun a w => ∃ E, Sat N E a ∧ J E w

theorem WC.cut (J : Env → World → Prop) (k1 : WC P N (Exit.then (Meets N J) Q) x E w) (k2 : ∀ E w, J E w → WC P N Q y E w) : WC P N Q (.seq x y) E w :=
  fun a h => wp_seq (Code.wp_mono (fun e a w q => by
    cases e <;> first | exact q | (obtain ⟨E, hE, hJ⟩ := q; exact k2 E w hJ a hE)) (k1 a h))

theorem WX.meet {J : Env → World → Prop} (F : Env) (hs : E.sub F) (hJ : J F w) : WX N (Exit.then (Meets N J) Q) .normal E w := fun a h => ⟨F, h.sub hs, hJ⟩

theorem WC.loop (I : Nat → Env → World → Prop) (n : Nat) (h0 : I n E w)
    (hr : ∀ n E w, I n E w → WC P N (Exit.then (Meets N fun E' w' => ∃ m, m < n ∧ I m E' w') Q) c E w) : WC P N Q (.loop c) E w := by
  intro a h b k cs
  have key : ∀ n E w, I n E w → ∀ a, Sat N E a →
      ∃ e a' w', Q e a' w' ∧ Arrives P (lone (b.at a (.code c :: .inLoop c :: k)) cs w) b k cs e a' w' := by
    intro n
    induction n using Nat.strongRecOn with
    | _ n ih =>
      intro E w hI a ha
      obtain ⟨e, a₁, w₁, hq, harr⟩ := hr n E w hI a ha b (.inLoop c :: k) cs
      cases e with
      | normal =>
        obtain ⟨E', hE', m, hm, hI'⟩ := hq
        obtain ⟨e₂, a₂, w₂, hq₂, harr₂⟩ := ih m hm E' w₁ hI' a₁ hE'
        exact ⟨e₂, a₂, w₂, hq₂, .of_steps (Steps.trans harr (.one step_inLoop)) harr₂⟩
      | exit id => exact ⟨_, a₁, w₁, hq, .pass (x := .inLoop c) rfl (fun _ _ => .inl (by simp)) harr⟩
      | goto l => exact ⟨_, a₁, w₁, hq, .pass (x := .inLoop c) rfl (fun _ _ => .inl (by simp)) harr⟩
      | ret => exact ⟨_, a₁, w₁, hq, .pass (x := .inLoop c) rfl (fun _ _ => .inl (by simp)) harr⟩
      | panic ch => exact ⟨_, a₁, w₁, hq, .pass (x := .inLoop c) rfl (fun _ _ => .inl (by simp)) harr⟩
      | outgrown => exact ⟨_, a₁, w₁, hq, .pass (x := .inLoop c) rfl (fun _ _ => .inl (by simp)) harr⟩
  obtain ⟨e, a', w', hq, harr⟩ := key n E w h0 a h
  exact ⟨e, a', w', hq, .of_steps (.one step_loop) harr⟩
end code
end Go.Proofs.YtomkdhkkggbioaaGreatDoor
