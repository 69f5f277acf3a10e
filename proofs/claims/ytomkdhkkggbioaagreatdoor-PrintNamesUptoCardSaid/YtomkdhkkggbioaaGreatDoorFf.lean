/-
  Entry and return; slicing; strings.
-/
import Derived.Test.YtomkdhkkggbioaaGreatDoorFe
namespace Go.Proofs.YtomkdhkkggbioaaGreatDoor
open Go
set_option linter.unusedSimpArgs false
set_option linter.unusedVariables false

section
variable {P : Program} {N : Nat} {E : Env} {w : World} {fn : Func} {R : Value → World → Prop} {v : Value}

/-- the parameters -/
def argEnv : Nat → List Value → Env
  | _, [] => []
  | i, v :: l => (i, v) :: argEnv (i + 1) l

theorem argEnv_get : ∀ (l : List Value) (i t : Nat) (v : Value), Env.get (argEnv i l) t = some v → i ≤ t ∧ l[t - i]? = some v
  | [], _, _, _, h => by simp [argEnv, Env.get] at h
  | u :: l, i, t, v, h => by
    simp only [argEnv, Env.get] at h
    split at h
    · rename_i hb
      have := Nat.eq_of_beq_eq_true hb
      subst this
      injection h with h
      subst h
      simp
    · rename_i hb
      have := argEnv_get l (i + 1) t v h
      refine ⟨by omega, ?_⟩
      rw [show t - i = (t - (i + 1)) + 1 by omega]
      simpa using this.2

theorem enter {f : FuncId} {c : Code} {vs : List Value} {R : Ending → World → Prop} (hf : P.funcs[f]? = some fn) (hb : fn.body = some c) (hN : fn.ntmps = N) (hle : Nat.ble vs.length N = true)
    (k : WC P N (bodyPost P fn R) c (argEnv 0 vs) w) : Calls P f vs.toArray w R := by
  have hle' : vs.length ≤ N := Nat.le_of_ble_eq_true hle
  refine calls_of_wp hf hb (k _ ⟨by simp [hN]; omega, rfl, fun t v ht => ?_⟩)
  have := (argEnv_get vs 0 t v ht).2
  rw [Nat.sub_zero] at this
  have hlt : t < vs.length := (List.getElem?_eq_some_iff.1 this).1
  rw [Array.getElem?_append_left (by simpa using hlt)]
  simpa using this

theorem enterRet {f : FuncId} {c : Code} {vs : List Value} (hf : P.funcs[f]? = some fn) (hb : fn.body = some c) (hN : fn.ntmps = N) (hle : Nat.ble vs.length N = true)
    (k : WC P N (bodyPost P fn fun e w' => ∃ v, e = .returned v ∧ R v w') c (argEnv 0 vs) w) : Ret P f vs.toArray w R := enter hf hb hN hle k

def resE (E : Env) : List ResultVar → List Value → Prop
  | [], [] => True
  | .tmp t :: l, v :: vs => Env.get E t = some v ∧ resE E l vs
  | _, _ => False

def tupleOf : List Value → Value
  | [v] => v
  | l => .tuple l.toArray

theorem resE_run {a : Act} (h : Sat N E a) : ∀ {l : List ResultVar} {vs : List Value}, resE E l vs →
    (l.mapM (m := Sem) fun r => match r with | .tmp t => pure (a.tmps.getD t undef) | .cell b t => do loadVar t (← asAddr (a.tmps.getD b undef))).run P w = .ok vs w
  | [], [], _ => by simp [go_sem]
  | .tmp t :: l, v :: vs, hr => by
    have h1 := h.vals t v hr.1
    have h2 := resE_run h hr.2
    have h3 : a.tmps[t]?.getD undef = v := by rw [h1]; rfl
    simp only [Array.getD_eq_getD_getElem?] at h2 ⊢
    simp [List.mapM_cons, h2, h3]

theorem results_run {a : Act} (h : Sat N E a) {l : List ResultVar} {vs : List Value} (hl : fn.results = l.toArray) (hr : resE E l vs) : (results fn a.tmps).run P w = .ok (tupleOf vs) w := by
  have h1 := resE_run (P := P) (w := w) h hr
  have hlen : vs.length = l.length := by
    clear h1
    revert vs
    clear hl
    induction l with
    | nil => intro vs hr; cases vs with
      | nil => rfl
      | cons => exact hr.elim
    | cons x l ih => intro vs hr; cases x <;> cases vs <;> first | exact hr.elim | (simp [ih hr.2])
  unfold results
  rw [hl, List.mapM_toArray]
  simp only [Sem.run_bind]
  have h2 : (Sem.run P (List.mapM (m := Sem) (fun x => match x with
    | ResultVar.tmp t => pure (a.tmps[t]?.getD undef)
    | ResultVar.cell b t => do loadVar t (← asAddr (a.tmps[b]?.getD undef))) l) w) = .ok vs w := by
    simpa only [Array.getD_eq_getD_getElem?] using h1
  simp only [Array.getD_eq_getD_getElem?]
  simp
  erw [h2]
  match vs with
  | [] => rfl
  | [v] => rfl
  | a :: b :: r => simp [tupleOf]

theorem WX.retE {l : List ResultVar} {vs : List Value} (hl : fn.results = l.toArray) (hr : resE E l vs) (k : R (tupleOf vs) w) :
    WX N (bodyPost P fn fun e w' => ∃ v, e = .returned v ∧ R v w') .ret E w := fun a h => ⟨h.defers, _, results_run h hl hr, _, rfl, k⟩
theorem WX.retE1 {t : Nat} {v : Value} (hl : fn.results = #[.tmp t]) (hr : Env.get E t = some v) (k : R v w) :
    WX N (bodyPost P fn fun e w' => ∃ v, e = .returned v ∧ R v w') .ret E w := WX.retE (l := [.tmp t]) (vs := [v]) hl ⟨hr, trivial⟩ k
theorem WX.retE2 {t u : Nat} {v v' : Value} (hl : fn.results = #[.tmp t, .tmp u]) (hr : Env.get E t = some v) (hr' : Env.get E u = some v') (k : R (.tuple #[v, v']) w) :
    WX N (bodyPost P fn fun e w' => ∃ v, e = .returned v ∧ R v w') .ret E w := WX.retE (l := [.tmp t, .tmp u]) (vs := [v, v']) hl ⟨hr, hr', trivial⟩ k
theorem le_maxLen {n : Nat} (h : n ≤ 140737488355328) : n ≤ maxLen := by
  have : (140737488355328 : Nat) ≤ maxLen := by decide
  omega
theorem WX.endE {l : List ResultVar} {vs : List Value} (hl : fn.results = l.toArray) (hr : resE E l vs) (k : R (tupleOf vs) w) :
    WX N (bodyPost P fn fun e w' => ∃ v, e = .returned v ∧ R v w') .normal E w := fun a h => ⟨h.defers, _, results_run h hl hr, _, rfl, k⟩
end

section
variable {P : Program} {ρ : Operand → Value} {o : Oper} {w : World} {x y z : Operand} {t u e : TypeId} {k k' : IntKind} {a b : Int} {F : Nat → Prop}

/-- a bound of a slice expression -/
def bnd (ρ : Operand → Value) (x : Option Operand) (dflt r : Nat) : Prop := (x = none ∧ r = dflt) ∨ ∃ y k b, x = some y ∧ ρ y = .int k b ∧ b = (r : Int)
theorem bnd_none {d : Nat} : bnd ρ none d d := .inl ⟨rfl, rfl⟩
theorem bnd_some {d r : Nat} (h : ρ y = .int k b) (hb : b = (r : Int)) : bnd ρ (some y) d r := .inr ⟨y, k, b, rfl, h, hb⟩

def cutA (A : Option Addr) (c l sz : Nat) : Option Addr := if c = l then A else A.map (·.add (l * sz))

theorem run_sliceBound_in {k : IntKind} {b : Int} {r y : Nat} {code : BoundsCode} (hb : b = (r : Int)) (hr : r ≤ y) : (Instr.sliceBound (.int k b) y code).run P w = .ok r w := by
  subst hb
  simp [Instr.sliceBound, asIntOf, hr]

theorem r_slice {A : Option Addr} {n c l h sz : Nat} {lo hi : Option Operand} (ho : o.op = .slice t x lo hi none) (hx : ρ x = .slice A n c) (hu : sliceElem P t = some e) (hz : sizeIs P e sz = true)
    (hlo : bnd ρ lo 0 l) (hhi : bnd ρ hi n h) (h1 : l ≤ h) (h2 : h ≤ n) (h3 : n ≤ c) : (execOp ρ o).run P w = .ok (.value (.slice (cutA A c l sz) (h - l) (c - l))) w := by
  unfold sliceElem at hu
  cases hd : P.underlying t with
  | none => simp [hd] at hu
  | some d =>
    rw [hd] at hu
    cases d <;> simp at hu
    subst hu
    have hc : h ≤ c := by omega
    have hsz := run_sizeOf (P := P) (w := w) hz
    unfold cutA
    rcases hlo with ⟨rfl, rfl⟩ | ⟨y1, k1, b1, rfl, hy1, hb1⟩ <;> rcases hhi with ⟨rfl, rfl⟩ | ⟨y2, k2, b2, rfl, hy2, hb2⟩
    · simp [execOp, ho, hx, Instr.sliceAt, Instr.slice, run_underlying hd, Instr.sliceBounds, hsz]
    · simp [execOp, ho, hx, hy2, Instr.sliceAt, Instr.slice, run_underlying hd, Instr.sliceBounds, hsz, run_sliceBound_in hb2 hc]
    · simp [execOp, ho, hx, hy1, Instr.sliceAt, Instr.slice, run_underlying hd, Instr.sliceBounds, hsz, run_sliceBound_in hb1 h1]
    · simp [execOp, ho, hx, hy1, hy2, Instr.sliceAt, Instr.slice, run_underlying hd, Instr.sliceBounds, hsz, run_sliceBound_in hb1 h1, run_sliceBound_in hb2 hc]

theorem Rd.slice {A : Option Addr} {n c l h sz : Nat} {xs : List Value} (hr : Rd w F (.slice A n c) n sz xs) (h1 : l ≤ h) (h2 : h ≤ n) : Rd w F (.slice (cutA A c l sz) (h - l) (c - l)) (h - l) sz ((xs.drop (l * sz)).take ((h - l) * sz)) := by
  obtain ⟨A', c', hv, hc, hm, hl, hcell⟩ := hr
  injection hv with hA hn hc'
  subst hA hc'
  refine ⟨_, _, rfl, by omega, by omega, ?_, fun h0 => ?_⟩
  · rw [List.length_take, List.length_drop, hl, Nat.sub_mul]
    have : h * sz ≤ n * sz := Nat.mul_le_mul_right _ h2
    omega
  · obtain ⟨b, off, rfl, hF, hlt, hcl⟩ := hcell (by omega)
    refine ⟨b, off + l * sz, ?_, hF, hlt, fun j u hu => ?_⟩
    · unfold cutA
      rw [if_neg (by omega)]
      simp [Addr.add_lit]
    · rw [List.getElem?_take] at hu
      split at hu
      · rw [List.getElem?_drop] at hu
        rw [Nat.add_assoc]
        exact hcl _ u hu
      · cases hu

theorem Rd.open {A : Option Addr} {n c sz : Nat} {xs : List Value} (hr : Rd w F (.slice A n c) n sz xs) (h0 : 0 < n) : ∃ b off, A = some ⟨b, off, none⟩ ∧ F b ∧ b < w.heap.size ∧ ∀ j u, xs[j]? = some u → w.cell? ⟨b, off + j, none⟩ = some u := by
  obtain ⟨A', c', hv, hc, hm, hl, hcell⟩ := hr
  injection hv with hA hn hc'
  subst hA
  exact hcell (by omega)
theorem Rd.cap {A : Option Addr} {n c sz : Nat} {xs : List Value} (hr : Rd w F (.slice A n c) n sz xs) : n ≤ c := by
  obtain ⟨A', c', hv, hc, _⟩ := hr
  injection hv with hA hn hc'
  subst hc'
  exact hc
theorem Rd.cell {b off n c sz q j : Nat} {xs : List Value} {u : Value} (hr : Rd w F (.slice (some ⟨b, off, none⟩) n c) n sz xs) (hq : q = off + j) (hu : xs[j]? = some u) : w.cell? ⟨b, q, none⟩ = some u := by
  subst hq
  obtain ⟨A', c', hv, hc, hm, hl, hcell⟩ := hr
  injection hv with hA hn hc'
  subst hA
  have h0 : n ≠ 0 := fun e => by
    subst e
    have : xs = [] := List.eq_nil_of_length_eq_zero (by simpa using hl)
    subst this
    simp at hu
  obtain ⟨b', off', hA, _, _, hcl⟩ := hcell h0
  injection hA with hA
  injection hA with hA1 hA2
  subst hA1 hA2
  exact hcl j u hu
theorem Rd.slice_form {v : Value} {n sz : Nat} {xs : List Value} (hr : Rd w F v n sz xs) : ∃ A c, v = .slice A n c ∧ n ≤ c := by
  obtain ⟨A, c, hv, hc, _⟩ := hr
  exact ⟨A, c, hv, hc⟩

theorem r_extract {vs : Array Value} {i : Nat} {v : Value} (ho : o.op = .extract x i) (hx : ρ x = .tuple vs) (hv : vs[i]? = some v) : (execOp ρ o).run P w = .ok (.value v) w := by
  simp [execOp, ho, hx, Instr.extract, hv]

/-- bytes -/
def U8 (c : UInt8) : Value := .int .u8 (c.toNat : Int)
theorem U8_one (l : List UInt8) : ∀ u ∈ l.map U8, u.oneCell' = true := fun u hu => by
  obtain ⟨c, _, rfl⟩ := List.mem_map.1 hu
  rfl
theorem U8_inj {a b : UInt8} (h : U8 a = U8 b) : a = b := by
  unfold U8 at h
  injection h with _ h
  exact UInt8.toNat_inj.1 (by omega)
theorem map_U8_inj : ∀ {a b : List UInt8}, a.map U8 = b.map U8 → a = b
  | [], [], _ => rfl
  | [], _ :: _, h => by simp at h
  | _ :: _, [], h => by simp at h
  | x :: a, y :: b, h => by
    simp only [List.map_cons, List.cons.injEq] at h
    rw [U8_inj h.1, map_U8_inj h.2]
theorem Rd.sliceB {A : Option Addr} {n c lo h : Nat} {l : List UInt8} (hr : Rd w F (.slice A n c) n 1 (l.map U8)) (h1 : lo ≤ h) (h2 : h ≤ n) : Rd w F (.slice (cutA A c lo 1) (h - lo) (c - lo)) (h - lo) 1 (((l.drop lo).take (h - lo)).map U8) := by
  have := hr.slice (l := lo) (h := h) h1 h2
  simpa using this
theorem Rd.lenB {v : Value} {n : Nat} {l : List UInt8} (h : Rd w F v n 1 (l.map U8)) : l.length = n := by
  have := h.len
  simpa using this
theorem Rd.of_blk {b n sz : Nat} {cs : Array Value} {T : TypeId} (h : Blk w b cs T) (hF : F b) (hn : cs.size = n * sz) (hm : n ≤ 140737488355328) : Rd w F (.slice (some ⟨b, 0, none⟩) n n) n sz cs.toList :=
  ⟨_, _, rfl, Nat.le_refl _, hm, by simpa using hn, fun _ => ⟨b, 0, rfl, hF, h.lt, fun j u hu => by
    rw [Nat.zero_add]
    exact h.cell (by simpa using hu)⟩⟩
theorem oneCell_one {v : Value} (h : v.oneCell' = true) : ∀ u ∈ (#[v] : Array Value).toList, u.oneCell' = true := fun u hu => by
  simp at hu
  subst hu
  exact h
theorem Grow.trans {F : Nat → Prop} {w w1 w2 : World} (h : w.heap.size ≤ w1.heap.size) (h' : w1.heap.size ≤ w2.heap.size) {k : Nat} (hk : Grow (Grow F w w1) w1 w2 k) : Grow F w w2 k := by
  rcases hk with (hk | hk) | hk
  · exact .inl hk
  · exact .inr ⟨hk.1, by omega⟩
  · exact .inr ⟨by omega, hk.2⟩
theorem Grow.le {F : Nat → Prop} {w w1 w2 : World} (h' : w1.heap.size ≤ w2.heap.size) {k : Nat} (hk : Grow F w w1 k) : Grow F w w2 k := by
  rcases hk with hk | hk
  · exact .inl hk
  · exact .inr ⟨hk.1, by omega⟩
theorem Grow.old {F : Nat → Prop} {w w' : World} {g : Nat} (hg : g < w.heap.size) (hF : ¬ F g) : ¬ Grow F w w' g := fun h => by
  rcases h with h | h
  · exact hF h
  · omega
end
theorem Upd.fresh {S : Nat → Prop} {w w1 w2 : World} (h : Upd No w w1) (h' : Upd S w1 w2) (hS : ∀ k, S k → w.heap.size ≤ k) : Upd No w w2 := h.trans h' fun k hk hk' => by
  have := hS k hk'
  omega
theorem mk_toList (l : List UInt8) : (ByteArray.mk l.toArray).toList = l := by simp [ByteArray.toList_eq]
end Go.Proofs.YtomkdhkkggbioaaGreatDoor
