/-
  Memory: blocks known whole, what a step may change, rows that are read, rows that are owned; the operations on them.
-/
import Derived.Test.YtomkdhkkggbioaaGreatDoorFc
namespace Go.Proofs.YtomkdhkkggbioaaGreatDoor
open Go
set_option linter.unusedSimpArgs false
set_option linter.unusedVariables false

/-- A block known whole; nothing of it is frozen. -/
def Blk (w : World) (b : Nat) (cs : Array Value) (T : TypeId) : Prop := w.heap[b]? = some (.cells cs T (0, 0))

/-- Of the blocks that were there only those of S may have changed. -/
structure Upd (S : Nat → Prop) (w w' : World) : Prop where
  os : w'.os = w.os
  tape : w'.tape = w.tape
  output : w'.output = w.output
  size : w.heap.size ≤ w'.heap.size
  block : ∀ k, k < w.heap.size → ¬ S k → w'.heap[k]? = w.heap[k]?

/-- No block. -/
def No : Nat → Prop := fun _ => False
/-- One block. -/
def At (b : Nat) : Nat → Prop := fun k => k = b
/-- Blocks from B on. -/
def From (B : Nat) : Nat → Prop := fun k => B ≤ k

theorem Upd.refl (S : Nat → Prop) (w : World) : Upd S w w := ⟨rfl, rfl, rfl, Nat.le_refl _, fun _ _ _ => rfl⟩
theorem Upd.mono {S S' : Nat → Prop} {w w' : World} (h : Upd S w w') (hs : ∀ k, k < w.heap.size → S k → S' k) : Upd S' w w' :=
  ⟨h.os, h.tape, h.output, h.size, fun k hk hn => h.block k hk fun hS => hn (hs k hk hS)⟩
theorem Upd.trans {S S' : Nat → Prop} {w w1 w2 : World} (h : Upd S w w1) (h' : Upd S' w1 w2) (hs : ∀ k, k < w.heap.size → S' k → S k) : Upd S w w2 :=
  ⟨h'.os.trans h.os, h'.tape.trans h.tape, h'.output.trans h.output, Nat.le_trans h.size h'.size, fun k hk hn =>
    (h'.block k (Nat.lt_of_lt_of_le hk h.size) fun hS => hn (hs k hk hS)).trans (h.block k hk hn)⟩
theorem Upd.trans_same {S : Nat → Prop} {w w1 w2 : World} (h : Upd S w w1) (h' : Upd S w1 w2) : Upd S w w2 := h.trans h' fun _ _ h => h
theorem Upd.no {S : Nat → Prop} {w w' : World} (h : Upd No w w') : Upd S w w' := h.mono fun _ _ h => h.elim
theorem Upd.drew (S : Nat → Prop) (w : World) : Upd S w w.drew := ⟨rfl, rfl, rfl, Nat.le_refl _, fun _ _ _ => rfl⟩
theorem Upd.alloc (S : Nat → Prop) (w : World) (o : Obj) : Upd S w (w.alloc o) := ⟨rfl, rfl, rfl, by simp, fun k hk _ => Go.RowKit.Below.heap_alloc w o k hk⟩
theorem Upd.setCell (w : World) (p : Addr) (v : Value) : Upd (At p.block) w (w.setCell p v) :=
  ⟨rfl, rfl, rfl, by simp, fun k _ hn => Go.RowKit.Below.heap_setCell w p v k hn⟩
theorem Upd.below {B : Nat} {S : Nat → Prop} {w w' : World} (h : Upd S w w') (hB : B ≤ w.heap.size) (hs : ∀ k, S k → B ≤ k) : Go.RowKit.Below B w w' :=
  ⟨h.os, h.tape, h.output, h.size, fun k hk => h.block k (by omega) fun hS => by have := hs k hS; omega⟩

theorem Upd.of_draw {w w' : World} (h : w'.os = w.os ∧ w'.tape = w.tape ∧ w'.output = w.output ∧ w'.heap = w.heap) : Upd No w w' :=
  ⟨h.1, h.2.1, h.2.2.1, by rw [h.2.2.2]; exact Nat.le_refl _, fun k _ _ => by rw [h.2.2.2]⟩

theorem cell?_of_eq {w w' : World} {b : Nat} (h : w'.heap[b]? = w.heap[b]?) (o : Nat) (s : Option Nat) : w'.cell? ⟨b, o, s⟩ = w.cell? ⟨b, o, s⟩ := by simp [World.cell?, h]

theorem Blk.cell {w : World} {b : Nat} {cs : Array Value} {T : TypeId} (h : Blk w b cs T) {o : Nat} {v : Value} (hv : cs[o]? = some v) : w.cell? ⟨b, o, none⟩ = some v := by
  unfold Blk at h
  simp [World.cell?, h, hv]
theorem Blk.free {w : World} {b : Nat} {cs : Array Value} {T : TypeId} (h : Blk w b cs T) (o : Nat) : w.frozen? ⟨b, o, none⟩ = false := by
  unfold Blk at h
  simp [World.frozen?, h]
theorem Blk.lt {w : World} {b : Nat} {cs : Array Value} {T : TypeId} (h : Blk w b cs T) : b < w.heap.size := by
  rcases Nat.lt_or_ge b w.heap.size with h' | h'
  · exact h'
  · unfold Blk at h; simp [Array.getElem?_eq_none h'] at h
theorem Blk.upd {S : Nat → Prop} {w w' : World} {b : Nat} {cs : Array Value} {T : TypeId} (h : Blk w b cs T) (hu : Upd S w w') (hn : ¬ S b) : Blk w' b cs T :=
  (hu.block b h.lt hn).trans h
theorem Blk.alloc_new (w : World) (cs : Array Value) (T : TypeId) : Blk (w.alloc (.cells cs T)) w.heap.size cs T := heap_alloc_new w _
theorem Blk.drew {w : World} {b : Nat} {cs : Array Value} {T : TypeId} (h : Blk w b cs T) : Blk w.drew b cs T := h
theorem Blk.set {w : World} {b : Nat} {cs : Array Value} {T : TypeId} (h : Blk w b cs T) (o : Nat) (v : Value) : Blk (w.setCell ⟨b, o, none⟩ v) b (cs.setIfInBounds o v) T := by
  have hlt := h.lt
  unfold Blk at h ⊢
  have h' : w.heap[b] = .cells cs T (0, 0) := by simpa [Array.getElem?_eq_getElem hlt] using h
  show (w.heap.modify b _)[b]? = _
  rw [Array.getElem?_eq_getElem (by simpa using hlt), Array.getElem_modify_self, h']
  rfl
theorem Blk.ne {w : World} {b b' : Nat} {cs cs' : Array Value} {T T' : TypeId} (h : Blk w b cs T) (h' : Blk w b' cs' T') (ht : T ≠ T') : b ≠ b' := by
  rintro rfl
  unfold Blk at h h'
  rw [h] at h'
  injection h' with h'
  injection h' with _ h'
  exact ht h'

/-- A type whose values take one cell. -/
def flatB (P : Program) (t : TypeId) : Bool := match P.underlying t with
  | some (.struct _) | some (.array _ _) | none => false
  | _ => true
def aggB (P : Program) (t : TypeId) : Bool := match P.underlying t with
  | some (.struct _) | some (.array _ _) => true
  | _ => false
def sizeIs (P : Program) (t : TypeId) (n : Nat) : Bool := match P.info? t with
  | some i => i.size == n
  | none => false
/-- the offset of a field whose type takes some cells -/
def fieldOff (P : Program) (s : TypeId) (f : Nat) : Option Nat := match P.underlying s with
  | some (.struct fs) => match fs[f]? with
    | some x => match P.info? x.type with
      | some i => if i.size = 0 then none else some x.offset
      | none => none
    | none => none
  | _ => none
def sliceElem (P : Program) (t : TypeId) : Option TypeId := match P.underlying t with
  | some (.slice e) => some e
  | _ => none

section
variable {P : Program} {ρ : Operand → Value} {o : Oper} {w : World} {x y z : Operand} {t u e : TypeId} {k k' : IntKind} {a b : Int}

theorem run_isAgg_flat (h : flatB P t = true) : (isAgg t).run P w = .ok false w := by
  unfold flatB at h
  cases hu : P.underlying t with
  | none => simp [hu] at h
  | some d => rw [hu] at h; cases d <;> simp at h <;> simp [isAgg, run_underlying hu]
theorem run_isAgg_agg (h : aggB P t = true) : (isAgg t).run P w = .ok true w := by
  unfold aggB at h
  cases hu : P.underlying t with
  | none => simp [hu] at h
  | some d => rw [hu] at h; cases d <;> simp at h <;> simp [isAgg, run_underlying hu]
theorem run_sizeOf {n : Nat} (h : sizeIs P t n = true) : (sizeOf t).run P w = .ok n w := by
  unfold sizeIs at h
  cases hi : P.info? t with
  | none => simp [hi] at h
  | some i => rw [hi] at h; simp at h; simp [sizeOf, typeInfo, hi, h]

theorem run_load_cell {p : Addr} {v : Value} (h : w.cell? p = some v) : (load p).run P w = .ok v w := by simp [h]

theorem r_load {p : Addr} {v : Value} (ho : o.op = .load t x) (hx : ρ x = .pointer (some p)) (ht : flatB P t = true) (hc : w.cell? p = some v) : (execOp ρ o).run P w = .ok (.value v) w := by
  simp [execOp, ho, hx, Instr.loadAt, Instr.sureAddr, loadVar, run_isAgg_flat ht, hc, go_sem]

/-- the cells from an address on -/
def CellsAt (w : World) (p : Addr) (vs : List Value) : Prop := ∀ j v, vs[j]? = some v → w.cell? (p.add j) = some v

theorem r_loadAgg {p : Addr} {vs : List Value} (ho : o.op = .load t x) (hx : ρ x = .pointer (some p)) (ht : aggB P t = true) (hn : sizeIs P t vs.length = true) (hc : CellsAt w p vs) : (execOp ρ o).run P w = .ok (.value (.agg vs.toArray)) w := by
  have hl := run_loadCells_list (P := P) w p vs hc
  simp only [loadCells] at hl
  simp [execOp, ho, hx, Instr.loadAt, Instr.sureAddr, loadVar, run_isAgg_agg ht, run_sizeOf hn, hl, go_sem]

theorem r_field {p : Addr} {f n : Nat} (ho : o.op = .fieldAddr t x f) (hx : ρ x = .pointer (some p)) (hf : fieldOff P t f = some n) : (execOp ρ o).run P w = .ok (.value (.pointer (some (p.add n)))) w := by
  unfold fieldOff at hf
  cases hu : P.underlying t with
  | none => simp [hu] at hf
  | some d =>
    rw [hu] at hf
    cases d <;> simp at hf
    rename_i fs
    cases hg : fs[f]? with
    | none => simp [hg] at hf
    | some q =>
      simp [hg] at hf
      cases hi : P.info? q.type with
      | none => simp [hi] at hf
      | some i =>
        simp [hi] at hf
        obtain ⟨h0, h1⟩ := hf
        simp [execOp, ho, hx, Instr.fieldAt, run_underlying hu, hg, Instr.sureAddr, fieldPlace, sizeOf, typeInfo, hi, h0, h1, go_sem]

theorem r_fieldAt {g off f n : Nat} (ho : o.op = .fieldAddr t x f) (hx : ρ x = .pointer (some ⟨g, off, none⟩)) (hf : fieldOff P t f = some n) : (execOp ρ o).run P w = .ok (.value (.pointer (some ⟨g, off + n, none⟩))) w := by
  rw [r_field ho hx hf, Addr.add_lit]
theorem r_field0 {g f n : Nat} (ho : o.op = .fieldAddr t x f) (hx : ρ x = .pointer (some ⟨g, 0, none⟩)) (hf : fieldOff P t f = some n) : (execOp ρ o).run P w = .ok (.value (.pointer (some ⟨g, n, none⟩))) w := by
  rw [r_field ho hx hf, Addr.add_lit, Nat.zero_add]

theorem r_indexAddr {g off len cap sz : Nat} {i : Int} (ho : o.op = .indexAddr t x y) (hx : ρ x = .slice (some ⟨g, off, none⟩) len cap) (hy : ρ y = .int k i) (hu : sliceElem P t = some e) (hz : sizeIs P e sz = true) (h0 : 0 ≤ i) (h1 : i < len) :
    (execOp ρ o).run P w = .ok (.value (.pointer (some ⟨g, off + i.toNat * sz, none⟩))) w := by
  unfold sliceElem at hu
  cases hd : P.underlying t with
  | none => simp [hd] at hu
  | some d =>
    rw [hd] at hu
    cases d <;> simp at hu
    subst hu
    have hadd : (⟨g, off, none⟩ : Addr).add (i.toNat * sz) = ⟨g, off + i.toNat * sz, none⟩ := Addr.add_lit _ _ _
    simp [execOp, ho, hx, hy, Instr.indexAt, run_underlying hd, asIntOf, h0, h1, run_sizeOf hz, hadd, go_sem]

theorem r_lenSlice {A : Option Addr} {len cap : Nat} {ts : Array TypeId} (ho : o.op = .call { callee := .builtin .len, args := #[x], argTypes := #[t] }) (hx : ρ x = .slice A len cap) (hu : sliceElem P t = some e) :
    (execOp ρ o).run P w = .ok (.value (.int .i64 len)) w := by
  unfold sliceElem at hu
  cases hd : P.underlying t with
  | none => simp [hd] at hu
  | some d =>
    rw [hd] at hu
    cases d <;> simp at hu
    simp [execOp, ho, resolve, invoke, builtin, hx, Builtin.len_, run_underlying hd, goInt]

theorem r_lenString {s : ByteArray} (ho : o.op = .call { callee := .builtin .len, args := #[x], argTypes := #[t] }) (hx : ρ x = .string s) (hu : P.underlying t = some .string) :
    (execOp ρ o).run P w = .ok (.value (.int .i64 s.size)) w := by
  simp [execOp, ho, resolve, invoke, builtin, hx, Builtin.len_, run_underlying hu, goInt]

theorem run_store_cell {p : Addr} {v u : Value} (hc : w.cell? p = some u) (hf : w.frozen? p = false) (h1 : v.oneCell' = true) : (store p v).run P w = .ok () (w.setCell p v) := by
  rw [run_store P w p v .plain h1]
  simp [hc, hf]

theorem oneCell_cells {v : Value} (h : v.oneCell' = true) : v.cells = #[v] := by cases v <;> first | rfl | simp [Value.oneCell'] at h

theorem r_store {g off : Nat} {v : Value} {cs : Array Value} {T : TypeId} (ho : o.op = .store t x y) (hx : ρ x = .pointer (some ⟨g, off, none⟩)) (hy : ρ y = v) (hz : sizeIs P t 1 = true) (hb : Blk w g cs T) (hlt : Nat.blt off cs.size = true) (h1 : v.oneCell' = true) :
    (execOp ρ o).run P w = .ok .skip (w.setCell ⟨g, off, none⟩ v) := by
  have hlt' : off < cs.size := Eq.mp Nat.blt_eq hlt
  have hc := hb.cell (o := off) (v := cs[off]) (by simp [hlt'])
  have hf := hb.free off
  have hst := run_store_cell (P := P) hc hf h1
  cases v <;> first
    | (simp [Value.oneCell'] at h1; done)
    | (simp [execOp, ho, hx, hy, Instr.storeAt, Instr.sureAddr, storeVar, run_sizeOf hz, storeCells, Addr.add_zero', hc, hf, go_sem]; done)
    | (simp [execOp, ho, hx, hy, Instr.storeAt, Instr.sureAddr, storeVar, run_sizeOf hz, storeCells, Addr.add_zero', hst, go_sem]; done)

/-- A call of a Go function with a body. -/
def hasBody (P : Program) (f : FuncId) : Bool := match P.funcs[f]? with
  | some fn => !(fn.name == "runtime.NumGoroutine") && fn.body.isSome
  | none => false
theorem run_callFunc_body {f : FuncId} (h : hasBody P f = true) (args : Array Value) : (callFunc f args).run P w = .ok (.enter f args) w := by
  unfold hasBody at h
  cases hf : P.funcs[f]? with
  | none => simp [hf] at h
  | some fn =>
    rw [hf] at h
    simp only [Bool.and_eq_true, Bool.not_eq_true', Option.isSome_iff_exists] at h
    obtain ⟨h1, c, h2⟩ := h
    simp [callFunc, hf, h2] at h1 ⊢
    simp [h1]

theorem r_call {f : FuncId} {xs : Array Operand} {ts : Array TypeId} {args : Array Value} (ho : o.op = .call { callee := .value (.func f), args := xs, argTypes := ts }) (hf : hasBody P f = true) (hρ : ρ (.func f) = .func (.func f) #[] #[]) (hargs : xs.map ρ = args) :
    (execOp ρ o).run P w = .ok (.enter f args) w := by
  simp [execOp, ho, resolve, Deferred.ofValue, hρ, invoke, hargs, run_callFunc_body hf]
end
end Go.Proofs.YtomkdhkkggbioaaGreatDoor
