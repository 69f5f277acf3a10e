/-
  Several texts put together: Fi, Fj, Fk, Fl, Fm, Hea, Fn, Fo, Fp, Fq, Fr, Fw, Heb, Hec, Hed, Hee, HeQ, Hef, HeS, Hei, Hej, HeR.
-/
import Derived.Laws.StructEq
import Derived.Laws.MakeOwn
import Derived.Laws.Small
import Derived.Laws.CopyRow
import Derived.Lib.AppendZerosOnto
import Derived.Lib.Overlaps
import Derived.Shelf.LaysM
import Derived.Shelf.Bytes.StringAt
import Derived.Shelf.Bytes.WriteByteAt
import Derived.Test.YtdpnnclkkbfihaaDoorZa
/-
  More operations: complex numbers, floats, structs of two cells, a result that lies in a cell.
-/
namespace Go.Proofs.YtdpnnclkkbfihaaDoor
open Go
set_option linter.unusedSimpArgs false
set_option linter.unusedVariables false

section
variable {P : Program} {ρ : Operand → Value} {o : Oper} {w : World} {x y : Operand} {t u : TypeId} {k : IntKind}

theorem r_cmul {a b c d re im : Nat} (ho : o.op = .binOp .mul t x y u) (hx : ρ x = .complex .f64 a b) (hy : ρ y = .complex .f64 c d) (h : cMulBits a b c d = some (re, im)) : (execOp ρ o).run P w = .ok (.value (.complex .f64 re im)) w := by
  have h1 := run_complex_mul (P := P) w t a b c d re im h
  simp [execOp, ho, hx, hy, h1, eqGuard]
theorem r_cadd {a b c d re im : Nat} (ho : o.op = .binOp .add t x y u) (hx : ρ x = .complex .f64 a b) (hy : ρ y = .complex .f64 c d) (h : cSumBits .add .f64 a b c d = some (re, im)) : (execOp ρ o).run P w = .ok (.value (.complex .f64 re im)) w := by
  have h1 := run_complex_sum (P := P) w .add (.inl rfl) t .f64 a b c d re im h
  simp [execOp, ho, hx, hy, h1, eqGuard]
theorem r_ceql {a b c d : Nat} (ho : o.op = .binOp .eql t x y u) (hx : ρ x = .complex .f64 a b) (hy : ρ y = .complex .f64 c d) :
    (execOp ρ o).run P w = .ok (.value (.bool ((FloatKind.f64.format.order a c == some .eq) && (FloatKind.f64.format.order b d == some .eq)))) w := by
  have h1 := run_eql_complex (P := P) w t .f64 a b c d
  simp only [execOp, ho, hx, hy, Sem.run_bind, h1, Result.andThen_ok, Sem.run_pure, eqGuard]
  simp [h1, go_sem]
theorem r_itof {a : Int} (ho : o.op = .convert t u x) (hx : ρ x = .int k a) (hs : (P.underlying t).isSome = true) (hd : P.underlying u = some (.float .f64)) : (execOp ρ o).run P w = .ok (.value (.float .f64 (floatOfInt .f64 a))) w := by
  have h1 := run_convert_int_float (P := P) w t u k .f64 a hs hd
  simp only [execOp, ho, hx, Sem.run_bind, h1, Result.andThen_ok, Sem.run_pure]
theorem r_ftoi {b : Nat} {a : Int} (ho : o.op = .convert t u x) (hx : ρ x = .float .f64 b) (hs : (P.underlying t).isSome = true) (hd : P.underlying u = some (.int .i64)) (h : FI b a) (ha : a.natAbs < 9007199254740992) : (execOp ρ o).run P w = .ok (.value (.int .i64 a)) w := by
  have hv : floatToIntVal .f64 b .i64 = some a := by
    have h1 : (FloatKind.f64.decode b).toInt .zero = some a := toInt_FI h
    unfold floatToIntVal
    rw [h1]
    simp only [IntKind.min, IntKind.max, IntKind.signed, IntKind.bits]
    exact if_pos (by constructor <;> simp <;> omega)
  have h1 := run_convert_float_int (P := P) w t u .f64 .i64 b a hs hd hv
  simp only [execOp, ho, hx, Sem.run_bind, h1, Result.andThen_ok, Sem.run_pure]

theorem r_complexB {a b : Nat} {ts : Array TypeId} (ho : o.op = .call { callee := .builtin .complex, args := #[x, y], argTypes := ts }) (hx : ρ x = .float .f64 a) (hy : ρ y = .float .f64 b) : (execOp ρ o).run P w = .ok (.value (.complex .f64 a b)) w := by
  simp [execOp, ho, resolve, invoke, builtin, hx, hy, run_complex]
theorem r_realB {a b : Nat} {ts : Array TypeId} (ho : o.op = .call { callee := .builtin .real, args := #[x], argTypes := ts }) (hx : ρ x = .complex .f64 a b) : (execOp ρ o).run P w = .ok (.value (.float .f64 a)) w := by
  simp [execOp, ho, resolve, invoke, builtin, hx, run_real]
theorem r_imagB {a b : Nat} {ts : Array TypeId} (ho : o.op = .call { callee := .builtin .imag, args := #[x], argTypes := ts }) (hx : ρ x = .complex .f64 a b) : (execOp ρ o).run P w = .ok (.value (.float .f64 b)) w := by
  simp [execOp, ho, resolve, invoke, builtin, hx, run_imag]

theorem r_store2 {g off : Nat} {v0 v1 : Value} {cs : Array Value} {T : TypeId} (ho : o.op = .store t x y) (hx : ρ x = .pointer (some ⟨g, off, none⟩)) (hy : ρ y = .agg #[v0, v1]) (hz : sizeIs P t 2 = true) (hb : Blk w g cs T) (hlt : Nat.blt (off + 1) cs.size = true) (h0 : v0.oneCell' = true) (h1 : v1.oneCell' = true) :
    (execOp ρ o).run P w = .ok .skip ((w.setCell ⟨g, off, none⟩ v0).setCell ⟨g, off + 1, none⟩ v1) := by
  have hlt' : off + 1 < cs.size := Eq.mp Nat.blt_eq hlt
  have hc0 := hb.cell (o := off) (v := cs[off]) (by simp)
  have hf0 := hb.free off
  have hst0 := run_store_cell (P := P) hc0 hf0 h0
  have hb1 := hb.set off v0
  have hc1 := hb1.cell (o := off + 1) (v := cs[off + 1]) (by rw [Array.getElem?_setIfInBounds_ne (by omega)]; simp [hlt'])
  have hf1 := hb1.free (off + 1)
  have hst1 := run_store_cell (P := P) hc1 hf1 h1
  have ha0 : (Addr.mk g off none).add 0 = ⟨g, off, none⟩ := rfl
  have ha1 : (Addr.mk g off none).add 1 = ⟨g, off + 1, none⟩ := rfl
  simp [execOp, ho, hx, hy, Instr.storeAt, Instr.sureAddr, storeVar, run_sizeOf hz, storeCells, Value.cells, ha0, ha1, hst0, hst1]
end

section
variable {P : Program} {o : Oper} {w : World} {x y : Operand} {t : TypeId} {N : Nat} {ops : Array Oper} {Q : Exit → Act → World → Prop} {K : Env → World → Prop} {E : Env}
theorem SO.store2 {g off : Nat} {v0 v1 : Value} {cs : Array Value} {T : TypeId} (hop : o.op = .store t x y) (hx : Env.ev E x = .pointer (some ⟨g, off, none⟩)) (hy : Env.ev E y = .agg #[v0, v1]) (hz : sizeIs P t 2 = true) (hb : Blk w g cs T) (hlt : Nat.blt (off + 1) cs.size = true) (h0 : v0.oneCell' = true) (h1 : v1.oneCell' = true)
    (hd : o.dst = none) (ho : opsOK E o = true) (hw : wantedE ops E o = some true)
    (k : ∀ w', Upd (At g) w w' → Blk w' g ((cs.setIfInBounds off v0).setIfInBounds (off + 1) v1) T → w'.heap.size = w.heap.size → K E w') : SO P N ops Q o K E w :=
  SO.eff hd ho hw (r_store2 hop hx hy hz hb hlt h0 h1) (k _ ((Upd.setCell w ⟨g, off, none⟩ v0).trans_same (Upd.setCell _ ⟨g, off + 1, none⟩ v1)) ((hb.set off v0).set (off + 1) v1) (by rw [World.size_setCell, World.size_setCell]))
end

section
variable {P : Program} {N : Nat} {E : Env} {w : World} {fn : Func} {R : Value → World → Prop}
theorem result_cell {a : Act} (h : Sat N E a) {b : Nat} {t : TypeId} {p : Addr} {vs : List Value} (hl : fn.results = #[.cell b t]) (hr : Env.get E b = some (.pointer (some p))) (ht : aggB P t = true) (hn : sizeIs P t vs.length = true) (hc : CellsAt w p vs) :
    (results fn a.tmps).run P w = .ok (.agg vs.toArray) w := by
  have h3 : a.tmps[b]?.getD undef = .pointer (some p) := by rw [h.vals b _ hr]; rfl
  have hl2 := run_loadCells_list (P := P) w p vs hc
  simp only [loadCells] at hl2
  unfold results
  rw [hl]
  simp [h3, asAddr, loadVar, run_isAgg_agg ht, run_sizeOf hn, hl2, go_sem]
theorem WX.retC {b : Nat} {t : TypeId} {p : Addr} {vs : List Value} (hl : fn.results = #[.cell b t]) (hr : Env.get E b = some (.pointer (some p))) (ht : aggB P t = true) (hn : sizeIs P t vs.length = true) (hc : CellsAt w p vs) (k : R (.agg vs.toArray) w) :
    WX N (bodyPost P fn fun e w' => ∃ v, e = .returned v ∧ R v w') .ret E w := fun a h => ⟨h.defers, _, result_cell h hl hr ht hn hc, _, rfl, k⟩
theorem WX.endC {b : Nat} {t : TypeId} {p : Addr} {vs : List Value} (hl : fn.results = #[.cell b t]) (hr : Env.get E b = some (.pointer (some p))) (ht : aggB P t = true) (hn : sizeIs P t vs.length = true) (hc : CellsAt w p vs) (k : R (.agg vs.toArray) w) :
    WX N (bodyPost P fn fun e w' => ∃ v, e = .returned v ∧ R v w') .normal E w := fun a h => ⟨h.defers, _, result_cell h hl hr ht hn hc, _, rfl, k⟩
theorem Blk.cells2 {w : World} {g : Nat} {v0 v1 : Value} {T : TypeId} (h : Blk w g #[v0, v1] T) : CellsAt w ⟨g, 0, none⟩ [v0, v1] := fun j v hj => by
  match j, hj with
  | 0, hj => simp at hj; subst hj; exact h.cell rfl
  | 1, hj => simp at hj; subst hj; exact h.cell rfl
end

section
variable {P : Program} {N : Nat} {E : Env} {w : World} {fn : Func} {R : Value → World → Prop}
/-- results, in temporaries and in cells -/
def resM (P : Program) (w : World) (E : Env) : List ResultVar → List Value → Prop
  | [], [] => True
  | .tmp t :: l, v :: vs => Env.get E t = some v ∧ resM P w E l vs
  | .cell b t :: l, v :: vs => (∃ p us, Env.get E b = some (.pointer (some p)) ∧ aggB P t = true ∧ sizeIs P t us.length = true ∧ CellsAt w p us ∧ v = .agg us.toArray) ∧ resM P w E l vs
  | _, _ => False

theorem resM_run {a : Act} (h : Sat N E a) : ∀ {l : List ResultVar} {vs : List Value}, resM P w E l vs →
    (l.mapM (m := Sem) fun r => match r with | .tmp t => pure (a.tmps.getD t undef) | .cell b t => do loadVar t (← asAddr (a.tmps.getD b undef))).run P w = .ok vs w
  | [], [], _ => by simp [go_sem]
  | [], _ :: _, h => h.elim
  | .tmp _ :: _, [], h => h.elim
  | .cell _ _ :: _, [], h => h.elim
  | .tmp t :: l, v :: vs, hr => by
    have h1 := h.vals t v hr.1
    have h2 := resM_run h hr.2
    have h3 : a.tmps[t]?.getD undef = v := by rw [h1]; rfl
    simp only [Array.getD_eq_getD_getElem?] at h2 ⊢
    simp [List.mapM_cons, h2, h3]
  | .cell b t :: l, v :: vs, hr => by
    obtain ⟨⟨p, us, hb, ht, hn, hc, rfl⟩, hr2⟩ := hr
    have h2 := resM_run h hr2
    have h3 : a.tmps[b]?.getD undef = .pointer (some p) := by rw [h.vals b _ hb]; rfl
    have hl2 := run_loadCells_list (P := P) w p us hc
    simp only [loadCells] at hl2
    simp only [Array.getD_eq_getD_getElem?] at h2 ⊢
    have e1 : (do loadVar t (← asAddr (a.tmps[b]?.getD undef)) : Sem Value).run P w = .ok (.agg us.toArray) w := by
      simp [h3, asAddr, loadVar, run_isAgg_agg ht, run_sizeOf hn, hl2, go_sem]
    rw [List.mapM_cons, Sem.run_bind, e1, Result.andThen_ok, Sem.run_bind, h2, Result.andThen_ok, Sem.run_pure]

theorem resM_results {a : Act} (h : Sat N E a) {l : List ResultVar} {vs : List Value} (hl : fn.results = l.toArray) (hr : resM P w E l vs) : (results fn a.tmps).run P w = .ok (tupleOf vs) w := by
  have h1 := resM_run (P := P) (w := w) h hr
  unfold results
  rw [hl, List.mapM_toArray]
  simp only [Sem.run_bind]
  have h2 : (Sem.run P (List.mapM (m := Sem) (fun x => match x with
    | ResultVar.tmp t => pure (a.tmps[t]?.getD undef)
    | ResultVar.cell b t => do loadVar t (← asAddr (a.tmps[b]?.getD undef))) l) w) = .ok vs w := by
    simpa only [Array.getD_eq_getD_getElem?] using h1
  simp only [Array.getD_eq_getD_getElem?]
  simp
  erw [h2]
  match vs with
  | [] => rfl
  | [v] => rfl
  | a :: b :: r => simp [tupleOf]
theorem WX.retM {l : List ResultVar} {vs : List Value} (hl : fn.results = l.toArray) (hr : resM P w E l vs) (k : R (tupleOf vs) w) :
    WX N (bodyPost P fn fun e w' => ∃ v, e = .returned v ∧ R v w') .ret E w := fun a h => ⟨h.defers, _, resM_results h hl hr, _, rfl, k⟩
end

/-- n & 3 -/
theorem bits_and3 {n : Int} (h1 : -9223372036854775808 ≤ n) (h2 : n ≤ 9223372036854775807) : bits .and .i64 n 3 = n % 4 := by
  have h : (BitVec.ofInt 64 n &&& BitVec.ofInt 64 3 : BitVec 64).toNat = (n % 4).toNat := by
    rw [BitVec.toNat_and]
    have e3 : (BitVec.ofInt 64 3).toNat = 3 := by decide
    rw [e3, show (3 : Nat) = 2 ^ 2 - 1 from rfl, Nat.and_two_pow_sub_one_eq_mod, BitVec.toNat_ofInt]
    omega
  show IntKind.i64.wrap (((BitVec.ofInt 64 n &&& BitVec.ofInt 64 3 : BitVec 64).toNat : Nat) : Int) = _
  rw [h, wrap_i64_in (by omega) (by omega)]
  omega
end Go.Proofs.YtdpnnclkkbfihaaDoor

/-
  More operations: structs of two whole numbers, compared.
-/
namespace Go.Proofs.YtdpnnclkkbfihaaDoor
open Go
set_option linter.unusedSimpArgs false
set_option linter.unusedVariables false

section
variable {P : Program} {ρ : Operand → Value} {o : Oper} {w : World} {x y : Operand} {t u : TypeId}

/-- a struct type of two int64 fields, that may be compared -/
structure PairT (P : Program) (t : TypeId) (f0 f1 : Field) : Prop where
  und : P.underlying t = some (.struct (P.fieldsOf t))
  held : P.stoodInHeld t = false
  guard : P.eqGuardType P.depth t = false
  fields : P.fieldsOf t = #[f0, f1]
  name : f0.name ≠ "_" ∧ f1.name ≠ "_"
  off : f0.offset = 0 ∧ f1.offset = 1
  int0 : P.underlying f0.type = some (.int .i64)
  int1 : P.underlying f1.type = some (.int .i64)
  flat : flatB P f0.type = true ∧ flatB P f1.type = true

theorem run_equalIn_i64 (d : Nat) {t : TypeId} (ht : P.underlying t = some (.int .i64)) (w : World) (a b : Int) : (Op.equalIn (d + 1) t (.int .i64 a) (.int .i64 b)).run P w = .ok (a == b) w := by
  simp [Op.equalIn, run_underlying ht]

theorem run_eqlPair {f0 f1 : Field} (h : PairT P t f0 f1) (w : World) (a b c d : Int) :
    (Op.equal t (.agg #[.int .i64 a, .int .i64 b]) (.agg #[.int .i64 c, .int .i64 d])).run P w = .ok (decide (a = c) && decide (b = d)) w := by
  have h1 := run_equalIn_struct (P := P) w 9999 t #[.int .i64 a, .int .i64 b] #[.int .i64 c, .int .i64 d] h.und h.held
  have h2 : (Op.equal t (.agg #[.int .i64 a, .int .i64 b]) (.agg #[.int .i64 c, .int .i64 d])).run P w = (Op.equalIn (9999 + 1) t (.agg #[.int .i64 a, .int .i64 b]) (.agg #[.int .i64 c, .int .i64 d])).run P w := rfl
  rw [h2, h1, h.fields]
  have e0 := run_isAgg_flat (P := P) (w := w) h.flat.1
  have e1 := run_isAgg_flat (P := P) (w := w) h.flat.2
  have q0 := run_equalIn_i64 (P := P) 9998 h.int0 w a c
  have q1 := run_equalIn_i64 (P := P) 9998 h.int1 w b d
  generalize hd : 9998 + 1 = D at q0 q1
  have hD : (9999 : Nat) = D := hd
  rw [hD]
  cases ha : (a == c) <;> cases hb : (b == d) <;> rw [ha] at q0 <;> rw [hb] at q1 <;> rw [show decide (a = c) = (a == c) from rfl, show decide (b = d) = (b == d) from rfl, ha, hb] <;> simp [Op.eqFields, h.name.1, h.name.2, h.off.1, h.off.2, part, e0, e1, q0, q1]

theorem r_eqlPair {f0 f1 : Field} {a b c d : Int} (ho : o.op = .binOp .eql t x y u) (hx : ρ x = .agg #[.int .i64 a, .int .i64 b]) (hy : ρ y = .agg #[.int .i64 c, .int .i64 d]) (h : PairT P t f0 f1) :
    (execOp ρ o).run P w = .ok (.value (.bool (decide (a = c) && decide (b = d)))) w := by
  have h1 := run_eqlPair h w a b c d
  simp [execOp, ho, hx, hy, eqGuard, h.guard, binOp, h1, go_sem]
theorem r_neqPair {f0 f1 : Field} {a b c d : Int} (ho : o.op = .binOp .neq t x y u) (hx : ρ x = .agg #[.int .i64 a, .int .i64 b]) (hy : ρ y = .agg #[.int .i64 c, .int .i64 d]) (h : PairT P t f0 f1) :
    (execOp ρ o).run P w = .ok (.value (.bool (!(decide (a = c) && decide (b = d))))) w := by
  have h1 := run_eqlPair h w a b c d
  simp [execOp, ho, hx, hy, eqGuard, h.guard, binOp, h1, go_sem]
end
end Go.Proofs.YtdpnnclkkbfihaaDoor

/-
  More operations: a row of zeros.
-/
namespace Go.Proofs.YtdpnnclkkbfihaaDoor
open Go
set_option linter.unusedSimpArgs false
set_option linter.unusedVariables false

section
variable {P : Program} {ρ : Operand → Value} {o : Oper} {w : World} {x y : Operand} {t e : TypeId}
theorem r_makeSlice {by_ sz n : Nat} {z : Value} {k k' : IntKind} (ho : o.op = .makeSlice t x y) (hx : ρ x = .int k (n : Int)) (hy : ρ y = .int k' (n : Int)) (hr : RowT P t e sz by_ z) (hb : by_ * n ≤ 281474976710656) (hn : n ≤ 281474976710656) :
    (execOp ρ o).run P w = .ok (.value (.slice (some ⟨w.heap.size, 0, none⟩) n n)) (w.alloc (.cells (rowCells z n) e)) := by
  obtain ⟨i, hi, hz, hs, hby⟩ := hr.parts
  have hb' : (i.bytes : Int) * (n : Int) ≤ 281474976710656 := by
    have h : ((i.bytes * n : Nat) : Int) ≤ 281474976710656 := by rw [hby]; omega
    rwa [Int.natCast_mul] at h
  have h1 := run_make (P := P) w t e i z hr.und hi hz k k' n n (by omega) (Int.le_refl _) hb' (by omega)
  rw [Int.toNat_natCast, hs] at h1
  have h2 : madeCells z.cells (n * sz) = rowCells z n := rowCells_eq z n sz hr.cells hr.pos
  rw [h2] at h1
  simp only [execOp, ho, hx, hy, Sem.run_bind, h1, Result.andThen_ok, Sem.run_pure]
end
end Go.Proofs.YtdpnnclkkbfihaaDoor

/-
  More operations: the lesser and the greater of two numbers; complex numbers compared.
-/
namespace Go.Proofs.YtdpnnclkkbfihaaDoor
open Go Ieee
set_option linter.unusedSimpArgs false
set_option linter.unusedVariables false

section
variable {P : Program} {ρ : Operand → Value} {o : Oper} {w : World} {x y : Operand} {k k' : IntKind} {a b : Int}
theorem r_min {ts : Array TypeId} (ho : o.op = .call { callee := .builtin .min, args := #[x, y], argTypes := ts }) (hx : ρ x = .int k a) (hy : ρ y = .int k' b) : (execOp ρ o).run P w = .ok (.value (.int k (if b < a then b else a))) w := by
  simp [execOp, ho, resolve, invoke, builtin, hx, hy, run_min_int2]
theorem r_max {ts : Array TypeId} (ho : o.op = .call { callee := .builtin .max, args := #[x, y], argTypes := ts }) (hx : ρ x = .int k a) (hy : ρ y = .int k' b) : (execOp ρ o).run P w = .ok (.value (.int k (if b > a then b else a))) w := by
  simp [execOp, ho, resolve, invoke, builtin, hx, hy, run_max_int2]
theorem r_negN {t : TypeId} (ho : o.op = .unOp .neg t x) (hx : ρ x = .int k a) (h : inK k (-a)) : (execOp ρ o).run P w = .ok (.value (.int k (-a))) w := by
  rw [r_neg ho hx, wrap_in h]
end

theorem order_FI {x y : Nat} {a b : Int} (hx : FI x a) (hy : FI y b) : (FloatKind.f64.format.order x y == some .eq) = decide (a = b) := by
  obtain ⟨s, m, k, hd, hm, hs⟩ := hx
  obtain ⟨t, n, l, hd', hn, ht⟩ := hy
  have hb : min (-(k : Int)) (-(l : Int)) = -((max k l : Nat) : Int) := by omega
  have e1 : (-(k : Int) - -((max k l : Nat) : Int)).toNat = max k l - k := by omega
  have e2 : (-(l : Int) - -((max k l : Nat) : Int)).toNat = max k l - l := by omega
  have f1 := signed_of (u := max k l - k) hm hs
  have f2 := signed_of (u := max k l - l) hn ht
  rw [show k + (max k l - k) = max k l by omega] at f1
  rw [show l + (max k l - l) = max k l by omega] at f2
  have h1 : FloatKind.f64.format.order x y = some (compare (a * 2 ^ max k l) (b * 2 ^ max k l)) := by
    show ((double.read x).order (double.read y)) = _
    rw [hd, hd']
    simp only [Datum.order]
    rw [hb, e1, e2, f1, f2]
  rw [h1]
  generalize max k l = q
  have hp := pow_pos_int q
  by_cases h : a = b
  · subst h
    simp
  · have hne : a * 2 ^ q ≠ b * 2 ^ q := fun e => h (Int.eq_of_mul_eq_mul_right (by omega) e)
    have hc : compare (a * 2 ^ q) (b * 2 ^ q) ≠ .eq := fun e => hne (Std.LawfulEqOrd.eq_of_compare e)
    rw [Bool.eq_iff_iff]
    simp [h, hc]
end Go.Proofs.YtdpnnclkkbfihaaDoor

/-
  More operations: an array's element.
-/
namespace Go.Proofs.YtdpnnclkkbfihaaDoor
open Go
set_option linter.unusedSimpArgs false
set_option linter.unusedVariables false

section
variable {P : Program} {ρ : Operand → Value} {o : Oper} {w : World} {x y : Operand} {t e : TypeId} {k : IntKind}
theorem r_indexArr {g off n sz : Nat} {i : Int} (ho : o.op = .indexAddr t x y) (hx : ρ x = .pointer (some ⟨g, off, none⟩)) (hy : ρ y = .int k i) (hu : P.underlying t = some (.array n e)) (hz : sizeIs P e sz = true) (h0 : 0 ≤ i) (h1 : i < n) :
    (execOp ρ o).run P w = .ok (.value (.pointer (some ⟨g, off + i.toNat * sz, none⟩))) w := by
  have hadd : (⟨g, off, none⟩ : Addr).add (i.toNat * sz) = ⟨g, off + i.toNat * sz, none⟩ := Addr.add_lit _ _ _
  simp [execOp, ho, hx, hy, Instr.indexAt, run_underlying hu, asIntOf, Instr.sureAddr, h0, h1, run_sizeOf hz, hadd, go_sem]
end
end Go.Proofs.YtdpnnclkkbfihaaDoor

/-
  heap: words.
-/
namespace Go.Proofs.YtdpnnclkkbfihaaDoor
open Go
set_option linter.unusedSimpArgs false
set_option linter.unusedVariables false

theorem num_ok {w : World} {n : Int} : Ret Tryd.prog 17 #[.int .i64 n] w fun v w' => v = .int .u64 ((numW n : Nat) : Int) ∧ w = w' := by
  refine enterRet (vs := [_]) (N := 7) Tryd.func17 rfl rfl rfl ?_
  refine WC.keep [(0, _)] ⟨rfl, trivial⟩ ?_
  refine WC.seq ?_
  refine WC.region ?_
  refine WL.val rfl rfl rfl rfl (r_assign rfl ev_c) ?_
  refine WL.nil ?_
  refine WX.keep [(0, _)] ⟨rfl, trivial⟩ ?_
  refine WX.next ?_
  refine WC.seq ?_
  refine WC.region ?_
  refine WL.val rfl rfl rfl rfl (r_move rfl (ev_t rfl)) ?_
  first | refine WL.val rfl rfl rfl rfl (r_convN rfl (ev_t rfl) some_2 int_32 (by simp only [inK]; omega)) ?_ | refine WL.val rfl rfl rfl rfl (r_conv rfl (ev_t rfl) some_2 int_32) ?_
  refine WL.val rfl rfl rfl rfl (r_shl rfl (ev_t rfl) ev_c (by omega) (by simp only [IntKind.bits]; omega)) ?_
  refine WL.val rfl rfl rfl rfl (r_or rfl (ev_t rfl) ev_c) ?_
  refine WL.val rfl rfl rfl rfl (r_assign rfl (ev_t rfl)) ?_
  refine WL.nil ?_
  refine WX.keep [(2, _)] ⟨rfl, trivial⟩ ?_
  refine WX.next ?_
  refine WC.ret ?_
  refine WX.retE1 rfl rfl ?_
  exact ⟨by rw [num_val], rfl⟩
theorem wN_ok {w : World} {x : Nat} : Ret Tryd.prog 18 #[.int .u64 (x : Int)] w fun v w' => v = .int .i64 (numN x) ∧ w = w' := by
  refine enterRet (vs := [_]) (N := 6) Tryd.func18 rfl rfl rfl ?_
  refine WC.keep [(0, _)] ⟨rfl, trivial⟩ ?_
  refine WC.seq ?_
  refine WC.region ?_
  refine WL.val rfl rfl rfl rfl (r_assign rfl ev_c) ?_
  refine WL.nil ?_
  refine WX.keep [(0, _)] ⟨rfl, trivial⟩ ?_
  refine WX.next ?_
  refine WC.seq ?_
  refine WC.region ?_
  refine WL.val rfl rfl rfl rfl (r_move rfl (ev_t rfl)) ?_
  first | refine WL.val rfl rfl rfl rfl (r_convN rfl (ev_t rfl) some_32 int_2 (by simp only [inK]; omega)) ?_ | refine WL.val rfl rfl rfl rfl (r_conv rfl (ev_t rfl) some_32 int_2) ?_
  refine WL.val rfl rfl rfl rfl (r_shr rfl (ev_t rfl) ev_c (by omega) (by simp only [IntKind.bits]; omega)) ?_
  refine WL.val rfl rfl rfl rfl (r_assign rfl (ev_t rfl)) ?_
  refine WL.nil ?_
  refine WX.keep [(2, _)] ⟨rfl, trivial⟩ ?_
  refine WX.next ?_
  refine WC.ret ?_
  refine WX.retE1 rfl rfl ?_
  exact ⟨rfl, rfl⟩
theorem isNum_ok {w : World} {x : Nat} (hx : x < 18446744073709551616) : Ret Tryd.prog 19 #[.int .u64 (x : Int)] w fun v w' => v = .bool (decide (x % 2 = 1)) ∧ w = w' := by
  refine enterRet (vs := [_]) (N := 6) Tryd.func19 rfl rfl rfl ?_
  refine WC.keep [(0, _)] ⟨rfl, trivial⟩ ?_
  refine WC.seq ?_
  refine WC.region ?_
  refine WL.val rfl rfl rfl rfl (r_assign rfl ev_c) ?_
  refine WL.nil ?_
  refine WX.keep [(0, _)] ⟨rfl, trivial⟩ ?_
  refine WX.next ?_
  refine WC.seq ?_
  refine WC.region ?_
  refine WL.val rfl rfl rfl rfl (r_move rfl (ev_t rfl)) ?_
  refine WL.val rfl rfl rfl rfl (r_and rfl (ev_t rfl) ev_c) ?_
  refine WL.val rfl rfl rfl rfl (r_eql rfl (ev_t rfl) ev_c) ?_
  refine WL.val rfl rfl rfl rfl (r_assign rfl (ev_t rfl)) ?_
  refine WL.nil ?_
  refine WX.keep [(2, _)] ⟨rfl, trivial⟩ ?_
  refine WX.next ?_
  refine WC.ret ?_
  refine WX.retE1 rfl rfl ?_
  refine ⟨?_, rfl⟩
  rw [bits_and1_u64 x hx]
  congr 1
  exact decide_eq_decide.2 (by omega)
end Go.Proofs.YtdpnnclkkbfihaaDoor

/-
  More operations: strings as lists of bytes, sliced and compared.
-/
namespace Go.Proofs.YtdpnnclkkbfihaaDoor
open Go
set_option linter.unusedSimpArgs false
set_option linter.unusedVariables false

theorem extract_bytes (s : List UInt8) (a b : Nat) : (ByteArray.mk s.toArray).extract a b = ⟨((s.drop a).take (b - a)).toArray⟩ := by
  apply ByteArray.ext
  apply Array.ext'
  rw [ByteArray.data_extract]
  simp [List.extract_eq_take_drop]

section
variable {P : Program} {ρ : Operand → Value} {o : Oper} {w : World} {x y : Operand} {t u : TypeId} {s s' : List UInt8}

theorem r_sliceStr {l h : Nat} {lo hi : Option Operand} (ho : o.op = .slice t x lo hi none) (hx : ρ x = .string ⟨s.toArray⟩) (hu : P.underlying t = some .string)
    (hlo : bnd ρ lo 0 l) (hhi : bnd ρ hi s.length h) (h1 : l ≤ h) (h2 : h ≤ s.length) : (execOp ρ o).run P w = .ok (.value (.string ⟨((s.drop l).take (h - l)).toArray⟩)) w := by
  have hsz : (ByteArray.mk s.toArray).size = s.length := by simp [ByteArray.size]
  have hext := extract_bytes s l h
  rcases hlo with ⟨rfl, rfl⟩ | ⟨y1, k1, b1, rfl, hy1, hb1⟩ <;> rcases hhi with ⟨rfl, rfl⟩ | ⟨y2, k2, b2, rfl, hy2, hb2⟩
  · simp [execOp, ho, hx, Instr.sliceAt, Instr.slice, run_underlying hu, Instr.sliceBounds, hsz, hext]
  · simp [execOp, ho, hx, hy2, Instr.sliceAt, Instr.slice, run_underlying hu, Instr.sliceBounds, hsz, run_sliceBound_in hb2 h2, hext]
  · simp [execOp, ho, hx, hy1, Instr.sliceAt, Instr.slice, run_underlying hu, Instr.sliceBounds, hsz, run_sliceBound_in hb1 h1, hext]
  · simp [execOp, ho, hx, hy1, hy2, Instr.sliceAt, Instr.slice, run_underlying hu, Instr.sliceBounds, hsz, run_sliceBound_in hb1 h1, run_sliceBound_in hb2 h2, hext]

theorem r_eqlStrL (ho : o.op = .binOp .eql t x y u) (hx : ρ x = .string ⟨s.toArray⟩) (hy : ρ y = .string ⟨s'.toArray⟩) : (execOp ρ o).run P w = .ok (.value (.bool (decide (s = s')))) w := by
  rw [r_eqlStr ho hx hy, mk_toList, mk_toList]
theorem r_neqStrL (ho : o.op = .binOp .neq t x y u) (hx : ρ x = .string ⟨s.toArray⟩) (hy : ρ y = .string ⟨s'.toArray⟩) : (execOp ρ o).run P w = .ok (.value (.bool (decide (s ≠ s')))) w := by
  rw [r_neqStr ho hx hy, mk_toList, mk_toList]
theorem r_lenStrL (ho : o.op = .call { callee := .builtin .len, args := #[x], argTypes := #[t] }) (hx : ρ x = .string ⟨s.toArray⟩) (hu : P.underlying t = some .string) : (execOp ρ o).run P w = .ok (.value (.int .i64 (s.length : Int))) w := by
  rw [r_lenString ho hx hu]
  simp [ByteArray.size]
theorem r_addStrL (ho : o.op = .binOp .add t x y u) (hx : ρ x = .string ⟨s.toArray⟩) (hy : ρ y = .string ⟨s'.toArray⟩) (h : s.length + s'.length ≤ 9223372036854775807) : (execOp ρ o).run P w = .ok (.value (.string ⟨(s ++ s').toArray⟩)) w := by
  rw [r_addStr ho hx hy (by simpa [ByteArray.size] using h)]
  congr 3
end
end Go.Proofs.YtdpnnclkkbfihaaDoor

/-
  More operations: structs of any size, stored and loaded.
-/
namespace Go.Proofs.YtdpnnclkkbfihaaDoor
open Go
set_option linter.unusedSimpArgs false
set_option linter.unusedVariables false

theorem heap_setRow_ne (w : World) (g : Nat) (cs : Array Value) (k : Nat) (hk : ¬ k = g) : (w.setRow g cs).heap[k]? = w.heap[k]? := by
  have hne : ¬ g = k := fun h => hk h.symm
  simp [World.setRow, Array.getElem?_modify, hne]
theorem Upd.setRow (w : World) (g : Nat) (cs : Array Value) : Upd (At g) w (w.setRow g cs) :=
  ⟨rfl, rfl, rfl, by simp [World.setRow], fun k _ hn => heap_setRow_ne w g cs k hn⟩

section
variable {P : Program} {o : Oper} {w : World} {x y : Operand} {t : TypeId} {N : Nat} {ops : Array Oper} {Q : Exit → Act → World → Prop} {K : Env → World → Prop} {E : Env}

theorem r_storeN {ρ : Operand → Value} {g off : Nat} {us : List Value} {cs : Array Value} {T : TypeId} (ho : o.op = .store t x y) (hx : ρ x = .pointer (some ⟨g, off, none⟩)) (hy : ρ y = .agg us.toArray) (hz : sizeIs P t us.length = true) (hb : Blk w g cs T) (hle : off + us.length ≤ cs.size) (h1 : us.all Value.oneCell' = true) :
    (execOp ρ o).run P w = .ok .skip (w.setRow g (cs.toList.take off ++ us ++ cs.toList.drop (off + us.length)).toArray) := by
  have h2 := run_storeCells_at P g off T us 0 cs w hb (by omega) (fun v hv => List.all_eq_true.1 h1 v hv)
  rw [Nat.add_zero] at h2
  simp [execOp, ho, hx, hy, Instr.storeAt, Instr.sureAddr, storeVar, run_sizeOf hz, Value.cells, h2]

theorem SO.storeN {g off : Nat} {us : List Value} {cs : Array Value} {T : TypeId} (hop : o.op = .store t x y) (hx : Env.ev E x = .pointer (some ⟨g, off, none⟩)) (hy : Env.ev E y = .agg us.toArray) (hz : sizeIs P t us.length = true) (hb : Blk w g cs T) (hle : off + us.length ≤ cs.size) (h1 : us.all Value.oneCell' = true)
    (hd : o.dst = none) (ho : opsOK E o = true) (hw : wantedE ops E o = some true)
    (k : ∀ w', Upd (At g) w w' → Blk w' g (cs.toList.take off ++ us ++ cs.toList.drop (off + us.length)).toArray T → w'.heap.size = w.heap.size → K E w') : SO P N ops Q o K E w :=
  SO.eff hd ho hw (r_storeN hop hx hy hz hb hle h1) (k _ (Upd.setRow _ _ _) (setRow_heap w g cs _ T _ hb) (by simp [World.setRow]))
/-- the whole block -/
theorem SO.storeAll {g : Nat} {us : List Value} {cs : Array Value} {T : TypeId} (hop : o.op = .store t x y) (hx : Env.ev E x = .pointer (some ⟨g, 0, none⟩)) (hy : Env.ev E y = .agg us.toArray) (hz : sizeIs P t us.length = true) (hb : Blk w g cs T) (hle : cs.size = us.length) (h1 : us.all Value.oneCell' = true)
    (hd : o.dst = none) (ho : opsOK E o = true) (hw : wantedE ops E o = some true)
    (k : ∀ w', Upd (At g) w w' → Blk w' g us.toArray T → w'.heap.size = w.heap.size → K E w') : SO P N ops Q o K E w :=
  SO.storeN hop hx hy hz hb (by omega) h1 hd ho hw (fun w' hu hb' hs => k w' hu (by
    have e : cs.toList.take 0 ++ us ++ cs.toList.drop (0 + us.length) = us := by
      rw [Nat.zero_add, List.drop_of_length_le (by simp [hle]), List.take_zero]
      simp
    rwa [e] at hb') hs)

/-- a row written over whole -/
theorem SO.copyAll {d : Nat} {t2 e : TypeId} {g n c : Nat} {v2 : Value} {cur : Array Value} {T : TypeId} {xs : List Value} {F2 : Nat → Prop} (hb : Blk w g cur T) (hn : cur.size = n) (hsrc : Rd w F2 v2 n 1 xs) (h1 : ∀ u ∈ xs, u.oneCell' = true) (hu : sliceElem P t = some e) (hs : sizeIs P e 1 = true)
    (hop : o.op = .call { callee := .builtin .copy, args := #[x, y], argTypes := #[t, t2] }) (hx : Env.ev E x = .slice (some ⟨g, 0, none⟩) n c) (hy : Env.ev E y = v2)
    (hd : o.dst = some d) (hN : Nat.blt d N = true) (ho : opsOK E o = true) (hw : wantedE ops E o = some true)
    (k : ∀ w', Upd (At g) w w' → Blk w' g xs.toArray T → w'.heap.size = w.heap.size → K ((d, .int .i64 (n : Int)) :: E) w') : SO P N ops Q o K E w := by
  have hlen : xs.length = n := by have := hsrc.len; omega
  have hz : (P.info? e).map (·.size) = some 1 := by
    unfold sizeIs at hs
    cases hi : P.info? e with
    | none => simp [hi] at hs
    | some i => rw [hi] at hs; simpa using hs
  rcases hsrc.src (by decide) with ⟨h0, hxs, A, c', rfl⟩ | ⟨ad, c', rfl, hcells⟩
  · subst h0
    subst hxs
    have hcur : cur = #[] := Array.eq_empty_of_size_eq_zero hn
    subst hcur
    have hrun : (Builtin.copy_ #[t, t2] o.type #[.slice (some ⟨g, 0, none⟩) 0 c, .slice A 0 c']).run P w = .ok (goInt 0) w := by
      cases hq : P.info? e with
      | none => simp [hq] at hz
      | some i =>
        cases A with
        | none => simp [Builtin.copy_, run_underlying (sliceElem_und hu), Builtin.lenOf, Builtin.firstCells, sizeOf, typeInfo, hq, storeCells]
        | some a => simp [Builtin.copy_, run_underlying (sliceElem_und hu), Builtin.lenOf, Builtin.firstCells, sizeOf, typeInfo, hq, storeCells, loadCells, loadCellsFrom]
    refine SO.val (v := .int .i64 ((0 : Nat) : Int)) (w' := w) hd hN ho hw ?_ (k w (Upd.refl _ _) hb rfl)
    unfold execOp
    simp only [hop, resolve, invoke, builtin, Sem.run_bind, Sem.run_pure, Result.andThen_ok, List.map_toArray, List.map_cons, List.map_nil, hx, hy, hrun]
    rfl
  · have hrun := run_copy_row P w t t2 o.type e g 0 n c ad n c' cur T xs (sliceElem_und hu) hz hb (by rw [hlen]; simp) hcells (by omega) h1
    have e1 : (cur.toList.take 0 ++ xs ++ cur.toList.drop (0 + xs.length)).toArray = xs.toArray := by
      rw [Nat.zero_add, List.drop_of_length_le (by simp [hn, hlen]), List.take_zero]
      simp
    rw [e1, hlen] at hrun
    refine SO.val (v := .int .i64 (n : Int)) (w' := w.setRow g xs.toArray) hd hN ho hw ?_ (k _ (Upd.setRow _ _ _) (setRow_heap w g cur _ T _ hb) (by simp [World.setRow]))
    unfold execOp
    simp only [hop, resolve, invoke, builtin, Sem.run_bind, Sem.run_pure, Result.andThen_ok, List.map_toArray, List.map_cons, List.map_nil, hx, hy, hrun]
    rfl
end

theorem Own.nilGrow {w w' w0 : World} {T : TypeId} {sz n : Nat} {v : Value} {xs : List Value} (h : Own w0 (Grow (fun _ => False) w w') T sz v n xs) : Own w0 (New w w') T sz v n xs := h.mono fun k hk => hk.elim (fun h => h.elim) (fun h => h)
theorem Blk.cellsL {w : World} {g : Nat} {us : List Value} {T : TypeId} (h : Blk w g us.toArray T) : CellsAt w ⟨g, 0, none⟩ us := fun j v hj => by
  rw [Addr.add_lit, Nat.zero_add]
  exact h.cell (by simpa using hj)
theorem Blk.cellsP {w : World} {g off : Nat} {cs : Array Value} {us : List Value} {T : TypeId} (h : Blk w g cs T) (hu : ∀ j v, us[j]? = some v → cs[off + j]? = some v) : CellsAt w ⟨g, off, none⟩ us := fun j v hj => by
  rw [Addr.add_lit]
  exact h.cell (hu j v hj)
theorem Rd.cellsL {w : World} {F : Nat → Prop} {b off n c sz q i : Nat} {xs us : List Value} (hr : Rd w F (.slice (some ⟨b, off, none⟩) n c) n sz xs) (hq : q = off + i) (hu : ∀ j v, us[j]? = some v → xs[i + j]? = some v) : CellsAt w ⟨b, q, none⟩ us := fun j v hj => by
  subst hq
  rw [Addr.add_lit]
  exact hr.cell (j := i + j) (by omega) (hu j v hj)
/-- the cells of one of the elements -/
theorem flatMap_get {α : Type} {dec : α → List Value} {sz : Nat} (hd : ∀ a, (dec a).length = sz) : ∀ {l : List α} {i : Nat} {a : α}, l[i]? = some a → ∀ j v, (dec a)[j]? = some v → (l.flatMap dec)[i * sz + j]? = some v
  | [], i, a, h, _, _, _ => by simp at h
  | b :: l, 0, a, h, j, v, hv => by
    simp only [List.getElem?_cons_zero, Option.some.injEq] at h
    subst h
    have hj : j < (dec b).length := (List.getElem?_eq_some_iff.1 hv).1
    rw [Nat.zero_mul, Nat.zero_add, List.flatMap_cons, List.getElem?_append_left hj]
    exact hv
  | b :: l, i + 1, a, h, j, v, hv => by
    have ih := flatMap_get hd (l := l) (i := i) (by simpa using h) j v hv
    rw [List.flatMap_cons, List.getElem?_append_right (by rw [hd b, Nat.add_mul, Nat.one_mul]; omega), hd b, show (i + 1) * sz + j - sz = i * sz + j by rw [Nat.add_mul, Nat.one_mul]; omega]
    exact ih
theorem flatMap_len {α : Type} {dec : α → List Value} {sz : Nat} (hd : ∀ a, (dec a).length = sz) (l : List α) : (l.flatMap dec).length = l.length * sz := by
  induction l with
  | nil => simp
  | cons a l ih => rw [List.flatMap_cons, List.length_append, ih, hd a, List.length_cons, Nat.add_mul, Nat.one_mul, Nat.add_comm]
end Go.Proofs.YtdpnnclkkbfihaaDoor

/-
  More operations: a field of a struct's value.
-/
namespace Go.Proofs.YtdpnnclkkbfihaaDoor
open Go
set_option linter.unusedSimpArgs false
set_option linter.unusedVariables false

/-- the offset of a field that is of one cell -/
def fieldV (P : Program) (s : TypeId) (f : Nat) : Option Nat := match P.underlying s with
  | some (.struct fs) => match fs[f]? with
    | some q => if flatB P q.type then some q.offset else none
    | none => none
  | _ => none
section
variable {P : Program} {ρ : Operand → Value} {o : Oper} {w : World} {x : Operand} {t : TypeId}
theorem r_fieldV {f n : Nat} {cs : Array Value} {v : Value} (ho : o.op = .field t x f) (hx : ρ x = .agg cs) (hf : fieldV P t f = some n) (hv : cs[n]? = some v) : (execOp ρ o).run P w = .ok (.value v) w := by
  unfold fieldV at hf
  cases hu : P.underlying t with
  | none => simp [hu] at hf
  | some d =>
    rw [hu] at hf
    cases d <;> simp at hf
    rename_i fs
    cases hq : fs[f]? with
    | none => simp [hq] at hf
    | some q =>
      simp only [hq] at hf
      split at hf
      · rename_i hfl
        injection hf with hf
        subst hf
        simp [execOp, ho, hx, Instr.field, run_underlying hu, hq, asAgg, part, run_isAgg_flat hfl, hv]
      · cases hf
end
end Go.Proofs.YtdpnnclkkbfihaaDoor

/-
  Function values: made, and called.
-/
namespace Go.Proofs.YtdpnnclkkbfihaaDoor
open Go
set_option linter.unusedSimpArgs false
set_option linter.unusedVariables false

section
variable {P : Program} {N : Nat} {ops : Array Oper} {Q : Exit → Act → World → Prop} {o : Oper} {E : Env} {w w' : World} {d : Nat} {v : Value} {K : Env → World → Prop}
theorem r_makeFunc {f : FuncId} {xs ys : List Operand} {vs us : List Value} (hop : o.op = .makeFunc (.func f) xs.toArray ys.toArray) (h1 : evs E xs vs) (h2 : evs E ys us) :
    (execOp E.ev o).run P w = .ok (.value (.func (.func f) vs.toArray us.toArray)) w := by
  have e1 := evs_map h1
  have e2 := evs_map h2
  simp [execOp, hop, Instr.makeFunc, e1, e2]
theorem r_callV {f : FuncId} {x : Operand} {xs : List Operand} {ts : Array TypeId} {first cap vs : List Value} (hop : o.op = .call { callee := .value x, args := xs.toArray, argTypes := ts }) (hx : Env.ev E x = .func (.func f) first.toArray cap.toArray) (hb : hasBody P f = true) (hvs : evs E xs vs) :
    (execOp E.ev o).run P w = .ok (.enter f (first ++ (vs ++ cap)).toArray) w := by
  have e1 := evs_map hvs
  simp [execOp, hop, resolve, Deferred.ofValue, hx, invoke, e1, run_callFunc_body hb]
/-- a call of a function value -/
theorem SO.callV {f : FuncId} {x : Operand} {xs : List Operand} {ts : Array TypeId} {first cap vs all : List Value} {R : Value → World → Prop} (hop : o.op = .call { callee := .value x, args := xs.toArray, argTypes := ts }) (hx : Env.ev E x = .func (.func f) first.toArray cap.toArray) (hb : hasBody P f = true) (hvs : evs E xs vs)
    (hall : first ++ (vs ++ cap) = all) (hc : Ret P f all.toArray w R)
    (hd : o.dst = some d) (hN : Nat.blt d N = true) (ho : opsOK E o = true) (hw : wantedE ops E o = some true) (k : ∀ v w'', R v w'' → K ((d, v) :: E) w'') : SO P N ops Q o K E w :=
  SO.enter hd hN ho hw (r_callV hop hx hb hvs) (hall ▸ hc) k
end
end Go.Proofs.YtdpnnclkkbfihaaDoor

/-
  Upd facts as tracked facts; rows copied into places; appended zeros.
-/
namespace Go.Proofs.YtdpnnclkkbfihaaDoor
open Go
set_option linter.unusedSimpArgs false
set_option linter.unusedVariables false

theorem Upd.upd {S S' : Nat → Prop} {w w1 w2 : World} (h : Upd S w w1) (h' : Upd S' w1 w2) (hs : ∀ k, k < w.heap.size → S' k → S k) : Upd S w w2 := h.trans h' hs
theorem Upd.updA {S S' : Nat → Prop} {w w1 w2 : World} (h : Upd S w w1) (h' : Upd S' w1 w2) (hs : ∀ k, k < w.heap.size → S' k → S k := by first | exact (fun _ _ h => h) | exact (fun _ _ h => h.elim) | (intro k hl hk; (try simp only [At, New, Grow, From, No] at hk ⊢); omega)) : Upd S w w2 := h.trans h' hs

section
variable {P : Program} {o : Oper} {w : World} {x y : Operand} {t : TypeId} {N : Nat} {ops : Array Oper} {Q : Exit → Act → World → Prop} {K : Env → World → Prop} {E : Env}

theorem run_copy_at (w : World) (dT sT ty elem : TypeId) (g o dLen dCap sz : Nat) (a : Addr) (sLen sCap : Nat) (cur : Array Value) (t : TypeId) (cs : List Value)
    (hu : P.underlying dT = some (.slice elem)) (hs : sizeIs P elem sz = true) (hm : Nat) (hmn : hm = Nat.min sLen dLen)
    (hg : w.heap[g]? = some (.cells cur t (0, 0))) (hn : cs.length = hm * sz)
    (hsrc : ∀ j v, cs[j]? = some v → w.cell? (a.add j) = some v) (hfit : o + cs.length ≤ cur.size) (h1 : ∀ v ∈ cs, v.oneCell' = true) :
    (Builtin.copy_ #[dT, sT] ty #[.slice (some ⟨g, o, none⟩) dLen dCap, .slice (some a) sLen sCap]).run P w =
      .ok (goInt hm) (w.setRow g (cur.toList.take o ++ cs ++ cur.toList.drop (o + cs.length)).toArray) := by
  have hl := run_loadCells_list (P := P) w a cs hsrc
  have hst := run_storeCells_at P g o t cs 0 cur w hg (by simpa using hfit) h1
  cases hq : P.info? elem with
  | none => simp [sizeIs, hq] at hs
  | some i =>
    have hi : i.size = sz := by simpa [sizeIs, hq] using hs
    rw [hn] at hl
    simp [Builtin.copy_, run_underlying hu, Builtin.lenOf, Builtin.firstCells, sizeOf, typeInfo, hq, hi, ← hmn, hl, hst]

/-- some elements copied into a row -/
theorem SO.copyAt {d : Nat} {t2 e : TypeId} {g off n c m c2 b2 off2 sz k : Nat} {cur : Array Value} {T : TypeId} {xs : List Value} (hk : k = Nat.min m n) (hb : Blk w g cur T) (hl : xs.length = k * sz) (hsrc : ∀ j u, xs[j]? = some u → w.cell? ⟨b2, off2 + j, none⟩ = some u)
    (h1 : ∀ u ∈ xs, u.oneCell' = true) (hfit : off + xs.length ≤ cur.size) (hu : sliceElem P t = some e) (hs : sizeIs P e sz = true)
    (hop : o.op = .call { callee := .builtin .copy, args := #[x, y], argTypes := #[t, t2] }) (hx : Env.ev E x = .slice (some ⟨g, off, none⟩) n c) (hy : Env.ev E y = .slice (some ⟨b2, off2, none⟩) m c2)
    (hd : o.dst = some d) (hN : Nat.blt d N = true) (ho : opsOK E o = true) (hw : wantedE ops E o = some true)
    (kk : ∀ w', Upd (At g) w w' → Blk w' g (cur.toList.take off ++ xs ++ cur.toList.drop (off + xs.length)).toArray T → w'.heap.size = w.heap.size → K ((d, .int .i64 (k : Int)) :: E) w') : SO P N ops Q o K E w := by
  have hrun := run_copy_at (P := P) w t t2 o.type e g off n c sz ⟨b2, off2, none⟩ m c2 cur T xs (sliceElem_und hu) hs k hk hb hl (fun j u hj => by rw [Addr.add_lit]; exact hsrc j u hj) hfit h1
  refine SO.val (v := .int .i64 (k : Int)) hd hN ho hw ?_ (kk _ (Upd.setRow _ _ _) (setRow_heap w g cur _ T _ hb) (by simp [World.setRow]))
  unfold execOp
  simp only [hop, resolve, invoke, builtin, Sem.run_bind, Sem.run_pure, Result.andThen_ok, List.map_toArray, List.map_cons, List.map_nil, hx, hy, hrun]
  rfl
/-- what a slice holds, and as many zeros more: a new row -/
theorem SO.appendZeros {d : Nat} {tn e : TypeId} {by_ sz n c k : Nat} {z : Value} {A : Option Addr} {xs : List Value} {F : Nat → Prop} {kq kn : IntKind} (hr : Rd w F (.slice A n c) n sz xs) (ht : RowT P t e sz by_ z) (htn : P.underlying tn = some (.int kn))
    (h0 : 0 < k) (hg : c < n + k) (hb : (n + k) * by_ ≤ 140737488355328) (hm : n + k ≤ 140737488355328) (hp : 0 < by_)
    (hop : o.op = .call { callee := .builtin .append, args := #[x, y], argTypes := #[t, tn] }) (hx : Env.ev E x = .slice A n c) (hy : Env.ev E y = .int kq (k : Int))
    (hd : o.dst = some d) (hN : Nat.blt d N = true) (ho : opsOK E o = true) (hw : wantedE ops E o = some true)
    (kk : ∀ (w' : World) (C : Nat) (cs : Array Value), Upd No w w' → Blk w' w.heap.size cs e → n + k ≤ C → C ≤ maxLen → cs.size = C * sz → cs.toList.take (n * sz) = xs → w'.heap.size = w.heap.size + 1 → K ((d, .slice (some ⟨w.heap.size, 0, none⟩) (n + k) C) :: E) w') : SO P N ops Q o K E w := by
  obtain ⟨i, hi, hz, hsz, hby⟩ := ht.parts
  have hold : (Builtin.firstCells i.size n (.slice A n c)).run P w.drew = .ok xs.toArray w.drew := by
    rw [hsz]
    rcases hr.src ht.pos with ⟨h, hxs, A', c', e9⟩ | ⟨ad, c', e9, hc⟩
    · subst h
      subst hxs
      cases A with
      | none => simp [Builtin.firstCells, loadCells, loadCellsFrom]
      | some a => simp [Builtin.firstCells, loadCells, loadCellsFrom]
    · injection e9 with e1 e2 e3
      subst e1 e3
      exact run_firstCells_some w.drew sz n ad n c xs hr.len (fun j u hj => hc j u hj)
  have hfit : Builtin.nextslicecap (n + k) c * i.bytes ≤ 281474976710656 := by rw [hby]; exact growslice_fits hg hb
  have hrun := Lib.run_append_grow_zeros (P := P) w t tn o.type e i z kq kn ht.und htn hi hz A n c xs hold k h0 (by rw [hsz]; exact ht.pos) hg (by omega) (by
    rw [hby]
    have : k * by_ ≤ (n + k) * by_ := Nat.mul_le_mul_right _ (by omega)
    omega) hfit
  have hC1 : n + k ≤ grownCap w (n + k) c e := grownCap_ge _ _ _ _
  have hC2 : grownCap w (n + k) c e ≤ maxLen := grownCap_le_maxLen _ _ _ _ (le_maxLen hm)
  have hzc : ∀ m, (Builtin.zeroCells z.cells m).size = m * sz := fun m => by simp [Builtin.zeroCells, ht.cells]
  refine SO.val hd hN ho hw (v := .slice (some ⟨w.heap.size, 0, none⟩) (n + k) (grownCap w (n + k) c e)) (w' := w.drew.alloc (.cells (xs.toArray ++ Builtin.zeroCells z.cells k ++ Builtin.zeroCells z.cells (grownCap w (n + k) c e - (n + k))) e)) ?_
    (kk _ _ (xs.toArray ++ Builtin.zeroCells z.cells k ++ Builtin.zeroCells z.cells (grownCap w (n + k) c e - (n + k))) ?_ (Blk.alloc_new w.drew _ _) hC1 hC2 ?_ ?_ ?_)
  · unfold execOp
    simp only [hop, resolve, invoke, builtin, Sem.run_bind, Sem.run_pure, Result.andThen_ok, List.map_toArray, List.map_cons, List.map_nil, hx, hy, hrun]
  · exact (Upd.drew No w).trans_same (Upd.alloc No _ _)
  · rw [Array.size_append, Array.size_append, hzc, hzc, List.size_toArray, hr.len, ← Nat.add_mul, ← Nat.add_mul]
    congr 1
    omega
  · rw [Array.toList_append, Array.toList_append, List.append_assoc, List.take_left' hr.len]
  · simp

theorem r_capSlice {ρ : Operand → Value} {e : TypeId} {A : Option Addr} {len cap : Nat} {ts : Array TypeId} (ho : o.op = .call { callee := .builtin .cap, args := #[x], argTypes := #[t] }) (hx : ρ x = .slice A len cap) (hu : sliceElem P t = some e) :
    (execOp ρ o).run P w = .ok (.value (.int .i64 cap)) w := by
  unfold sliceElem at hu
  cases hd : P.underlying t with
  | none => simp [hd] at hu
  | some d =>
    rw [hd] at hu
    cases d <;> simp at hu
    simp [execOp, ho, resolve, invoke, builtin, hx, Builtin.cap_, run_underlying hd, goInt]

theorem cutA_lt {g off c l sz : Nat} (h : l < c) : cutA (some ⟨g, off, none⟩) c l sz = some ⟨g, off + l * sz, none⟩ := by
  unfold cutA
  rw [if_neg (by omega)]
  simp [Addr.add_lit]
theorem cutA_zero {A : Option Addr} {c sz : Nat} : cutA A c 0 sz = A := by
  unfold cutA
  split
  · rfl
  · cases A with
    | none => rfl
    | some a => simp [Addr.add_zero']

/-- a call of what the model gives itself -/
theorem SO.extern {d : Nat} {f : FuncId} {fn : Func} {ext : Array Value → Sem Value} {xs : List Operand} {ts : Array TypeId} {vs : List Value} {v : Value} {w' : World} (hf : P.funcs[f]? = some fn) (hname : (fn.name == "runtime.NumGoroutine") = false)
    (hb : fn.body.isNone = true) (hn : Extern.findNext fn = none) (he : Extern.find fn = some ext) (hrun : (ext vs.toArray).run P w = .ok v w')
    (hop : o.op = .call { callee := .value (.func f), args := xs.toArray, argTypes := ts }) (hvs : evs E xs vs)
    (hd : o.dst = some d) (hN : Nat.blt d N = true) (ho : opsOK E o = true) (hw : wantedE ops E o = some true) (k : K ((d, v) :: E) w') : SO P N ops Q o K E w := by
  have e1 := evs_map hvs
  have h2 := run_callFunc_extern (P := P) hf hname hb hn he vs.toArray w
  rw [hrun] at h2
  refine SO.val hd hN ho hw ?_ k
  simp [execOp, hop, resolve, Deferred.ofValue, Env.ev, invoke, e1, h2, Result.andThen]

theorem SO.overlaps {d : Nat} {f : FuncId} {fn : Func} {ts : Array TypeId} {tR e : TypeId} {ga oa gb ob la ca lb cb sz : Nat} {csA csB : Array Value} {TA TB : TypeId} (hf : P.funcs[f]? = some fn) (hname : (fn.name == "runtime.NumGoroutine") = false)
    (hb : fn.body.isNone = true) (hn : Extern.findNext fn = none) (he : Extern.find fn = some (Extern.SlicesOverlaps.overlaps #[t, t] #[tR])) (hu : sliceElem P t = some e) (hs : sizeIs P e sz = true)
    (hA : Blk w ga csA TA) (hB : Blk w gb csB TB) (hne : ga ≠ gb) (h0 : csB.size ≠ 0)
    (hop : o.op = .call { callee := .value (.func f), args := #[x, y], argTypes := ts }) (hx : Env.ev E x = .slice (some ⟨ga, oa, none⟩) la ca) (hy : Env.ev E y = .slice (some ⟨gb, ob, none⟩) lb cb)
    (hd : o.dst = some d) (hN : Nat.blt d N = true) (ho : opsOK E o = true) (hw : wantedE ops E o = some true) (k : K ((d, .bool false) :: E) w) : SO P N ops Q o K E w := by
  have hrun := Lib.run_overlaps_apart (P := P) w t tR e (sliceElem_und hu) sz (fun w => run_sizeOf hs) ⟨ga, oa, none⟩ ⟨gb, ob, none⟩ la ca lb cb hne TA TB csA.size csB.size (by
    unfold Blk at hA; simp [World.shape?, hA]) (by unfold Blk at hB; simp [World.shape?, hB]) h0 (hA.free _) (hA.free _)
  exact SO.extern (xs := [x, y]) (vs := [_, _]) hf hname hb hn he hrun hop ⟨hx, hy, trivial⟩ hd hN ho hw k

/-- a slice up to its capacity -/
theorem r_sliceC {ρ : Operand → Value} {e : TypeId} {A : Option Addr} {n c l h sz : Nat} {lo hi : Option Operand} (ho : o.op = .slice t x lo hi none) (hx : ρ x = .slice A n c) (hu : sliceElem P t = some e) (hz : sizeIs P e sz = true)
    (hlo : bnd ρ lo 0 l) (hhi : bnd ρ hi n h) (h1 : l ≤ h) (h2 : h ≤ c) : (execOp ρ o).run P w = .ok (.value (.slice (cutA A c l sz) (h - l) (c - l))) w := by
  unfold sliceElem at hu
  cases hd : P.underlying t with
  | none => simp [hd] at hu
  | some d =>
    rw [hd] at hu
    cases d <;> simp at hu
    subst hu
    have hsz := run_sizeOf (P := P) (w := w) hz
    unfold cutA
    rcases hlo with ⟨rfl, rfl⟩ | ⟨y1, k1, b1, rfl, hy1, hb1⟩ <;> rcases hhi with ⟨rfl, rfl⟩ | ⟨y2, k2, b2, rfl, hy2, hb2⟩
    · simp [execOp, ho, hx, Instr.sliceAt, Instr.slice, run_underlying hd, Instr.sliceBounds, hsz]
    · simp [execOp, ho, hx, hy2, Instr.sliceAt, Instr.slice, run_underlying hd, Instr.sliceBounds, hsz, run_sliceBound_in hb2 h2]
    · simp [execOp, ho, hx, hy1, Instr.sliceAt, Instr.slice, run_underlying hd, Instr.sliceBounds, hsz, run_sliceBound_in hb1 h1]
    · simp [execOp, ho, hx, hy1, hy2, Instr.sliceAt, Instr.slice, run_underlying hd, Instr.sliceBounds, hsz, run_sliceBound_in hb1 h1, run_sliceBound_in hb2 h2]
end

theorem ins_grow {cs rc xs : List Value} {a s N M : Nat} (ha : a ≤ N) (hx : xs.length = N) (hrc : rc.length = s) (hc : N + s ≤ cs.length) (h : cs.take a = xs.take a) (hM : M = a + s + (N - a)) :
    ((cs.take a ++ rc ++ cs.drop (a + s)).take (a + s) ++ xs.drop a ++ (cs.take a ++ rc ++ cs.drop (a + s)).drop M).take (N + s) = xs.take a ++ rc ++ xs.drop a := by
  have e1 : (cs.take a ++ rc ++ cs.drop (a + s)).take (a + s) = xs.take a ++ rc := by
    rw [List.take_left' (by simp only [List.length_append, List.length_take, hrc]; omega), h]
  rw [e1, List.take_left' (by simp only [List.length_append, List.length_take, List.length_drop, hrc, hx]; omega)]
theorem ins_shift {cur rc xs : List Value} {a s N M : Nat} (ha : a ≤ N) (hx : cur.take N = xs) (hrc : rc.length = s) (hc : N + s ≤ cur.length) (hM : M = a + s + (N - a)) :
    ((cur.take (a + s) ++ xs.drop a ++ cur.drop M).take a ++ rc ++ (cur.take (a + s) ++ xs.drop a ++ cur.drop M).drop (a + s)).take (N + s) = xs.take a ++ rc ++ xs.drop a := by
  subst hM
  have hxl : xs.length = N := by rw [← hx, List.length_take]; omega
  have e1 : (cur.take (a + s) ++ xs.drop a ++ cur.drop (a + s + (N - a))).take a = xs.take a := by
    rw [List.append_assoc, List.take_append_of_le_length (by rw [List.length_take]; omega), List.take_take, ← hx, List.take_take]
    congr 1
    omega
  have e2 : (cur.take (a + s) ++ xs.drop a ++ cur.drop (a + s + (N - a))).drop (a + s) = xs.drop a ++ cur.drop (a + s + (N - a)) := by
    rw [List.append_assoc, List.drop_left' (by rw [List.length_take]; omega)]
  rw [e1, e2, ← List.append_assoc, List.take_left' (by simp only [List.length_append, List.length_take, List.length_drop, hrc, hxl]; omega)]

/-- a condition whose temporary is asked again -/
theorem WC.condT {P : Program} {N : Nat} {Q : Exit → Act → World → Prop} {x y : Code} {E : Env} {w : World} {t : Nat} {b : Bool} (hb : Env.get E t = some (.bool b)) (k1 : b = true → WC P N Q x ((t, .bool true) :: E) w) (k2 : b = false → WC P N Q y ((t, .bool false) :: E) w) : WC P N Q (.cond (.tmp t) x y) E w := by
  have hsub : ∀ c : Bool, b = c → ∀ a, Sat N E a → Sat N ((t, .bool c) :: E) a := fun c e a h => ⟨h.size, h.defers, fun s v hs => by
    simp only [Env.get] at hs
    split at hs
    · rename_i hq
      have := Nat.eq_of_beq_eq_true hq
      subst this
      injection hs with hs
      subst hs
      rw [← e]
      exact h.vals _ _ hb
    · exact h.vals s v hs⟩
  refine WC.cond (b := b) (by simp [Env.has, hb]) (by simp [Env.ev, hb]) (fun e => ?_) (fun e => ?_)
  · exact fun a h => k1 e a (hsub true e a h)
  · exact fun a h => k2 e a (hsub false e a h)
end Go.Proofs.YtdpnnclkkbfihaaDoor

/-
  A row of zeros of which only the first are in the slice.
-/
namespace Go.Proofs.YtdpnnclkkbfihaaDoor
open Go
set_option linter.unusedSimpArgs false
set_option linter.unusedVariables false

section
variable {P : Program} {ρ : Operand → Value} {o : Oper} {w : World} {x y : Operand} {t e : TypeId}
theorem r_makeSliceC {by_ sz l n : Nat} {z : Value} {k k' : IntKind} (ho : o.op = .makeSlice t x y) (hx : ρ x = .int k (l : Int)) (hy : ρ y = .int k' (n : Int)) (hln : l ≤ n) (hr : RowT P t e sz by_ z) (hb : by_ * n ≤ 281474976710656) (hn : n ≤ 281474976710656) :
    (execOp ρ o).run P w = .ok (.value (.slice (some ⟨w.heap.size, 0, none⟩) l n)) (w.alloc (.cells (rowCells z n) e)) := by
  obtain ⟨i, hi, hz, hs, hby⟩ := hr.parts
  have hb' : (i.bytes : Int) * (n : Int) ≤ 281474976710656 := by
    have h : ((i.bytes * n : Nat) : Int) ≤ 281474976710656 := by rw [hby]; omega
    rwa [Int.natCast_mul] at h
  have h1 := run_make (P := P) w t e i z hr.und hi hz k k' l n (by omega) (by omega) hb' (by omega)
  rw [Int.toNat_natCast, Int.toNat_natCast, hs] at h1
  have h2 : madeCells z.cells (n * sz) = rowCells z n := rowCells_eq z n sz hr.cells hr.pos
  rw [h2] at h1
  simp only [execOp, ho, hx, hy, Sem.run_bind, h1, Result.andThen_ok, Sem.run_pure]
end
/-- an empty slice of a new row -/
theorem Own.room {w : World} {g n sz : Nat} {cs : Array Value} {T : TypeId} (hb : Blk w g cs T) (hn : n ≤ maxLen) (hs : cs.size = n * sz) : Own w (At g) T sz (.slice (some ⟨g, 0, none⟩) 0 n) 0 [] := by
  have h := Own.shut (F := At g) (sz := sz) (n := 0) hb rfl (Nat.zero_le _) hn hs
  simpa using h
end Go.Proofs.YtdpnnclkkbfihaaDoor

/-
  heap: New, Need, head, Collect of nothing.
-/
namespace Go.Proofs.YtdpnnclkkbfihaaDoor
open Go
set_option linter.unusedSimpArgs false
set_option linter.unusedVariables false

def Wd (x : Nat) : Value := .int .u64 (x : Int)
abbrev tWord : TypeId := 32
/-- a heap in memory: its words, its quota, how often it was collected -/
structure HS (w : World) (G : Nat → Prop) (p : Nat) (A : Option Addr) (c : Nat) (mem : List Nat) (q n : Nat) : Prop where
  hd : Blk w p #[.slice A mem.length c, .int .i64 (q : Int), .int .i64 (n : Int)] 79
  ow : Own w G tWord 1 (.slice A mem.length c) mem.length (mem.map Wd)
  ne : ¬ G p
  lt : ∀ k, G k → k < w.heap.size
  le : mem.length ≤ q ∧ q ≤ 1048576
  cn : n ≤ 1000000000
theorem HS.upd {w w' : World} {G S : Nat → Prop} {p : Nat} {A : Option Addr} {c : Nat} {mem : List Nat} {q n : Nat} (h : HS w G p A c mem q n) (hu : Upd S w w') (hn : ∀ k, k = p ∨ G k → k < w.heap.size → ¬ S k) : HS w' G p A c mem q n :=
  ⟨h.hd.upd hu (hn p (.inl rfl) h.hd.lt), h.ow.upd hu (fun k hk hl => hn k (.inr hk) hl), h.ne, fun k hk => by have := h.lt k hk; have := hu.size; omega, h.le, h.cn⟩
theorem need_ok {w : World} {n : Nat} (hn : n ≤ 1000000000000) : Ret Tryd.prog 10 #[.int .u8 3, .int .i64 (n : Int)] w fun v w' => v = .int .i64 ((1 + (n + 7) / 8 : Nat) : Int) ∧ w = w' := by
  refine enterRet (vs := [_, _]) (N := 13) Tryd.func10 rfl rfl rfl ?_
  refine WC.keep [(0, _), (1, _)] ⟨rfl, rfl, trivial⟩ ?_
  refine WC.seq ?_
  refine WC.region ?_
  refine WL.val rfl rfl rfl rfl (r_assign rfl ev_c) ?_
  refine WL.nil ?_
  refine WX.keep [(0, _), (1, _)] ⟨rfl, rfl, trivial⟩ ?_
  refine WX.next ?_
  refine WC.seq ?_
  refine WC.seq ?_
  refine WC.region ?_
  refine WL.val rfl rfl rfl rfl (r_move rfl (ev_t rfl)) ?_
  refine WL.val rfl rfl rfl rfl (r_eql rfl (ev_t rfl) ev_c) ?_
  refine WL.nil ?_
  refine WX.keep [(1, _), (6, _)] ⟨rfl, rfl, trivial⟩ ?_
  refine WX.next ?_
  refine WC.cond rfl (ev_t rfl) (fun hc1 => ?_) (fun hc1 => ?_)
  · try (exfalso; first | (simp at hc1; done) | (simp only [decide_eq_true_eq, decide_eq_false_iff_not, Bool.not_eq_true', Bool.not_eq_false', Bool.not_eq_true, Bool.not_eq_false] at hc1; omega) | omega)
    all_goals
     try simp only [decide_eq_true_eq, decide_eq_false_iff_not, Bool.not_eq_true', Bool.not_eq_false', Bool.not_eq_true, Bool.not_eq_false, Option.isNone_none, Option.isNone_some, Option.isSome_none, Option.isSome_some, ne_eq, Decidable.not_not] at hc1
     refine WC.seq ?_
     refine WC.region ?_
     refine WL.val rfl rfl rfl rfl (r_move rfl (ev_t rfl)) ?_
     first | refine WL.val rfl rfl rfl rfl (r_addN rfl (ev_t rfl) ev_c (by simp only [inK]; omega)) ?_ | refine WL.val rfl rfl rfl rfl (r_add rfl (ev_t rfl) ev_c) ?_
     first | refine WL.val rfl rfl rfl rfl (r_quoN rfl (ev_t rfl) ev_c (by omega) (by omega) (by simp only [inK]; omega)) ?_ | refine WL.val rfl rfl rfl rfl (r_quo rfl (ev_t rfl) ev_c (by omega)) ?_
     first | refine WL.val rfl rfl rfl rfl (r_addN rfl ev_c (ev_t rfl) (by simp only [inK]; omega)) ?_ | refine WL.val rfl rfl rfl rfl (r_add rfl ev_c (ev_t rfl)) ?_
     refine WL.val rfl rfl rfl rfl (r_assign rfl (ev_t rfl)) ?_
     refine WL.nil ?_
     refine WX.keep [(4, _)] ⟨rfl, trivial⟩ ?_
     refine WX.next ?_
     refine WC.ret ?_
     refine WX.thenRet ?_
     refine WX.retE1 rfl rfl ?_
     refine ⟨?_, rfl⟩
     congr 1
  · try (exfalso; first | (simp at hc1; done) | (simp only [decide_eq_true_eq, decide_eq_false_iff_not, Bool.not_eq_true', Bool.not_eq_false', Bool.not_eq_true, Bool.not_eq_false] at hc1; omega) | omega)
    all_goals
     try simp only [decide_eq_true_eq, decide_eq_false_iff_not, Bool.not_eq_true', Bool.not_eq_false', Bool.not_eq_true, Bool.not_eq_false, Option.isNone_none, Option.isNone_some, Option.isSome_none, Option.isSome_some, ne_eq, Decidable.not_not] at hc1
     refine WC.skip ?_
     refine WX.next ?_
     refine WC.seq ?_
     refine WC.region ?_
     refine WL.val rfl rfl rfl rfl (r_move rfl (ev_t rfl)) ?_
     first | refine WL.val rfl rfl rfl rfl (r_addN rfl ev_c (ev_t rfl) (by simp only [inK]; omega)) ?_ | refine WL.val rfl rfl rfl rfl (r_add rfl ev_c (ev_t rfl)) ?_
     refine WL.val rfl rfl rfl rfl (r_assign rfl (ev_t rfl)) ?_
     refine WL.nil ?_
     refine WX.keep [(4, _)] ⟨rfl, trivial⟩ ?_
     refine WX.next ?_
     refine WC.ret ?_
     refine WX.retE1 rfl rfl ?_
     fail
theorem head_ok {w : World} {n : Nat} (hn : n ≤ 1000000000000) : Ret Tryd.prog 42 #[.int .u8 3, .int .i64 (n : Int)] w fun v w' => v = Wd (n * 256 + 3) ∧ w = w' := by
  refine enterRet (vs := [_, _]) (N := 11) Tryd.func42 rfl rfl rfl ?_
  refine WC.keep [(0, _), (1, _)] ⟨rfl, rfl, trivial⟩ ?_
  refine WC.seq ?_
  refine WC.region ?_
  refine WL.val rfl rfl rfl rfl (r_assign rfl ev_c) ?_
  refine WL.nil ?_
  refine WX.keep [(0, _), (1, _)] ⟨rfl, rfl, trivial⟩ ?_
  refine WX.next ?_
  refine WC.seq ?_
  refine WC.region ?_
  refine WL.val rfl rfl rfl rfl (r_move rfl (ev_t rfl)) ?_
  first | refine WL.val rfl rfl rfl rfl (r_convN rfl (ev_t rfl) some_3 int_32 (by simp only [inK]; omega)) ?_ | refine WL.val rfl rfl rfl rfl (r_conv rfl (ev_t rfl) some_3 int_32) ?_
  refine WL.val rfl rfl rfl rfl (r_shl rfl (ev_t rfl) ev_c (by omega) (by simp only [IntKind.bits]; omega)) ?_
  refine WL.val rfl rfl rfl rfl (r_move rfl (ev_t rfl)) ?_
  first | refine WL.val rfl rfl rfl rfl (r_convN rfl (ev_t rfl) some_5 int_32 (by simp only [inK]; omega)) ?_ | refine WL.val rfl rfl rfl rfl (r_conv rfl (ev_t rfl) some_5 int_32) ?_
  refine WL.val rfl rfl rfl rfl (r_or rfl (ev_t rfl) (ev_t rfl)) ?_
  refine WL.val rfl rfl rfl rfl (r_assign rfl (ev_t rfl)) ?_
  refine WL.nil ?_
  refine WX.keep [(4, _)] ⟨rfl, trivial⟩ ?_
  refine WX.next ?_
  refine WC.ret ?_
  refine WX.retE1 rfl rfl ?_
  refine ⟨?_, rfl⟩
  have h := shl8or n 3 (by omega)
  exact congrArg (Value.int .u64) h
theorem new_ok {w : World} {q : Int} (hq : inK .i64 q) : Ret Tryd.prog 11 #[.int .i64 q] w fun v w' => (¬ (1 ≤ q ∧ q ≤ 1048576) → v = .tuple #[.pointer none, .int .i64 1]) ∧ (1 ≤ q ∧ q ≤ 1048576 → v = .tuple #[.pointer (some ⟨w.heap.size, 0, none⟩), .int .i64 0] ∧ Blk w' w.heap.size #[.slice none 0 0, .int .i64 q, .int .i64 0] 79) ∧ Upd No w w' := by
  refine enterRet (vs := [_]) (N := 13) Tryd.func11 rfl rfl rfl ?_
  have hU := Upd.refl No w
  refine WC.keep [(0, _)] ⟨rfl, trivial⟩ ?_
  refine WC.seq ?_
  refine WC.region ?_
  refine WL.val rfl rfl rfl rfl (r_assign rfl ev_c) ?_
  refine WL.val rfl rfl rfl rfl (r_assign rfl ev_c) ?_
  refine WL.nil ?_
  refine WX.keep [(0, _)] ⟨rfl, trivial⟩ ?_
  refine WX.next ?_
  refine WC.seq ?_
  refine WC.seq ?_
  refine WC.region ?_
  refine WL.val rfl rfl rfl rfl (r_move rfl (ev_t rfl)) ?_
  refine WL.val rfl rfl rfl rfl (r_lss rfl (ev_t rfl) ev_c) ?_
  refine WL.val rfl rfl rfl rfl (r_move rfl (ev_t rfl)) ?_
  refine WL.cases 6 rfl (fun hb1_2 => ?_) (fun hb1_2 => ?_)
  · try (exfalso; first | (simp at hb1_2; done) | (simp only [decide_eq_true_eq, decide_eq_false_iff_not, Bool.not_eq_true', Bool.not_eq_false', Bool.not_eq_true, Bool.not_eq_false] at hb1_2; omega) | omega)
    all_goals
     try simp only [decide_eq_true_eq, decide_eq_false_iff_not, Bool.not_eq_true', Bool.not_eq_false', Bool.not_eq_true, Bool.not_eq_false, Option.isNone_none, Option.isNone_some, Option.isSome_none, Option.isSome_some, ne_eq, Decidable.not_not] at hb1_2
     refine WL.skip rfl rfl rfl ?_
     refine WL.skip rfl rfl rfl ?_
     refine WL.val rfl rfl rfl rfl (r_pickT rfl (ev_t rfl) ev_c) ?_
     refine WL.nil ?_
     refine WX.keep [(0, _), (9, _)] ⟨rfl, rfl, trivial⟩ ?_
     refine WX.next ?_
     refine WC.cond_true rfl (ev_t rfl) ?_
     refine WC.seq ?_
     refine WC.region ?_
     refine WL.val rfl rfl rfl rfl (r_assign rfl ev_c) ?_
     refine WL.val rfl rfl rfl rfl (r_assign rfl ev_c) ?_
     refine WL.nil ?_
     refine WX.keep [(2, _), (3, _)] ⟨rfl, rfl, trivial⟩ ?_
     refine WX.next ?_
     refine WC.ret ?_
     refine WX.thenRet ?_
     refine WX.retE2 rfl rfl rfl ?_
     refine ⟨fun _ => rfl, fun h => ?_, hU⟩
     first
       | omega
       | (simp at hc1; omega)
       | (simp_all; omega)
  · try (exfalso; first | (simp at hb1_2; done) | (simp only [decide_eq_true_eq, decide_eq_false_iff_not, Bool.not_eq_true', Bool.not_eq_false', Bool.not_eq_true, Bool.not_eq_false] at hb1_2; omega) | omega)
    all_goals
     try simp only [decide_eq_true_eq, decide_eq_false_iff_not, Bool.not_eq_true', Bool.not_eq_false', Bool.not_eq_true, Bool.not_eq_false, Option.isNone_none, Option.isNone_some, Option.isSome_none, Option.isSome_some, ne_eq, Decidable.not_not] at hb1_2
     refine WL.val rfl rfl rfl rfl (r_move rfl (ev_t rfl)) ?_
     refine WL.val rfl rfl rfl rfl (r_gtr rfl (ev_t rfl) ev_c) ?_
     refine WL.val rfl rfl rfl rfl (r_pickF rfl (ev_t rfl) (ev_t rfl)) ?_
     refine WL.nil ?_
     refine WX.keep [(0, _), (9, _)] ⟨rfl, rfl, trivial⟩ ?_
     refine WX.next ?_
     refine WC.cond rfl (ev_t rfl) (fun hc1 => ?_) (fun hc1 => ?_)
     · try (exfalso; first | (simp at hc1; done) | (simp only [decide_eq_true_eq, decide_eq_false_iff_not, Bool.not_eq_true', Bool.not_eq_false', Bool.not_eq_true, Bool.not_eq_false] at hc1; omega) | omega)
       all_goals
        try simp only [decide_eq_true_eq, decide_eq_false_iff_not, Bool.not_eq_true', Bool.not_eq_false', Bool.not_eq_true, Bool.not_eq_false, Option.isNone_none, Option.isNone_some, Option.isSome_none, Option.isSome_some, ne_eq, Decidable.not_not] at hc1
        refine WC.seq ?_
        refine WC.region ?_
        refine WL.val rfl rfl rfl rfl (r_assign rfl ev_c) ?_
        refine WL.val rfl rfl rfl rfl (r_assign rfl ev_c) ?_
        refine WL.nil ?_
        refine WX.keep [(2, _), (3, _)] ⟨rfl, rfl, trivial⟩ ?_
        refine WX.next ?_
        refine WC.ret ?_
        refine WX.thenRet ?_
        refine WX.retE2 rfl rfl rfl ?_
        refine ⟨fun _ => rfl, fun h => ?_, hU⟩
        first
          | omega
          | (simp at hc1; omega)
          | (simp_all; omega)
     · try (exfalso; first | (simp at hc1; done) | (simp only [decide_eq_true_eq, decide_eq_false_iff_not, Bool.not_eq_true', Bool.not_eq_false', Bool.not_eq_true, Bool.not_eq_false] at hc1; omega) | omega)
       all_goals
        try simp only [decide_eq_true_eq, decide_eq_false_iff_not, Bool.not_eq_true', Bool.not_eq_false', Bool.not_eq_true, Bool.not_eq_false, Option.isNone_none, Option.isNone_some, Option.isSome_none, Option.isSome_some, ne_eq, Decidable.not_not] at hc1
        refine WC.skip ?_
        refine WX.next ?_
        refine WC.seq ?_
        refine WC.region ?_
        refine WL.val rfl rfl rfl rfl (r_move rfl (ev_t rfl)) ?_
        refine WL.val rfl rfl rfl rfl (r_build (cs := #[_, _, _]) (vs := [(1, _)]) rfl ⟨⟨rfl, (ev_t rfl)⟩, trivial⟩ plc_79 zero_79 rfl) ?_
        refine WL.cons (SO.alloc rfl rfl rfl rfl (r_boxAgg rfl (ev_t rfl)) ?_)
        intro w1 hu1 hB1 hz1
        have hs1 := hu1.size
        replace hU := hU.transA hu1
        refine WL.val rfl rfl rfl rfl (r_assign rfl (ev_t rfl)) ?_
        refine WL.val rfl rfl rfl rfl (r_assign rfl ev_c) ?_
        refine WL.nil ?_
        refine WX.keep [(2, _), (3, _)] ⟨rfl, rfl, trivial⟩ ?_
        refine WX.next ?_
        refine WC.ret ?_
        refine WX.retE2 rfl rfl rfl ?_
        refine ⟨fun h => ?_, fun _ => ⟨rfl, hB1⟩, hU⟩
        first
          | omega
          | (simp at hc1; omega)
          | (simp_all; omega)
end Go.Proofs.YtdpnnclkkbfihaaDoor

/-
  heap: Collect of nothing.
-/
namespace Go.Proofs.YtdpnnclkkbfihaaDoor
open Go
set_option linter.unusedSimpArgs false
set_option linter.unusedVariables false

theorem zeroWd (n : Nat) : (rowCells (.int .u64 0) n).toList = (List.replicate n 0).map Wd := by
  unfold rowCells
  induction n with
  | zero => rfl
  | succ n ih =>
    rw [List.replicate_succ, List.replicate_succ, List.map_cons, List.flatten_cons]
    simp only at ih ⊢
    rw [ih]
    rfl
theorem rowCells_sz (n : Nat) : (rowCells (.int .u64 0) n).size = n * 1 := by
  rw [← Array.length_toList, zeroWd]
  simp
theorem collectNil_ok {w : World} : Ret Tryd.prog 14 #[.pointer none, .slice none 0 0] w fun _ w' => w = w' := by
  refine enterRet (vs := [_, _]) (N := 79) Tryd.func14 rfl rfl rfl ?_
  refine WC.keep [(0, _), (1, _)] ⟨rfl, rfl, trivial⟩ ?_
  refine WC.seq ?_
  refine WC.seq ?_
  refine WC.region ?_
  refine WL.val rfl rfl rfl rfl (r_move rfl (ev_t rfl)) ?_
  refine WL.val rfl rfl rfl rfl (r_eqlPtrNil rfl (ev_t rfl) ev_c ptr_26) ?_
  refine WL.nil ?_
  refine WX.keep [(0, _), (1, _), (13, _)] ⟨rfl, rfl, rfl, trivial⟩ ?_
  refine WX.next ?_
  refine WC.cond rfl (ev_t rfl) (fun hc0 => ?_) (fun hc0 => ?_)
  · try (exfalso; first | (simp at hc0; done) | (simp only [decide_eq_true_eq, decide_eq_false_iff_not, Bool.not_eq_true', Bool.not_eq_false', Bool.not_eq_true, Bool.not_eq_false] at hc0; omega) | omega)
    all_goals
     try simp only [decide_eq_true_eq, decide_eq_false_iff_not, Bool.not_eq_true', Bool.not_eq_false', Bool.not_eq_true, Bool.not_eq_false, Option.isNone_none, Option.isNone_some, Option.isSome_none, Option.isSome_some, ne_eq, Decidable.not_not] at hc0
     refine WC.ret ?_
     refine WX.thenRet ?_
     refine WX.retE (l := []) (vs := []) rfl trivial ?_
     rfl
  · try (exfalso; first | (simp at hc0; done) | (simp only [decide_eq_true_eq, decide_eq_false_iff_not, Bool.not_eq_true', Bool.not_eq_false', Bool.not_eq_true, Bool.not_eq_false] at hc0; omega) | omega)
    all_goals
     try simp only [decide_eq_true_eq, decide_eq_false_iff_not, Bool.not_eq_true', Bool.not_eq_false', Bool.not_eq_true, Bool.not_eq_false, Option.isNone_none, Option.isNone_some, Option.isSome_none, Option.isSome_some, ne_eq, Decidable.not_not] at hc0
     refine WC.skip ?_
     refine WX.next ?_
     refine WC.seq ?_
     refine WC.region ?_
     refine WL.val rfl rfl rfl rfl (r_move rfl (ev_t rfl)) ?_
     refine WL.val rfl rfl rfl rfl (r_nilCheck rfl (ev_t rfl)) ?_
     first | refine WL.val rfl rfl rfl rfl (r_field0 rfl (ev_t rfl) fld_79_0) ?_ | refine WL.val rfl rfl rfl rfl (r_fieldAt rfl (ev_t rfl) fld_79_0) ?_
     fail -- load 1.3: no facts
abbrev mvF (a b c : Nat) : Value := .func (.func 43) #[] #[.pointer (some ⟨a, 0, none⟩), .pointer (some ⟨b, 0, none⟩), .pointer (some ⟨c, 0, none⟩)]
set_option maxHeartbeats 2000000 in
theorem collect0_ok {w : World} {G : Nat → Prop} {p : Nat} {A : Option Addr} {c : Nat} {mem : List Nat} {q n : Nat} (hH : HS w G p A c mem q n) (hn : n + 1 ≤ 1000000000) :
    Ret Tryd.prog 14 #[.pointer (some ⟨p, 0, none⟩), .slice none 0 0] w fun _ w' => ∃ G' A' c', HS w' G' p A' c' [] q (n + 1) ∧ (∀ k, G' k → w.heap.size ≤ k) ∧ Upd (At p) w w' := by
  have hlp := hH.hd.lt
  have hle := hH.le
  have hhd := hH.hd
  refine enterRet (vs := [_, _]) (N := 79) Tryd.func14 rfl rfl rfl ?_
  have hU := Upd.refl (At p) w
  refine WC.keep [(0, _), (1, _)] ⟨rfl, rfl, trivial⟩ ?_
  refine WC.seq ?_
  refine WC.seq ?_
  refine WC.region ?_
  refine WL.val rfl rfl rfl rfl (r_move rfl (ev_t rfl)) ?_
  refine WL.val rfl rfl rfl rfl (r_eqlPtrNil rfl (ev_t rfl) ev_c ptr_26) ?_
  refine WL.nil ?_
  refine WX.keep [(0, _), (1, _), (13, _)] ⟨rfl, rfl, rfl, trivial⟩ ?_
  refine WX.next ?_
  refine WC.cond rfl (ev_t rfl) (fun hc0 => ?_) (fun hc0 => ?_)
  · try (exfalso; first | (simp at hc0; done) | (simp only [decide_eq_true_eq, decide_eq_false_iff_not, Bool.not_eq_true', Bool.not_eq_false', Bool.not_eq_true, Bool.not_eq_false] at hc0; omega) | omega)
    all_goals
     try simp only [decide_eq_true_eq, decide_eq_false_iff_not, Bool.not_eq_true', Bool.not_eq_false', Bool.not_eq_true, Bool.not_eq_false, Option.isNone_none, Option.isNone_some, Option.isSome_none, Option.isSome_some, ne_eq, Decidable.not_not] at hc0
     refine WC.ret ?_
     refine WX.thenRet ?_
     refine WX.retE (l := []) (vs := []) rfl trivial ?_
     fail
  · try (exfalso; first | (simp at hc0; done) | (simp only [decide_eq_true_eq, decide_eq_false_iff_not, Bool.not_eq_true', Bool.not_eq_false', Bool.not_eq_true, Bool.not_eq_false] at hc0; omega) | omega)
    all_goals
     try simp only [decide_eq_true_eq, decide_eq_false_iff_not, Bool.not_eq_true', Bool.not_eq_false', Bool.not_eq_true, Bool.not_eq_false, Option.isNone_none, Option.isNone_some, Option.isSome_none, Option.isSome_some, ne_eq, Decidable.not_not] at hc0
     refine WC.skip ?_
     refine WX.next ?_
     refine WC.seq ?_
     refine WC.region ?_
     refine WL.val rfl rfl rfl rfl (r_move rfl (ev_t rfl)) ?_
     refine WL.val rfl rfl rfl rfl (r_nilCheck rfl (ev_t rfl)) ?_
     refine WL.val rfl rfl rfl rfl (r_field0 rfl (ev_t rfl) fld_79_0) ?_
     refine WL.val rfl rfl rfl rfl (r_load rfl (ev_t rfl) flat_30 (Blk.cell hhd rfl)) ?_
     refine WL.cons (SO.alloc rfl rfl rfl rfl (r_alloc rfl zero_30) ?_)
     intro w1 hu1 hB1 hz1
     have hs1 := hu1.size
     replace hU := hU.trans hu1 (by exact (fun _ _ h => h.elim))
     replace hhd := hhd.upd hu1 (fun hS => by exact (show False from hS))
     refine WL.cons (SO.store rfl (ev_t rfl) (ev_t rfl) size_30 hB1 rfl rfl rfl rfl rfl ?_)
     intro w2 hu2 hB1 hz2
     have hs2 := hu2.size
     replace hU := hU.trans hu2 (by (intro k hl hk; (try simp only [At, New, Grow, From, No] at hk ⊢); omega))
     replace hhd := hhd.upd hu2 (fun hS => by (simp only [At] at hS; omega))
     refine WL.nil ?_
     refine WX.keep [(0, _), (1, _), (4, _)] ⟨rfl, rfl, rfl, trivial⟩ ?_
     have hb4 := hB1
     refine WX.next ?_
     refine WC.seq ?_
     refine WC.region ?_
     refine WL.val rfl rfl rfl rfl (r_load rfl (ev_t rfl) flat_30 (Blk.cell hb4 rfl)) ?_
     refine WL.val rfl rfl rfl rfl (r_lenSlice (ts := #[]) rfl (ev_t rfl) elem_30) ?_
     refine WL.cons (SO.alloc rfl rfl rfl rfl (r_makeSliceC (l := 0) (n := mem.length) rfl ev_c (ev_t rfl) (Nat.zero_le _) row_30 (by omega) (by omega)) ?_)
     intro w3 hu3 hBm hzm
     obtain ⟨gT, hgT⟩ : ∃ g, g = w2.heap.size := ⟨_, rfl⟩
     rw [← hgT] at hBm ⊢
     have hq := Own.room (sz := 1) hBm (le_maxLen (by omega)) (rowCells_sz _)
     have hs3 := hu3.size
     replace hU := hU.trans hu3 (by exact (fun _ _ h => h.elim))
     replace hhd := hhd.upd hu3 (fun hS => by exact (show False from hS))
     replace hb4 := hb4.upd hu3 (fun hS => by exact (show False from hS))
     refine WL.cons (SO.alloc rfl rfl rfl rfl (r_alloc rfl zero_30) ?_)
     intro w4 hu4 hB4 hz4
     have hs4 := hu4.size
     replace hU := hU.trans hu4 (by exact (fun _ _ h => h.elim))
     replace hhd := hhd.upd hu4 (fun hS => by exact (show False from hS))
     replace hb4 := hb4.upd hu4 (fun hS => by exact (show False from hS))
     replace hq := hq.upd hu4 (fun k hk hl hS => by exact (show False from hS).elim)
     refine WL.cons (SO.store rfl (ev_t rfl) (ev_t rfl) size_30 hB4 rfl rfl rfl rfl rfl ?_)
     intro w5 hu5 hB4 hz5
     have hs5 := hu5.size
     replace hU := hU.trans hu5 (by (intro k hl hk; (try simp only [At, New, Grow, From, No] at hk ⊢); omega))
     replace hhd := hhd.upd hu5 (fun hS => by (simp only [At] at hS; omega))
     replace hb4 := hb4.upd hu5 (fun hS => by (simp only [At] at hS; omega))
     replace hq := hq.upd hu5 (fun k hk hl hS => by (simp only [At] at *; omega))
     refine WL.nil ?_
     refine WX.keep [(0, _), (1, _), (4, _), (5, _)] ⟨rfl, rfl, rfl, rfl, trivial⟩ ?_
     have hb5 := hB4
     refine WX.next ?_
     refine WC.seq ?_
     refine WC.region ?_
     refine WL.val rfl rfl rfl rfl (r_load rfl (ev_t rfl) flat_30 (Blk.cell hb4 rfl)) ?_
     refine WL.val rfl rfl rfl rfl (r_lenSlice (ts := #[]) rfl (ev_t rfl) elem_30) ?_
     refine WL.cons (SO.alloc rfl rfl rfl rfl (r_makeSlice (n := mem.length) rfl (ev_t rfl) (ev_t rfl) row_30 (by omega) (by omega)) ?_)
     intro w6 hu6 hBn hzn
     have hs6 := hu6.size
     replace hU := hU.trans hu6 (by exact (fun _ _ h => h.elim))
     replace hhd := hhd.upd hu6 (fun hS => by exact (show False from hS))
     replace hb4 := hb4.upd hu6 (fun hS => by exact (show False from hS))
     replace hq := hq.upd hu6 (fun k hk hl hS => by exact (show False from hS).elim)
     replace hb5 := hb5.upd hu6 (fun hS => by exact (show False from hS))
     refine WL.cons (SO.alloc rfl rfl rfl rfl (r_alloc rfl zero_30) ?_)
     intro w7 hu7 hB7 hz7
     have hs7 := hu7.size
     replace hU := hU.trans hu7 (by exact (fun _ _ h => h.elim))
     replace hhd := hhd.upd hu7 (fun hS => by exact (show False from hS))
     replace hb4 := hb4.upd hu7 (fun hS => by exact (show False from hS))
     replace hq := hq.upd hu7 (fun k hk hl hS => by exact (show False from hS).elim)
     replace hb5 := hb5.upd hu7 (fun hS => by exact (show False from hS))
     refine WL.cons (SO.store rfl (ev_t rfl) (ev_t rfl) size_30 hB7 rfl rfl rfl rfl rfl ?_)
     intro w8 hu8 hB7 hz8
     have hs8 := hu8.size
     replace hU := hU.trans hu8 (by (intro k hl hk; (try simp only [At, New, Grow, From, No] at hk ⊢); omega))
     replace hhd := hhd.upd hu8 (fun hS => by (simp only [At] at hS; omega))
     replace hb4 := hb4.upd hu8 (fun hS => by (simp only [At] at hS; omega))
     replace hq := hq.upd hu8 (fun k hk hl hS => by (simp only [At] at *; omega))
     replace hb5 := hb5.upd hu8 (fun hS => by (simp only [At] at hS; omega))
     refine WL.nil ?_
     refine WX.keep [(0, _), (1, _), (4, _), (5, _), (6, _)] ⟨rfl, rfl, rfl, rfl, rfl, trivial⟩ ?_
     refine WX.next ?_
     refine WC.seq ?_
     refine WC.region ?_
     refine WL.val rfl rfl rfl rfl (r_makeFunc (vs := []) (us := [_, _, _]) rfl trivial ⟨(ev_t rfl), (ev_t rfl), (ev_t rfl), trivial⟩) ?_
     refine WL.val rfl rfl rfl rfl (r_assign rfl (ev_t rfl)) ?_
     refine WL.nil ?_
     refine WX.keep [(0, _), (1, _), (5, _), (7, _)] ⟨rfl, rfl, rfl, rfl, trivial⟩ ?_
     refine WX.next ?_
     refine WC.seq ?_
     refine WC.seq ?_
     refine WC.region ?_
     refine WL.val rfl rfl rfl rfl (r_move rfl (ev_t rfl)) ?_
     refine WL.val rfl rfl rfl rfl (r_lenSlice (ts := #[]) rfl (ev_t rfl) elem_35) ?_
     refine WL.val rfl rfl rfl rfl (r_move rfl ev_c) ?_
     refine WL.nil ?_
     refine WX.keep [(0, _), (5, _), (7, _), (25, _), (26, _), (27, _)] ⟨rfl, rfl, rfl, rfl, rfl, rfl, trivial⟩ ?_
     refine WX.next ?_
     refine WC.block ?_
     -- loop 1: live [0, 5, 7, 25, 26, 27]
     refine WC.keep [(0, _), (5, _), (7, _), (25, _), (26, _), (27, _)] ⟨rfl, rfl, rfl, rfl, rfl, rfl, trivial⟩ ?_
     refine WC.loop (fun qq E wA => w8 = wA ∧ E = [(0, .pointer (some ⟨p, 0, none⟩)), (5, .pointer (some ⟨w3.heap.size, 0, none⟩)), (7, mvF w.heap.size w6.heap.size w3.heap.size), (25, .slice none 0 0), (26, .int .i64 0), (27, .int .i64 0)]) (0) ?_ ?_
     · exact ⟨rfl, rfl⟩
     · rintro qq E wA ⟨rfl, rfl⟩
       refine WC.seq ?_
       refine WC.region ?_
       refine WL.val rfl rfl rfl rfl (r_lss rfl (ev_t rfl) (ev_t rfl)) ?_
       refine WL.nil ?_
       refine WX.keep [(0, _), (5, _), (7, _), (25, _), (26, _), (27, _), (28, _)] ⟨rfl, rfl, rfl, rfl, rfl, rfl, rfl, trivial⟩ ?_
       refine WX.next ?_
       refine WC.seq ?_
       refine WC.cond rfl (ev_t rfl) (fun hc6 => ?_) (fun hc6 => ?_)
       · try simp only [decide_eq_true_eq, decide_eq_false_iff_not, Bool.not_eq_true', Bool.not_eq_false', Bool.not_eq_true, Bool.not_eq_false, Option.isNone_none, Option.isNone_some, Option.isSome_none, Option.isSome_some, ne_eq, Decidable.not_not] at hc6
         exfalso
         omega
       · try (exfalso; first | (simp at hc6; done) | (simp only [decide_eq_true_eq, decide_eq_false_iff_not, Bool.not_eq_true', Bool.not_eq_false', Bool.not_eq_true, Bool.not_eq_false] at hc6; omega) | omega)
         all_goals
          try simp only [decide_eq_true_eq, decide_eq_false_iff_not, Bool.not_eq_true', Bool.not_eq_false', Bool.not_eq_true, Bool.not_eq_false, Option.isNone_none, Option.isNone_some, Option.isSome_none, Option.isSome_some, ne_eq, Decidable.not_not] at hc6
          refine WC.exit ?_
          refine WX.thenExit ?_
          refine WX.thenExit ?_
          refine WX.blockHere ?_
          refine WX.next ?_
          refine WC.seq ?_
          refine WC.seq ?_
          refine WC.region ?_
          refine WL.val rfl rfl rfl rfl (r_assign rfl ev_c) ?_
          refine WL.nil ?_
          refine WX.keep [(0, _), (5, _), (7, _), (10, _)] ⟨rfl, rfl, rfl, rfl, trivial⟩ ?_
          refine WX.next ?_
          refine WC.block ?_
          -- loop 2: live [0, 5, 7, 10]
          refine WC.keep [(0, _), (5, _), (7, _), (10, _)] ⟨rfl, rfl, rfl, rfl, trivial⟩ ?_
          refine WC.loop (fun qq E wA => w8 = wA ∧ E = [(0, .pointer (some ⟨p, 0, none⟩)), (5, .pointer (some ⟨w3.heap.size, 0, none⟩)), (7, mvF w.heap.size w6.heap.size w3.heap.size), (10, .int .i64 0)]) (0) ?_ ?_
          · exact ⟨rfl, rfl⟩
          · rintro qq E wA ⟨rfl, rfl⟩
            refine WC.seq ?_
            refine WC.seq ?_
            refine WC.region ?_
            refine WL.val rfl rfl rfl rfl (r_move rfl (ev_t rfl)) ?_
            refine WL.val rfl rfl rfl rfl (r_load rfl (ev_t rfl) flat_30 (Blk.cell hb5 rfl)) ?_
            refine WL.val rfl rfl rfl rfl (r_lenSlice (ts := #[]) rfl (ev_t rfl) elem_30) ?_
            refine WL.val rfl rfl rfl rfl (r_lss rfl (ev_t rfl) (ev_t rfl)) ?_
            refine WL.nil ?_
            refine WX.keep [(0, _), (5, _), (7, _), (10, _), (38, _)] ⟨rfl, rfl, rfl, rfl, rfl, trivial⟩ ?_
            refine WX.next ?_
            refine WC.cond rfl (ev_t rfl) (fun hc11 => ?_) (fun hc11 => ?_)
            · try simp only [decide_eq_true_eq, decide_eq_false_iff_not, Bool.not_eq_true', Bool.not_eq_false', Bool.not_eq_true, Bool.not_eq_false, Option.isNone_none, Option.isNone_some, Option.isSome_none, Option.isSome_some, ne_eq, Decidable.not_not] at hc11
              exfalso
              omega
            · try (exfalso; first | (simp at hc11; done) | (simp only [decide_eq_true_eq, decide_eq_false_iff_not, Bool.not_eq_true', Bool.not_eq_false', Bool.not_eq_true, Bool.not_eq_false] at hc11; omega) | omega)
              all_goals
               try simp only [decide_eq_true_eq, decide_eq_false_iff_not, Bool.not_eq_true', Bool.not_eq_false', Bool.not_eq_true, Bool.not_eq_false, Option.isNone_none, Option.isNone_some, Option.isSome_none, Option.isSome_some, ne_eq, Decidable.not_not] at hc11
               refine WC.exit ?_
               refine WX.thenExit ?_
               refine WX.thenExit ?_
               refine WX.blockHere ?_
               refine WX.next ?_
               refine WC.seq ?_
               refine WC.region ?_
               refine WL.val rfl rfl rfl rfl (r_move rfl (ev_t rfl)) ?_
               refine WL.val rfl rfl rfl rfl (r_load rfl (ev_t rfl) flat_30 (Blk.cell hb5 rfl)) ?_
               refine WL.val rfl rfl rfl rfl (r_nilCheck rfl (ev_t rfl)) ?_
               refine WL.val rfl rfl rfl rfl (r_field0 rfl (ev_t rfl) fld_79_0) ?_
               refine WL.cons (SO.store rfl (ev_t rfl) (ev_t rfl) size_30 hhd rfl rfl rfl rfl rfl ?_)
               intro w9 hu9 hhd hz9
               have hs9 := hu9.size
               replace hU := hU.trans hu9 (by exact (fun _ _ h => h))
               replace hq := hq.upd hu9 (fun k hk hl hS => by (simp only [At] at *; omega))
               replace hb5 := hb5.upd hu9 (fun hS => by (simp only [At] at hS; omega))
               refine WL.nil ?_
               refine WX.keep [(0, _)] ⟨rfl, trivial⟩ ?_
               refine WX.next ?_
               refine WC.region ?_
               refine WL.val rfl rfl rfl rfl (r_move rfl (ev_t rfl)) ?_
               refine WL.val rfl rfl rfl rfl (r_nilCheck rfl (ev_t rfl)) ?_
               refine WL.val rfl rfl rfl rfl (r_field0 rfl (ev_t rfl) fld_79_2) ?_
               refine WL.val rfl rfl rfl rfl (r_load rfl (ev_t rfl) flat_3 (Blk.cell hhd rfl)) ?_
               refine WL.val rfl rfl rfl rfl (r_addN rfl (ev_t rfl) ev_c (by simp only [inK]; omega)) ?_
               refine WL.val rfl rfl rfl rfl (r_nilCheck rfl (ev_t rfl)) ?_
               refine WL.val rfl rfl rfl rfl (r_field0 rfl (ev_t rfl) fld_79_2) ?_
               refine WL.cons (SO.store rfl (ev_t rfl) (ev_t rfl) size_3 hhd rfl rfl rfl rfl rfl ?_)
               intro w10 hu10 hhd hz10
               have hs10 := hu10.size
               replace hU := hU.trans hu10 (by exact (fun _ _ h => h))
               replace hq := hq.upd hu10 (fun k hk hl hS => by (simp only [At] at *; omega))
               replace hb5 := hb5.upd hu10 (fun hS => by (simp only [At] at hS; omega))
               refine WL.nil ?_
               refine WX.keep [] trivial ?_
               refine WX.endE (l := []) (vs := []) rfl trivial ?_
               exact ⟨At gT, _, _, ⟨hhd, hq, by simp only [At]; omega, fun k hk => by simp only [At] at hk; omega, by simp; omega, hn⟩, fun k hk => by simp only [At] at hk; omega, hU⟩
end Go.Proofs.YtdpnnclkkbfihaaDoor

/-
  heap: room, with no roots.
-/
namespace Go.Proofs.YtdpnnclkkbfihaaDoor
open Go
set_option linter.unusedSimpArgs false
set_option linter.unusedVariables false

/-- what is left when d words are wanted and there are no roots -/
def leftM (q d : Nat) (mem : List Nat) : List Nat := if d + mem.length ≤ q then mem else []
def leftN (q d : Nat) (mem : List Nat) (n : Nat) : Nat := if d + mem.length ≤ q then n else n + 1
theorem room_ok {w : World} {G : Nat → Prop} {p : Nat} {A : Option Addr} {c : Nat} {mem : List Nat} {q n d : Nat} (hH : HS w G p A c mem q n) (hn : n + 1 ≤ 1000000000) (hd : d ≤ 1000000000000) :
    Ret Tryd.prog 41 #[.pointer (some ⟨p, 0, none⟩), .int .i64 (d : Int), .slice none 0 0] w fun v w' => ∃ G' A' c', v = .bool (decide (d + (leftM q d mem).length ≤ q)) ∧ HS w' G' p A' c' (leftM q d mem) q (leftN q d mem n) ∧ (∀ k, G' k → G k ∨ w.heap.size ≤ k) ∧ Upd (At p) w w' := by
  have hle := hH.le
  refine enterRet (vs := [_, _, _]) (N := 34) Tryd.func41 rfl rfl rfl ?_
  have hU := Upd.refl (At p) w
  refine WC.keep [(0, _), (1, _), (2, _)] ⟨rfl, rfl, rfl, trivial⟩ ?_
  refine WC.seq ?_
  refine WC.region ?_
  refine WL.val rfl rfl rfl rfl (r_assign rfl ev_c) ?_
  refine WL.nil ?_
  refine WX.keep [(0, _), (1, _), (2, _)] ⟨rfl, rfl, rfl, trivial⟩ ?_
  refine WX.next ?_
  refine WC.seq ?_
  refine WC.seq ?_
  refine WC.draws' (fun u0_ u1_ => Upd No u0_ u1_) (fun j => [0, 0, 0, 0, 0, 0, 0, 0, 1, 0, 0, 0].getD j 0) (.calm 0 (.calm 1 (.calm 2 (.calm 3 (.calm 5 (.calm 6 (.calm 7 (.held 4 (.one 8 (.calm 9 (.calm 10 (.calm 11 (.done))))))))))))) mixed (by kernel_rfl) (by repeat (first | with_reducible exact Deaf.body | with_reducible apply Deaf.then | with_reducible apply Deaf.block)) ?_
  intro w1 hu1
  have hz1 := congrArg Array.size hu1.2.2.2
  replace hu1 := Upd.of_draw hu1
  have hs1 := hu1.size
  replace hU := hU.transA hu1
  replace hH := hH.upd hu1 (fun k hk hl hS => by first | exact (show False from hS).elim)
  have hS1 := Upd.refl No w1
  refine WN.calm _ rfl rfl rfl rfl rfl (fun _ => r_move rfl (ev_t rfl)) ?_
  refine WN.calm _ rfl rfl rfl rfl rfl (fun _ => r_move rfl (ev_t rfl)) ?_
  refine WN.calm _ rfl rfl rfl rfl rfl (fun _ => r_nilCheck rfl (ev_t rfl)) ?_
  first | refine WN.calm _ rfl rfl rfl rfl rfl (fun _ => r_field0 rfl (ev_t rfl) fld_79_1) ?_ | refine WN.calm _ rfl rfl rfl rfl rfl (fun _ => r_fieldAt rfl (ev_t rfl) fld_79_1) ?_
  refine WN.calm _ rfl rfl rfl rfl rfl (fun _ => r_move rfl (ev_t rfl)) ?_
  refine WN.calm _ rfl rfl rfl rfl rfl (fun _ => r_nilCheck rfl (ev_t rfl)) ?_
  first | refine WN.calm _ rfl rfl rfl rfl rfl (fun _ => r_field0 rfl (ev_t rfl) fld_79_0) ?_ | refine WN.calm _ rfl rfl rfl rfl rfl (fun _ => r_fieldAt rfl (ev_t rfl) fld_79_0) ?_
  first | refine WN.held _ rfl rfl rfl rfl rfl hS1 (fun w' hS => r_load rfl (ev_t rfl) flat_3 (Blk.cell (hH.hd.upd hS (fun h => h)) rfl)) ?_ | refine WN.held _ rfl rfl rfl rfl rfl hS1 (fun w' hS => r_load rfl (ev_t rfl) flat_3 (Blk.cell hH.hd rfl)) ?_
  first | refine WN.step _ rfl (SO.val rfl rfl rfl rfl (r_load rfl (ev_t rfl) flat_30 (Blk.cell (hH.hd.upd hS (fun h => h)) rfl)) ?_) | refine WN.step _ rfl (SO.val rfl rfl rfl rfl (r_load rfl (ev_t rfl) flat_30 (Blk.cell hH.hd rfl)) ?_)
  refine ⟨hS1, ?_⟩
  refine WN.calm _ rfl rfl rfl rfl rfl (fun _ => r_lenSlice (ts := #[]) rfl (ev_t rfl) elem_30) ?_
  first | refine WN.calm _ rfl rfl rfl rfl rfl (fun _ => r_subN rfl (ev_t rfl) (ev_t rfl) (by simp only [inK]; omega)) ?_ | refine WN.calm _ rfl rfl rfl rfl rfl (fun _ => r_sub rfl (ev_t rfl) (ev_t rfl)) ?_
  refine WN.calm _ rfl rfl rfl rfl rfl (fun _ => r_gtr rfl (ev_t rfl) (ev_t rfl)) ?_
  refine WN.done ?_
  refine WX.keep [(0, _), (1, _), (2, _), (18, _)] ⟨rfl, rfl, rfl, rfl, trivial⟩ ?_
  refine WX.next ?_
  refine WC.cond rfl (ev_t rfl) (fun hc1 => ?_) (fun hc1 => ?_)
  · try (exfalso; first | (simp at hc1; done) | (simp only [decide_eq_true_eq, decide_eq_false_iff_not, Bool.not_eq_true', Bool.not_eq_false', Bool.not_eq_true, Bool.not_eq_false] at hc1; omega) | omega)
    all_goals
     try simp only [decide_eq_true_eq, decide_eq_false_iff_not, Bool.not_eq_true', Bool.not_eq_false', Bool.not_eq_true, Bool.not_eq_false, Option.isNone_none, Option.isNone_some, Option.isSome_none, Option.isSome_some, ne_eq, Decidable.not_not] at hc1
     have hnl : ¬ d + mem.length ≤ q := by omega
     have e1 : leftM q d mem = [] := if_neg hnl
     have e2 : leftN q d mem n = n + 1 := if_neg hnl
     rw [e1, e2]
     refine WC.region ?_
     refine WL.val rfl rfl rfl rfl (r_move rfl (ev_t rfl)) ?_
     refine WL.val rfl rfl rfl rfl (r_move rfl (ev_t rfl)) ?_
     refine WL.cons (SO.call (collect0_ok hH hn) rfl body_14 ⟨(ev_t rfl), (ev_t rfl), trivial⟩ rfl rfl rfl rfl ?_)
     rintro v w2 ⟨G', A', c', hH2, hG2, hu2⟩
     have hs2 := hu2.size
     replace hU := hU.transA hu2
     have hH := hH2
     refine WL.nil ?_
     refine WX.keep [(0, _), (1, _)] ⟨rfl, rfl, trivial⟩ ?_
     refine WX.next ?_
     refine WC.seq ?_
     refine WC.draws' (fun u0_ u1_ => Upd No u0_ u1_) (fun j => [0, 0, 0, 0, 0, 0, 0, 0, 1, 0, 0, 0, 0].getD j 0) (.calm 0 (.calm 1 (.calm 2 (.calm 3 (.calm 5 (.calm 6 (.calm 7 (.held 4 (.one 8 (.calm 9 (.calm 10 (.calm 11 (.calm 12 (.done)))))))))))))) mixed (by kernel_rfl) (by repeat (first | with_reducible exact Deaf.body | with_reducible apply Deaf.then | with_reducible apply Deaf.block)) ?_
     intro w3 hu3
     have hz3 := congrArg Array.size hu3.2.2.2
     replace hu3 := Upd.of_draw hu3
     have hs3 := hu3.size
     replace hU := hU.transA hu3
     replace hH := hH.upd hu3 (fun k hk hl hS => by first | exact (show False from hS).elim)
     have hS3 := Upd.refl No w3
     refine WN.calm _ rfl rfl rfl rfl rfl (fun _ => r_move rfl (ev_t rfl)) ?_
     refine WN.calm _ rfl rfl rfl rfl rfl (fun _ => r_move rfl (ev_t rfl)) ?_
     refine WN.calm _ rfl rfl rfl rfl rfl (fun _ => r_nilCheck rfl (ev_t rfl)) ?_
     first | refine WN.calm _ rfl rfl rfl rfl rfl (fun _ => r_field0 rfl (ev_t rfl) fld_79_1) ?_ | refine WN.calm _ rfl rfl rfl rfl rfl (fun _ => r_fieldAt rfl (ev_t rfl) fld_79_1) ?_
     refine WN.calm _ rfl rfl rfl rfl rfl (fun _ => r_move rfl (ev_t rfl)) ?_
     refine WN.calm _ rfl rfl rfl rfl rfl (fun _ => r_nilCheck rfl (ev_t rfl)) ?_
     first | refine WN.calm _ rfl rfl rfl rfl rfl (fun _ => r_field0 rfl (ev_t rfl) fld_79_0) ?_ | refine WN.calm _ rfl rfl rfl rfl rfl (fun _ => r_fieldAt rfl (ev_t rfl) fld_79_0) ?_
     first | refine WN.held _ rfl rfl rfl rfl rfl hS3 (fun w' hS => r_load rfl (ev_t rfl) flat_3 (Blk.cell (hH.hd.upd hS (fun h => h)) rfl)) ?_ | refine WN.held _ rfl rfl rfl rfl rfl hS3 (fun w' hS => r_load rfl (ev_t rfl) flat_3 (Blk.cell hH.hd rfl)) ?_
     first | refine WN.step _ rfl (SO.val rfl rfl rfl rfl (r_load rfl (ev_t rfl) flat_30 (Blk.cell (hH.hd.upd hS (fun h => h)) rfl)) ?_) | refine WN.step _ rfl (SO.val rfl rfl rfl rfl (r_load rfl (ev_t rfl) flat_30 (Blk.cell hH.hd rfl)) ?_)
     refine ⟨hS3, ?_⟩
     refine WN.calm _ rfl rfl rfl rfl rfl (fun _ => r_lenSlice (ts := #[]) rfl (ev_t rfl) elem_30) ?_
     first | refine WN.calm _ rfl rfl rfl rfl rfl (fun _ => r_subN rfl (ev_t rfl) (ev_t rfl) (by simp only [inK]; omega)) ?_ | refine WN.calm _ rfl rfl rfl rfl rfl (fun _ => r_sub rfl (ev_t rfl) (ev_t rfl)) ?_
     refine WN.calm _ rfl rfl rfl rfl rfl (fun _ => r_leq rfl (ev_t rfl) (ev_t rfl)) ?_
     refine WN.calm _ rfl rfl rfl rfl rfl (fun _ => r_assign rfl (ev_t rfl)) ?_
     refine WN.done ?_
     refine WX.keep [(6, _)] ⟨rfl, trivial⟩ ?_
     refine WX.next ?_
     refine WC.ret ?_
     refine WX.retE1 rfl rfl ?_
     first
       | exact ⟨G, _, _, congrArg Value.bool (decide_eq_decide.2 (by omega)), hH, fun k h => .inl h, hU⟩
       | exact ⟨G', _, _, congrArg Value.bool (decide_eq_decide.2 (by rw [wrap_i64]; simp only [List.length_nil]; split <;> omega)), hH, fun k h => .inr (by have := hG2 k h; omega), hU⟩
  · try (exfalso; first | (simp at hc1; done) | (simp only [decide_eq_true_eq, decide_eq_false_iff_not, Bool.not_eq_true', Bool.not_eq_false', Bool.not_eq_true, Bool.not_eq_false] at hc1; omega) | omega)
    all_goals
     try simp only [decide_eq_true_eq, decide_eq_false_iff_not, Bool.not_eq_true', Bool.not_eq_false', Bool.not_eq_true, Bool.not_eq_false, Option.isNone_none, Option.isNone_some, Option.isSome_none, Option.isSome_some, ne_eq, Decidable.not_not] at hc1
     have hnl : d + mem.length ≤ q := by omega
     have e1 : leftM q d mem = mem := if_pos hnl
     have e2 : leftN q d mem n = n := if_pos hnl
     rw [e1, e2]
     refine WC.skip ?_
     refine WX.next ?_
     refine WC.seq ?_
     refine WC.draws' (fun u0_ u1_ => Upd No u0_ u1_) (fun j => [0, 0, 0, 0, 0, 0, 0, 0, 1, 0, 0, 0, 0].getD j 0) (.calm 0 (.calm 1 (.calm 2 (.calm 3 (.calm 5 (.calm 6 (.calm 7 (.held 4 (.one 8 (.calm 9 (.calm 10 (.calm 11 (.calm 12 (.done)))))))))))))) mixed (by kernel_rfl) (by repeat (first | with_reducible exact Deaf.body | with_reducible apply Deaf.then | with_reducible apply Deaf.block)) ?_
     intro w4 hu4
     have hz4 := congrArg Array.size hu4.2.2.2
     replace hu4 := Upd.of_draw hu4
     have hs4 := hu4.size
     replace hU := hU.transA hu4
     replace hH := hH.upd hu4 (fun k hk hl hS => by first | exact (show False from hS).elim)
     have hS3 := Upd.refl No w4
     refine WN.calm _ rfl rfl rfl rfl rfl (fun _ => r_move rfl (ev_t rfl)) ?_
     refine WN.calm _ rfl rfl rfl rfl rfl (fun _ => r_move rfl (ev_t rfl)) ?_
     refine WN.calm _ rfl rfl rfl rfl rfl (fun _ => r_nilCheck rfl (ev_t rfl)) ?_
     first | refine WN.calm _ rfl rfl rfl rfl rfl (fun _ => r_field0 rfl (ev_t rfl) fld_79_1) ?_ | refine WN.calm _ rfl rfl rfl rfl rfl (fun _ => r_fieldAt rfl (ev_t rfl) fld_79_1) ?_
     refine WN.calm _ rfl rfl rfl rfl rfl (fun _ => r_move rfl (ev_t rfl)) ?_
     refine WN.calm _ rfl rfl rfl rfl rfl (fun _ => r_nilCheck rfl (ev_t rfl)) ?_
     first | refine WN.calm _ rfl rfl rfl rfl rfl (fun _ => r_field0 rfl (ev_t rfl) fld_79_0) ?_ | refine WN.calm _ rfl rfl rfl rfl rfl (fun _ => r_fieldAt rfl (ev_t rfl) fld_79_0) ?_
     first | refine WN.held _ rfl rfl rfl rfl rfl hS3 (fun w' hS => r_load rfl (ev_t rfl) flat_3 (Blk.cell (hH.hd.upd hS (fun h => h)) rfl)) ?_ | refine WN.held _ rfl rfl rfl rfl rfl hS3 (fun w' hS => r_load rfl (ev_t rfl) flat_3 (Blk.cell hH.hd rfl)) ?_
     first | refine WN.step _ rfl (SO.val rfl rfl rfl rfl (r_load rfl (ev_t rfl) flat_30 (Blk.cell (hH.hd.upd hS (fun h => h)) rfl)) ?_) | refine WN.step _ rfl (SO.val rfl rfl rfl rfl (r_load rfl (ev_t rfl) flat_30 (Blk.cell hH.hd rfl)) ?_)
     refine ⟨hS3, ?_⟩
     refine WN.calm _ rfl rfl rfl rfl rfl (fun _ => r_lenSlice (ts := #[]) rfl (ev_t rfl) elem_30) ?_
     first | refine WN.calm _ rfl rfl rfl rfl rfl (fun _ => r_subN rfl (ev_t rfl) (ev_t rfl) (by simp only [inK]; omega)) ?_ | refine WN.calm _ rfl rfl rfl rfl rfl (fun _ => r_sub rfl (ev_t rfl) (ev_t rfl)) ?_
     refine WN.calm _ rfl rfl rfl rfl rfl (fun _ => r_leq rfl (ev_t rfl) (ev_t rfl)) ?_
     refine WN.calm _ rfl rfl rfl rfl rfl (fun _ => r_assign rfl (ev_t rfl)) ?_
     refine WN.done ?_
     refine WX.keep [(6, _)] ⟨rfl, trivial⟩ ?_
     refine WX.next ?_
     refine WC.ret ?_
     refine WX.retE1 rfl rfl ?_
     first
       | exact ⟨G, _, _, congrArg Value.bool (decide_eq_decide.2 (by omega)), hH, fun k h => .inl h, hU⟩
       | exact ⟨G', _, _, congrArg Value.bool (decide_eq_decide.2 (by rw [wrap_i64]; simp only [List.length_nil]; split <;> omega)), hH, fun k h => .inr (by have := hG2 k h; omega), hU⟩
end Go.Proofs.YtdpnnclkkbfihaaDoor

/-
  heap: at, Kind, Len.
-/
namespace Go.Proofs.YtdpnnclkkbfihaaDoor
open Go
set_option linter.unusedSimpArgs false
set_option linter.unusedVariables false

theorem wrap_u8 (x : Int) : IntKind.u8.wrap x = x % 256 := by simp [IntKind.wrap, IntKind.signed, IntKind.bits]
theorem at_ok {w : World} {G : Nat → Prop} {p : Nat} {A : Option Addr} {c : Nat} {mem : List Nat} {q n a : Nat} (hH : HS w G p A c mem q n) (ha : a < mem.length) :
    Ret Tryd.prog 46 #[.pointer (some ⟨p, 0, none⟩), .int .u64 ((2 * a : Nat) : Int)] w fun v w' => v = .int .i64 (a : Int) ∧ w = w' := by
  have hle := hH.le
  refine enterRet (vs := [_, _]) (N := 25) Tryd.func46 rfl rfl rfl ?_
  refine WC.keep [(0, _), (1, _)] ⟨rfl, rfl, trivial⟩ ?_
  refine WC.seq ?_
  refine WC.region ?_
  refine WL.val rfl rfl rfl rfl (r_assign rfl ev_c) ?_
  refine WL.nil ?_
  refine WX.keep [(0, _), (1, _)] ⟨rfl, rfl, trivial⟩ ?_
  refine WX.next ?_
  refine WC.seq ?_
  refine WC.seq ?_
  refine WC.region ?_
  refine WL.val rfl rfl rfl rfl (r_move rfl (ev_t rfl)) ?_
  refine WL.val rfl rfl rfl rfl (r_eqlPtrNil rfl (ev_t rfl) ev_c ptr_26) ?_
  refine WL.val rfl rfl rfl rfl (r_move rfl (ev_t rfl)) ?_
  refine WL.cases 7 rfl (fun hb1_2 => ?_) (fun hb1_2 => ?_)
  · try (exfalso; first | (simp at hb1_2; done) | (simp only [decide_eq_true_eq, decide_eq_false_iff_not, Bool.not_eq_true', Bool.not_eq_false', Bool.not_eq_true, Bool.not_eq_false] at hb1_2; omega) | omega)
  · try (exfalso; first | (simp at hb1_2; done) | (simp only [decide_eq_true_eq, decide_eq_false_iff_not, Bool.not_eq_true', Bool.not_eq_false', Bool.not_eq_true, Bool.not_eq_false] at hb1_2; omega) | omega)
    all_goals
     try simp only [decide_eq_true_eq, decide_eq_false_iff_not, Bool.not_eq_true', Bool.not_eq_false', Bool.not_eq_true, Bool.not_eq_false, Option.isNone_none, Option.isNone_some, Option.isSome_none, Option.isSome_some, ne_eq, Decidable.not_not] at hb1_2
     refine WL.val rfl rfl rfl rfl (r_move rfl (ev_t rfl)) ?_
     refine WL.cons (SO.call (isNum_ok (by omega)) rfl body_19 ⟨(ev_t rfl), trivial⟩ rfl rfl rfl rfl ?_)
     rintro v w1 ⟨rfl, he⟩
     obtain rfl := he.symm
     refine WL.val rfl rfl rfl rfl (r_pickF rfl (ev_t rfl) (ev_t rfl)) ?_
     refine WL.val rfl rfl rfl rfl (r_move rfl (ev_t rfl)) ?_
     refine WL.cases 11 rfl (fun hb1_6 => ?_) (fun hb1_6 => ?_)
     · try (exfalso; first | (simp at hb1_6; done) | (simp only [decide_eq_true_eq, decide_eq_false_iff_not, Bool.not_eq_true', Bool.not_eq_false', Bool.not_eq_true, Bool.not_eq_false] at hb1_6; omega) | omega)
     · try (exfalso; first | (simp at hb1_6; done) | (simp only [decide_eq_true_eq, decide_eq_false_iff_not, Bool.not_eq_true', Bool.not_eq_false', Bool.not_eq_true, Bool.not_eq_false] at hb1_6; omega) | omega)
       all_goals
        try simp only [decide_eq_true_eq, decide_eq_false_iff_not, Bool.not_eq_true', Bool.not_eq_false', Bool.not_eq_true, Bool.not_eq_false, Option.isNone_none, Option.isNone_some, Option.isSome_none, Option.isSome_some, ne_eq, Decidable.not_not] at hb1_6
        refine WL.val rfl rfl rfl rfl (r_move rfl (ev_t rfl)) ?_
        refine WL.val rfl rfl rfl rfl (r_shr rfl (ev_t rfl) ev_c (by omega) (by simp only [IntKind.bits]; omega)) ?_
        refine WL.val rfl rfl rfl rfl (r_move rfl (ev_t rfl)) ?_
        refine WL.val rfl rfl rfl rfl (r_nilCheck rfl (ev_t rfl)) ?_
        refine WL.val rfl rfl rfl rfl (r_field0 rfl (ev_t rfl) fld_79_0) ?_
        refine WL.val rfl rfl rfl rfl (r_load rfl (ev_t rfl) flat_30 (Blk.cell hH.hd rfl)) ?_
        refine WL.val rfl rfl rfl rfl (r_lenSlice (ts := #[]) rfl (ev_t rfl) elem_30) ?_
        refine WL.val rfl rfl rfl rfl (r_convN rfl (ev_t rfl) some_3 int_32 (by simp only [inK]; omega)) ?_
        refine WL.val rfl rfl rfl rfl (r_geq rfl (ev_t rfl) (ev_t rfl)) ?_
        refine WL.val rfl rfl rfl rfl (r_pickF rfl (ev_t rfl) (ev_t rfl)) ?_
        refine WL.nil ?_
        refine WX.keep [(1, _), (21, _)] ⟨rfl, rfl, trivial⟩ ?_
        refine WX.next ?_
        refine WC.cond rfl (ev_t rfl) (fun hc1 => ?_) (fun hc1 => ?_)
        · try simp only [decide_eq_true_eq, decide_eq_false_iff_not, Bool.not_eq_true', Bool.not_eq_false', Bool.not_eq_true, Bool.not_eq_false, Option.isNone_none, Option.isNone_some, Option.isSome_none, Option.isSome_some, ne_eq, Decidable.not_not] at hc1
          exfalso
          first
            | omega
            | (simp at hc1; omega)
            | (rw [wrap_u64] at hc1; simp only [Int.toNat_one, Int.pow_one] at hc1; simp at hc1; omega)
        · try (exfalso; first | (simp at hc1; done) | (simp only [decide_eq_true_eq, decide_eq_false_iff_not, Bool.not_eq_true', Bool.not_eq_false', Bool.not_eq_true, Bool.not_eq_false] at hc1; omega) | omega)
          all_goals
           try simp only [decide_eq_true_eq, decide_eq_false_iff_not, Bool.not_eq_true', Bool.not_eq_false', Bool.not_eq_true, Bool.not_eq_false, Option.isNone_none, Option.isNone_some, Option.isSome_none, Option.isSome_some, ne_eq, Decidable.not_not] at hc1
           refine WC.skip ?_
           refine WX.next ?_
           refine WC.seq ?_
           refine WC.region ?_
           refine WL.val rfl rfl rfl rfl (r_move rfl (ev_t rfl)) ?_
           refine WL.val rfl rfl rfl rfl (r_shr rfl (ev_t rfl) ev_c (by omega) (by simp only [IntKind.bits]; omega)) ?_
           refine WL.val rfl rfl rfl rfl (r_conv rfl (ev_t rfl) some_32 int_3) ?_
           refine WL.val rfl rfl rfl rfl (r_assign rfl (ev_t rfl)) ?_
           refine WL.nil ?_
           refine WX.keep [(4, _)] ⟨rfl, trivial⟩ ?_
           refine WX.next ?_
           refine WC.ret ?_
           refine WX.retE1 rfl rfl ?_
           refine ⟨?_, rfl⟩
           congr 1
           rw [wrap_i64]
           simp only [Int.toNat_one, Int.pow_one]
           split <;> omega
theorem atNil_ok {w : World} {x : Nat} : Ret Tryd.prog 46 #[.pointer none, .int .u64 (x : Int)] w fun v w' => v = .int .i64 (-1) ∧ w = w' := by
  refine enterRet (vs := [_, _]) (N := 25) Tryd.func46 rfl rfl rfl ?_
  refine WC.keep [(0, _), (1, _)] ⟨rfl, rfl, trivial⟩ ?_
  refine WC.seq ?_
  refine WC.region ?_
  refine WL.val rfl rfl rfl rfl (r_assign rfl ev_c) ?_
  refine WL.nil ?_
  refine WX.keep [(0, _), (1, _)] ⟨rfl, rfl, trivial⟩ ?_
  refine WX.next ?_
  refine WC.seq ?_
  refine WC.seq ?_
  refine WC.region ?_
  refine WL.val rfl rfl rfl rfl (r_move rfl (ev_t rfl)) ?_
  refine WL.val rfl rfl rfl rfl (r_eqlPtrNil rfl (ev_t rfl) ev_c ptr_26) ?_
  refine WL.val rfl rfl rfl rfl (r_move rfl (ev_t rfl)) ?_
  refine WL.cases 7 rfl (fun hb1_2 => ?_) (fun hb1_2 => ?_)
  · try (exfalso; first | (simp at hb1_2; done) | (simp only [decide_eq_true_eq, decide_eq_false_iff_not, Bool.not_eq_true', Bool.not_eq_false', Bool.not_eq_true, Bool.not_eq_false] at hb1_2; omega) | omega)
    all_goals
     try simp only [decide_eq_true_eq, decide_eq_false_iff_not, Bool.not_eq_true', Bool.not_eq_false', Bool.not_eq_true, Bool.not_eq_false, Option.isNone_none, Option.isNone_some, Option.isSome_none, Option.isSome_some, ne_eq, Decidable.not_not] at hb1_2
     refine WL.skip rfl rfl rfl ?_
     refine WL.skip rfl rfl rfl ?_
     refine WL.val rfl rfl rfl rfl (r_pickT rfl (ev_t rfl) ev_c) ?_
     refine WL.val rfl rfl rfl rfl (r_move rfl (ev_t rfl)) ?_
     refine WL.skip rfl rfl rfl ?_
     refine WL.skip rfl rfl rfl ?_
     refine WL.skip rfl rfl rfl ?_
     refine WL.skip rfl rfl rfl ?_
     refine WL.skip rfl rfl rfl ?_
     refine WL.skip rfl rfl rfl ?_
     refine WL.skip rfl rfl rfl ?_
     refine WL.skip rfl rfl rfl ?_
     refine WL.skip rfl rfl rfl ?_
     refine WL.val rfl rfl rfl rfl (r_pickT rfl (ev_t rfl) ev_c) ?_
     refine WL.nil ?_
     refine WX.keep [(1, _), (21, _)] ⟨rfl, rfl, trivial⟩ ?_
     refine WX.next ?_
     refine WC.cond_true rfl (ev_t rfl) ?_
     refine WC.seq ?_
     refine WC.region ?_
     refine WL.val rfl rfl rfl rfl (r_assign rfl ev_c) ?_
     refine WL.nil ?_
     refine WX.keep [(4, _)] ⟨rfl, trivial⟩ ?_
     refine WX.next ?_
     refine WC.ret ?_
     refine WX.thenRet ?_
     refine WX.retE1 rfl rfl ?_
     exact ⟨rfl, rfl⟩
  · try (exfalso; first | (simp at hb1_2; done) | (simp only [decide_eq_true_eq, decide_eq_false_iff_not, Bool.not_eq_true', Bool.not_eq_false', Bool.not_eq_true, Bool.not_eq_false] at hb1_2; omega) | omega)
theorem kind_ok {w : World} {G : Nat → Prop} {p : Nat} {A : Option Addr} {c : Nat} {mem : List Nat} {q n a x : Nat} (hH : HS w G p A c mem q n) (ha : mem[a]? = some x) :
    Ret Tryd.prog 40 #[.pointer (some ⟨p, 0, none⟩), .int .u64 ((2 * a : Nat) : Int)] w fun v w' => v = .int .u8 ((x % 256 : Nat) : Int) ∧ w = w' := by
  have hle := hH.le
  have hal := (List.getElem?_eq_some_iff.1 ha).1
  have hr := hH.ow.rd (by omega)
  obtain ⟨b0, off, rfl, _⟩ := hr.open (by omega)
  refine enterRet (vs := [_, _]) (N := 19) Tryd.func40 rfl rfl rfl ?_
  refine WC.keep [(0, _), (1, _)] ⟨rfl, rfl, trivial⟩ ?_
  refine WC.seq ?_
  refine WC.region ?_
  refine WL.val rfl rfl rfl rfl (r_assign rfl ev_c) ?_
  refine WL.nil ?_
  refine WX.keep [(0, _), (1, _)] ⟨rfl, rfl, trivial⟩ ?_
  refine WX.next ?_
  refine WC.seq ?_
  refine WC.seq ?_
  refine WC.region ?_
  refine WL.val rfl rfl rfl rfl (r_move rfl (ev_t rfl)) ?_
  refine WL.val rfl rfl rfl rfl (r_move rfl (ev_t rfl)) ?_
  refine WL.cons (SO.call (at_ok hH hal) rfl body_46 ⟨(ev_t rfl), (ev_t rfl), trivial⟩ rfl rfl rfl rfl ?_)
  rintro v w1 ⟨rfl, he⟩
  obtain rfl := he.symm
  refine WL.val rfl rfl rfl rfl (r_assign rfl (ev_t rfl)) ?_
  refine WL.nil ?_
  refine WX.keep [(0, _), (5, _)] ⟨rfl, rfl, trivial⟩ ?_
  refine WX.next ?_
  refine WC.seq ?_
  refine WC.region ?_
  refine WL.val rfl rfl rfl rfl (r_move rfl (ev_t rfl)) ?_
  refine WL.val rfl rfl rfl rfl (r_geq rfl (ev_t rfl) ev_c) ?_
  refine WL.nil ?_
  refine WX.keep [(0, _), (5, _), (10, _)] ⟨rfl, rfl, rfl, trivial⟩ ?_
  refine WX.next ?_
  refine WC.cond rfl (ev_t rfl) (fun hc2 => ?_) (fun hc2 => ?_)
  · try (exfalso; first | (simp at hc2; done) | (simp only [decide_eq_true_eq, decide_eq_false_iff_not, Bool.not_eq_true', Bool.not_eq_false', Bool.not_eq_true, Bool.not_eq_false] at hc2; omega) | omega)
    all_goals
     try simp only [decide_eq_true_eq, decide_eq_false_iff_not, Bool.not_eq_true', Bool.not_eq_false', Bool.not_eq_true, Bool.not_eq_false, Option.isNone_none, Option.isNone_some, Option.isSome_none, Option.isSome_some, ne_eq, Decidable.not_not] at hc2
     refine WC.seq ?_
     refine WC.region ?_
     refine WL.val rfl rfl rfl rfl (r_move rfl (ev_t rfl)) ?_
     refine WL.val rfl rfl rfl rfl (r_nilCheck rfl (ev_t rfl)) ?_
     refine WL.val rfl rfl rfl rfl (r_field0 rfl (ev_t rfl) fld_79_0) ?_
     refine WL.val rfl rfl rfl rfl (r_load rfl (ev_t rfl) flat_30 (Blk.cell hH.hd rfl)) ?_
     refine WL.val rfl rfl rfl rfl (r_move rfl (ev_t rfl)) ?_
     refine WL.val rfl rfl rfl rfl (r_indexAddr rfl (ev_t rfl) (ev_t rfl) elem_30 size_32 (by omega) (by omega)) ?_
     refine WL.val rfl rfl rfl rfl (r_load rfl (ev_t rfl) flat_32 (hr.cell (j := a) (u := Wd x) (by omega) (by rw [List.getElem?_map, ha]; rfl))) ?_
     refine WL.val rfl rfl rfl rfl (r_conv rfl (ev_t rfl) some_32 int_5) ?_
     refine WL.val rfl rfl rfl rfl (r_assign rfl (ev_t rfl)) ?_
     refine WL.nil ?_
     refine WX.keep [(4, _)] ⟨rfl, trivial⟩ ?_
     refine WX.next ?_
     refine WC.ret ?_
     refine WX.thenRet ?_
     refine WX.retE1 rfl rfl ?_
     refine ⟨?_, rfl⟩
     exact congrArg (Value.int .u8) (by rw [wrap_u8]; omega)
  · try (exfalso; first | (simp at hc2; done) | (simp only [decide_eq_true_eq, decide_eq_false_iff_not, Bool.not_eq_true', Bool.not_eq_false', Bool.not_eq_true, Bool.not_eq_false] at hc2; omega) | omega)
theorem len_ok {w : World} {G : Nat → Prop} {p : Nat} {A : Option Addr} {c : Nat} {mem : List Nat} {q n a x : Nat} (hH : HS w G p A c mem q n) (ha : mem[a]? = some x) (hx : x < 18446744073709551616) :
    Ret Tryd.prog 16 #[.pointer (some ⟨p, 0, none⟩), .int .u64 ((2 * a : Nat) : Int)] w fun v w' => v = .int .i64 ((x / 256 : Nat) : Int) ∧ w = w' := by
  have hle := hH.le
  have hal := (List.getElem?_eq_some_iff.1 ha).1
  have hr := hH.ow.rd (by omega)
  obtain ⟨b0, off, rfl, _⟩ := hr.open (by omega)
  refine enterRet (vs := [_, _]) (N := 20) Tryd.func16 rfl rfl rfl ?_
  refine WC.keep [(0, _), (1, _)] ⟨rfl, rfl, trivial⟩ ?_
  refine WC.seq ?_
  refine WC.region ?_
  refine WL.val rfl rfl rfl rfl (r_assign rfl ev_c) ?_
  refine WL.nil ?_
  refine WX.keep [(0, _), (1, _)] ⟨rfl, rfl, trivial⟩ ?_
  refine WX.next ?_
  refine WC.seq ?_
  refine WC.seq ?_
  refine WC.region ?_
  refine WL.val rfl rfl rfl rfl (r_move rfl (ev_t rfl)) ?_
  refine WL.val rfl rfl rfl rfl (r_move rfl (ev_t rfl)) ?_
  refine WL.cons (SO.call (at_ok hH hal) rfl body_46 ⟨(ev_t rfl), (ev_t rfl), trivial⟩ rfl rfl rfl rfl ?_)
  rintro v w1 ⟨rfl, he⟩
  obtain rfl := he.symm
  refine WL.val rfl rfl rfl rfl (r_assign rfl (ev_t rfl)) ?_
  refine WL.nil ?_
  refine WX.keep [(0, _), (5, _)] ⟨rfl, rfl, trivial⟩ ?_
  refine WX.next ?_
  refine WC.seq ?_
  refine WC.region ?_
  refine WL.val rfl rfl rfl rfl (r_move rfl (ev_t rfl)) ?_
  refine WL.val rfl rfl rfl rfl (r_geq rfl (ev_t rfl) ev_c) ?_
  refine WL.nil ?_
  refine WX.keep [(0, _), (5, _), (10, _)] ⟨rfl, rfl, rfl, trivial⟩ ?_
  refine WX.next ?_
  refine WC.cond rfl (ev_t rfl) (fun hc2 => ?_) (fun hc2 => ?_)
  · try (exfalso; first | (simp at hc2; done) | (simp only [decide_eq_true_eq, decide_eq_false_iff_not, Bool.not_eq_true', Bool.not_eq_false', Bool.not_eq_true, Bool.not_eq_false] at hc2; omega) | omega)
    all_goals
     try simp only [decide_eq_true_eq, decide_eq_false_iff_not, Bool.not_eq_true', Bool.not_eq_false', Bool.not_eq_true, Bool.not_eq_false, Option.isNone_none, Option.isNone_some, Option.isSome_none, Option.isSome_some, ne_eq, Decidable.not_not] at hc2
     refine WC.seq ?_
     refine WC.region ?_
     refine WL.val rfl rfl rfl rfl (r_move rfl (ev_t rfl)) ?_
     refine WL.val rfl rfl rfl rfl (r_nilCheck rfl (ev_t rfl)) ?_
     refine WL.val rfl rfl rfl rfl (r_field0 rfl (ev_t rfl) fld_79_0) ?_
     refine WL.val rfl rfl rfl rfl (r_load rfl (ev_t rfl) flat_30 (Blk.cell hH.hd rfl)) ?_
     refine WL.val rfl rfl rfl rfl (r_move rfl (ev_t rfl)) ?_
     refine WL.val rfl rfl rfl rfl (r_indexAddr rfl (ev_t rfl) (ev_t rfl) elem_30 size_32 (by omega) (by omega)) ?_
     refine WL.val rfl rfl rfl rfl (r_load rfl (ev_t rfl) flat_32 (hr.cell (j := a) (u := Wd x) (by omega) (by rw [List.getElem?_map, ha]; rfl))) ?_
     refine WL.val rfl rfl rfl rfl (r_shr rfl (ev_t rfl) ev_c (by omega) (by simp only [IntKind.bits]; omega)) ?_
     refine WL.val rfl rfl rfl rfl (r_conv rfl (ev_t rfl) some_32 int_3) ?_
     refine WL.val rfl rfl rfl rfl (r_assign rfl (ev_t rfl)) ?_
     refine WL.nil ?_
     refine WX.keep [(4, _)] ⟨rfl, trivial⟩ ?_
     refine WX.next ?_
     refine WC.ret ?_
     refine WX.thenRet ?_
     refine WX.retE1 rfl rfl ?_
     refine ⟨?_, rfl⟩
     congr 1
     rw [wrap_i64]
     have e : (2 : Int) ^ Int.toNat 8 = 256 := by decide
     rw [e]
     split <;> omega
  · try (exfalso; first | (simp at hc2; done) | (simp only [decide_eq_true_eq, decide_eq_false_iff_not, Bool.not_eq_true', Bool.not_eq_false', Bool.not_eq_true, Bool.not_eq_false] at hc2; omega) | omega)
end Go.Proofs.YtdpnnclkkbfihaaDoor

/-
  heap: a word out of bytes, byte by byte. No program in sight.
-/
namespace Go.Proofs.YtdpnnclkkbfihaaDoor
open Go
set_option linter.unusedSimpArgs false
set_option linter.unusedVariables false

theorem pow256 (k : Nat) : 256 ^ k = 2 ^ (8 * k) := by rw [Nat.pow_mul]
theorem or_step {l : List UInt8} {k : Nat} {b : UInt8} (hl : l.length = k) : leW l ||| (b.toNat * 2 ^ (8 * k)) = leW (l ++ [b]) := by
  have h := leW_lt l
  rw [hl, pow256] at h
  have h2 := Nat.shiftLeft_add_eq_or_of_lt (i := 8 * k) (b := leW l) h b.toNat
  rw [Nat.shiftLeft_eq] at h2
  rw [leW_snoc, hl, pow256, Nat.or_comm, ← h2, Nat.mul_comm]
  omega
theorem put_byte {l : List UInt8} {k : Nat} {b : UInt8} (hl : l.length = k) (hk : k < 8) : bits .or .u64 ((leW l : Nat) : Int) (IntKind.u64.wrap ((b.toNat : Int) * 2 ^ (8 * k))) = ((leW (l ++ [b]) : Nat) : Int) := by
  have hb : b.toNat < 256 := by have := b.toNat_lt; simpa using this
  have h1 := leW_lt l
  have h3 : 256 ^ l.length ≤ 256 ^ 8 := Nat.pow_le_pow_right (by decide) (by omega)
  have h4 : (256 : Nat) ^ 8 = 18446744073709551616 := by decide
  have h5 : b.toNat * 2 ^ (8 * k) < 18446744073709551616 := by
    rw [← pow256]
    have h6 : 256 ^ k * 256 ≤ 256 ^ 8 := by
      rw [← Nat.pow_succ]
      exact Nat.pow_le_pow_right (by decide) (by omega)
    have h7 : 0 < 256 ^ k := Nat.pow_pos (by decide)
    have h8 : b.toNat * 256 ^ k ≤ 255 * 256 ^ k := Nat.mul_le_mul_right _ (by omega)
    omega
  have e : IntKind.u64.wrap ((b.toNat : Int) * 2 ^ (8 * k)) = ((b.toNat * 2 ^ (8 * k) : Nat) : Int) := by
    rw [wrap_u64]
    have : ((b.toNat * 2 ^ (8 * k) : Nat) : Int) = (b.toNat : Int) * 2 ^ (8 * k) := by simp
    rw [← this]
    omega
  rw [e, bits_or_u64 _ _ (by omega) h5, or_step hl]
end Go.Proofs.YtdpnnclkkbfihaaDoor

/-
  heap: PutText with no roots.
-/
namespace Go.Proofs.YtdpnnclkkbfihaaDoor
open Go
set_option linter.unusedSimpArgs false
set_option linter.unusedVariables false

def textN (s : List UInt8) : Nat := 1 + (s.length + 7) / 8
theorem encT_get {s : List UInt8} {j : Nat} (hj : j < (s.length + 7) / 8) : (encT s)[j]? = some (leW ((s.drop (8 * j)).take 8)) := by
  unfold encT
  rw [List.getElem?_map, List.getElem?_range hj]
  rfl
theorem take_get {α : Type} {l : List α} {j : Nat} {x : α} (h : l[j]? = some x) : l.take (j + 1) = l.take j ++ [x] := by
  have hj : j < l.length := (List.getElem?_eq_some_iff.1 h).1
  rw [List.take_succ_eq_append_getElem hj]
  rw [List.getElem?_eq_getElem hj] at h
  injection h with h
  rw [h]
set_option maxHeartbeats 2000000 in
theorem puttext_ok {w : World} {G : Nat → Prop} {p : Nat} {A : Option Addr} {c : Nat} {mem : List Nat} {q n : Nat} {s : List UInt8} (hH : HS w G p A c mem q n) (hn : n + 1 ≤ 1000000000) (hs : s.length ≤ 1000000) :
    Ret Tryd.prog 12 #[.pointer (some ⟨p, 0, none⟩), .string ⟨s.toArray⟩, .slice none 0 0] w fun v w' => ∃ G' A' c' mem', HS w' G' p A' c' mem' q (leftN q (textN s) mem n) ∧ (∀ k, G' k → G k ∨ w.heap.size ≤ k) ∧ Upd (fun k => k = p ∨ G k) w w' ∧
      (textN s + (leftM q (textN s) mem).length ≤ q → v = .tuple #[.int .u64 ((2 * (leftM q (textN s) mem).length : Nat) : Int), .int .i64 0] ∧ mem' = leftM q (textN s) mem ++ [s.length * 256 + 3] ++ encT s) ∧
      (¬ textN s + (leftM q (textN s) mem).length ≤ q → v = .tuple #[.int .u64 0, .int .i64 11] ∧ mem' = leftM q (textN s) mem) := by
  have hle := hH.le
  have hlp := hH.hd.lt
  have hlG := hH.lt
  have hnG := hH.ne
  generalize hM : leftM q (textN s) mem = M at *
  generalize hN : leftN q (textN s) mem n = N at *
  refine enterRet (vs := [_, _, _]) (N := 80) Tryd.func12 rfl rfl rfl ?_
  have hU := Upd.refl (fun k => k = p ∨ G k) w
  refine WC.keep [(0, _), (1, _), (2, _)] ⟨rfl, rfl, rfl, trivial⟩ ?_
  refine WC.seq ?_
  refine WC.region ?_
  refine WL.val rfl rfl rfl rfl (r_assign rfl ev_c) ?_
  refine WL.val rfl rfl rfl rfl (r_assign rfl ev_c) ?_
  refine WL.nil ?_
  refine WX.keep [(0, _), (1, _), (2, _)] ⟨rfl, rfl, rfl, trivial⟩ ?_
  refine WX.next ?_
  refine WC.seq ?_
  refine WC.seq ?_
  refine WC.region ?_
  refine WL.val rfl rfl rfl rfl (r_move rfl (ev_t rfl)) ?_
  refine WL.val rfl rfl rfl rfl (r_eqlPtrNil rfl (ev_t rfl) ev_c ptr_26) ?_
  refine WL.nil ?_
  refine WX.keep [(0, _), (1, _), (2, _), (13, _)] ⟨rfl, rfl, rfl, rfl, trivial⟩ ?_
  refine WX.next ?_
  refine WC.cond rfl (ev_t rfl) (fun hc1 => ?_) (fun hc1 => ?_)
  · try (exfalso; first | (simp at hc1; done) | (simp only [decide_eq_true_eq, decide_eq_false_iff_not, Bool.not_eq_true', Bool.not_eq_false', Bool.not_eq_true, Bool.not_eq_false] at hc1; omega) | omega)
  · try (exfalso; first | (simp at hc1; done) | (simp only [decide_eq_true_eq, decide_eq_false_iff_not, Bool.not_eq_true', Bool.not_eq_false', Bool.not_eq_true, Bool.not_eq_false] at hc1; omega) | omega)
    all_goals
     try simp only [decide_eq_true_eq, decide_eq_false_iff_not, Bool.not_eq_true', Bool.not_eq_false', Bool.not_eq_true, Bool.not_eq_false, Option.isNone_none, Option.isNone_some, Option.isSome_none, Option.isSome_some, ne_eq, Decidable.not_not] at hc1
     refine WC.skip ?_
     refine WX.next ?_
     refine WC.seq ?_
     refine WC.seq ?_
     refine WC.region ?_
     refine WL.val rfl rfl rfl rfl (r_move rfl (ev_t rfl)) ?_
     refine WL.val rfl rfl rfl rfl (r_move rfl (ev_t rfl)) ?_
     refine WL.val rfl rfl rfl rfl (r_lenStrL rfl (ev_t rfl) str_9) ?_
     refine WL.cons (SO.call (need_ok (by omega)) rfl body_10 ⟨ev_c, (ev_t rfl), trivial⟩ rfl rfl rfl rfl ?_)
     rintro v w1 ⟨rfl, rfl⟩
     refine WL.val rfl rfl rfl rfl (r_move rfl (ev_t rfl)) ?_
     refine WL.cons (SO.call (room_ok hH hn (by omega)) rfl body_41 ⟨(ev_t rfl), (ev_t rfl), (ev_t rfl), trivial⟩ rfl rfl rfl rfl ?_)
     rw [show (1 + (s.length + 7) / 8) = textN s from rfl, hM, hN]
     rintro v w2 ⟨G1, A1, c1, rfl, hH2, hG1, hu2⟩
     have hs2 := hu2.size
     replace hU := hU.trans hu2 (by (intro k hl hk; (try simp only [At, New, Grow, From, No] at hk ⊢); omega))
     have hH := hH2
     have hle1 := hH.le
     refine WL.val rfl rfl rfl rfl (r_not rfl (ev_t rfl)) ?_
     refine WL.nil ?_
     refine WX.keep [(0, _), (1, _), (20, _)] ⟨rfl, rfl, rfl, trivial⟩ ?_
     refine WX.next ?_
     refine WC.cond rfl (ev_t rfl) (fun hc3 => ?_) (fun hc3 => ?_)
     · try (exfalso; first | (simp at hc3; done) | (simp only [decide_eq_true_eq, decide_eq_false_iff_not, Bool.not_eq_true', Bool.not_eq_false', Bool.not_eq_true, Bool.not_eq_false] at hc3; omega) | omega)
       all_goals
        try simp only [decide_eq_true_eq, decide_eq_false_iff_not, Bool.not_eq_true', Bool.not_eq_false', Bool.not_eq_true, Bool.not_eq_false, Option.isNone_none, Option.isNone_some, Option.isSome_none, Option.isSome_some, ne_eq, Decidable.not_not] at hc3
        refine WC.seq ?_
        refine WC.region ?_
        refine WL.val rfl rfl rfl rfl (r_assign rfl ev_c) ?_
        refine WL.val rfl rfl rfl rfl (r_assign rfl ev_c) ?_
        refine WL.nil ?_
        refine WX.keep [(6, _), (7, _)] ⟨rfl, rfl, trivial⟩ ?_
        refine WX.next ?_
        refine WC.ret ?_
        refine WX.thenRet ?_
        refine WX.retE2 rfl rfl rfl ?_
        exact ⟨G1, _, _, M, hH, fun k hk => hG1 k hk, hU, fun h => absurd h (by simpa using hc3), fun _ => ⟨rfl, rfl⟩⟩
     · try (exfalso; first | (simp at hc3; done) | (simp only [decide_eq_true_eq, decide_eq_false_iff_not, Bool.not_eq_true', Bool.not_eq_false', Bool.not_eq_true, Bool.not_eq_false] at hc3; omega) | omega)
       all_goals
        try simp only [decide_eq_true_eq, decide_eq_false_iff_not, Bool.not_eq_true', Bool.not_eq_false', Bool.not_eq_true, Bool.not_eq_false, Option.isNone_none, Option.isNone_some, Option.isSome_none, Option.isSome_some, ne_eq, Decidable.not_not] at hc3
        have hfit : textN s + M.length ≤ q := by simpa using hc3
        have hfit2 : 1 + (s.length + 7) / 8 + M.length ≤ q := hfit
        refine WC.skip ?_
        refine WX.next ?_
        refine WC.seq ?_
        refine WC.region ?_
        refine WL.val rfl rfl rfl rfl (r_move rfl (ev_t rfl)) ?_
        refine WL.val rfl rfl rfl rfl (r_nilCheck rfl (ev_t rfl)) ?_
        refine WL.val rfl rfl rfl rfl (r_field0 rfl (ev_t rfl) fld_79_0) ?_
        refine WL.val rfl rfl rfl rfl (r_load rfl (ev_t rfl) flat_30 (Blk.cell hH.hd rfl)) ?_
        refine WL.val rfl rfl rfl rfl (r_lenSlice (ts := #[]) rfl (ev_t rfl) elem_30) ?_
        refine WL.val rfl rfl rfl rfl (r_assign rfl (ev_t rfl)) ?_
        refine WL.nil ?_
        refine WX.keep [(0, _), (1, _), (8, _)] ⟨rfl, rfl, rfl, trivial⟩ ?_
        refine WX.next ?_
        -- cut r6: live [0, 1, 8]
        refine WC.cut (fun E wB => ∃ (A2 : Option Addr) (c2 : Nat) (G2 : Nat → Prop), Upd (fun k => k = p ∨ G k) w wB ∧ HS wB G2 p A2 c2 (M ++ [s.length * 256 + 3]) q N ∧ (∀ k, G2 k → G k ∨ w.heap.size ≤ k) ∧ E = [(0, .pointer (some ⟨p, 0, none⟩)), (1, .string ⟨s.toArray⟩), (8, .int .i64 (M.length : Int))]) ?_ ?_
        · obtain ⟨hhd, how, hne, hlt, hle2, hcn⟩ := hH
          refine WC.draws' (fun u0_ u1_ => Upd (fun k => k = p ∨ G1 k) u0_ u1_) (fun j => [0, 0, 0, 0, 2, 0, 0, 2, 2, 2, 0, 0, 2].getD j 0) (.calm 0 (.calm 1 (.calm 2 (.calm 3 (.calm 5 (.calm 6 (.two 4 7 (.one 7 (.one 8 (.one 9 (.calm 10 (.calm 11 (.one 12 (.done))))))) (.two 4 8 (.one 8 (.one 9 (.calm 10 (.calm 11 (.one 12 (.done)))))) (.one 4 (.one 9 (.calm 10 (.calm 11 (.one 12 (.done)))))))))))))) mixed (by kernel_rfl) (by repeat (first | with_reducible exact Deaf.body | with_reducible apply Deaf.then)) ?_
          intro w3 hu3
          have hz3 := congrArg Array.size hu3.2.2.2
          replace hu3 := Upd.of_draw hu3
          have hs3 := hu3.size
          replace hU := hU.trans hu3 (by exact (fun _ _ h => h.elim))
          replace hhd := hhd.upd hu3 (fun hS => by exact (show False from hS))
          replace how := how.upd hu3 (fun k hk hl hS => by exact (show False from hS).elim)
          refine WN.calm _ rfl rfl rfl rfl rfl (fun _ => r_move rfl (ev_t rfl)) ?_
          refine WN.calm _ rfl rfl rfl rfl rfl (fun _ => r_move rfl (ev_t rfl)) ?_
          refine WN.calm _ rfl rfl rfl rfl rfl (fun _ => r_nilCheck rfl (ev_t rfl)) ?_
          refine WN.calm _ rfl rfl rfl rfl rfl (fun _ => r_field0 rfl (ev_t rfl) fld_79_0) ?_
          refine WN.calm _ rfl rfl rfl rfl rfl (fun _ => r_move rfl (ev_t rfl)) ?_
          refine WN.calm _ rfl rfl rfl rfl rfl (fun _ => r_lenStrL rfl (ev_t rfl) str_9) ?_
          refine WN.fork _ _ rfl rfl ?_ ?_
          · refine SO.val rfl rfl rfl rfl (r_load rfl (ev_t rfl) flat_30 (Blk.cell hhd rfl)) ?_
            refine ⟨trivial, ?_⟩
            refine WN.step _ rfl (SO.call (head_ok (by omega)) rfl body_42 ⟨ev_c, (ev_t rfl), trivial⟩ rfl rfl rfl rfl ?_)
            rintro v w4 ⟨rfl, rfl⟩
            refine ⟨trivial, ?_⟩
            refine WN.step _ rfl (SO.alloc rfl rfl rfl rfl (r_buildSlice1 (vs := [_]) rfl ⟨(ev_t rfl), trivial⟩ rfl row_30 rfl rfl) ?_)
            intro w5 hu5 hB5 hz5
            have hs5 := hu5.size
            replace hU := hU.trans hu5 (by exact (fun _ _ h => h.elim))
            replace hhd := hhd.upd hu5 (fun hS => by exact (show False from hS))
            replace how := how.upd hu5 (fun k hk hl hS => by exact (show False from hS).elim)
            refine ⟨trivial, ?_⟩
            refine WN.step _ rfl (SO.append how (show Rd _ _ _ 1 1 [Wd (s.length * 256 + 3)] from Rd.of_blk (F := At _) (n := 1) (sz := 1) hB5 rfl rfl (by omega)) row_30 (fun u hu => by simp at hu; subst hu; rfl) (le_maxLen (by omega)) (by omega) rfl (ev_t rfl) (ev_t rfl) rfl rfl rfl rfl ?_)
            intro v6 w6 how hu6
            have hs6 := hu6.size
            replace hU := hU.trans hu6 (by (intro k hl hk; first | exact (show False from hk).elim | (simp only [At] at hk; exact .inl hk) | (have h9 := hG1 k hk; rcases h9 with h | h; exact .inr h; (exfalso; omega)) | (have h9 := hG2 k hk; rcases h9 with h | h; exact .inr h; (exfalso; omega))))
            replace hhd := hhd.upd hu6 (fun hS => by exact hne hS)
            refine ⟨trivial, ?_⟩
            obtain ⟨A6, c6, rfl, hc6⟩ := Own.form how
            refine WN.calm _ rfl rfl rfl rfl rfl (fun _ => r_nilCheck rfl (ev_t rfl)) ?_
            refine WN.calm _ rfl rfl rfl rfl rfl (fun _ => r_field0 rfl (ev_t rfl) fld_79_0) ?_
            refine WN.step _ rfl (SO.store rfl (ev_t rfl) (ev_t rfl) size_30 hhd rfl rfl rfl rfl rfl ?_)
            intro w7 hu7 hhd hz7
            have hs7 := hu7.size
            replace hU := hU.trans hu7 (by (intro k hl hk; (try simp only [At, New, Grow, From, No] at hk ⊢); omega))
            replace how := how.upd hu7 (fun k hk hl hS => by (simp only [At] at hS; subst hS; first | exact hne hk | (rcases hk with hk | hk; exact hne hk; omega) | (have := hlt _ hk; omega)))
            refine ⟨trivial, ?_⟩
            refine WN.done ?_
            refine WX.keep [(0, _), (1, _), (8, _)] ⟨rfl, rfl, rfl, trivial⟩ ?_
            refine WX.meet [(0, _), (1, _), (8, _)] ⟨rfl, rfl, rfl, trivial⟩ ?_
            have eL : M.length + 1 = (M ++ [s.length * 256 + 3]).length := by simp
            have eM : M.map Wd ++ [Wd (s.length * 256 + 3)] = (M ++ [s.length * 256 + 3]).map Wd := by simp
            rw [eM] at how
            rw [eL] at how hhd
            refine ⟨_, _, _, hU, ⟨hhd, how, fun h => ?_, fun k hk => ?_, ⟨by rw [← eL]; omega, hle2.2⟩, hcn⟩, fun k hk => ?_, rfl⟩
            · rcases h with h | h
              · exact hne h
              · omega
            · rcases hk with hk | hk
              · have := hlt k hk; omega
              · omega
            · rcases hk with hk | hk
              · exact hG1 k hk
              · exact .inr (by omega)
          · refine SO.call (head_ok (by omega)) rfl body_42 ⟨ev_c, (ev_t rfl), trivial⟩ rfl rfl rfl rfl ?_
            rintro v w8 ⟨rfl, rfl⟩
            refine ⟨trivial, ?_⟩
            refine WN.fork _ _ rfl rfl ?_ ?_
            · refine SO.val rfl rfl rfl rfl (r_load rfl (ev_t rfl) flat_30 (Blk.cell hhd rfl)) ?_
              refine ⟨trivial, ?_⟩
              refine WN.step _ rfl (SO.alloc rfl rfl rfl rfl (r_buildSlice1 (vs := [_]) rfl ⟨(ev_t rfl), trivial⟩ rfl row_30 rfl rfl) ?_)
              intro w9 hu9 hB9 hz9
              have hs9 := hu9.size
              replace hU := hU.trans hu9 (by exact (fun _ _ h => h.elim))
              replace hhd := hhd.upd hu9 (fun hS => by exact (show False from hS))
              replace how := how.upd hu9 (fun k hk hl hS => by exact (show False from hS).elim)
              refine ⟨trivial, ?_⟩
              refine WN.step _ rfl (SO.append how (show Rd _ _ _ 1 1 [Wd (s.length * 256 + 3)] from Rd.of_blk (F := At _) (n := 1) (sz := 1) hB9 rfl rfl (by omega)) row_30 (fun u hu => by simp at hu; subst hu; rfl) (le_maxLen (by omega)) (by omega) rfl (ev_t rfl) (ev_t rfl) rfl rfl rfl rfl ?_)
              intro v10 w10 how hu10
              have hs10 := hu10.size
              replace hU := hU.trans hu10 (by (intro k hl hk; first | exact (show False from hk).elim | (simp only [At] at hk; exact .inl hk) | (have h9 := hG1 k hk; rcases h9 with h | h; exact .inr h; (exfalso; omega)) | (have h9 := hG2 k hk; rcases h9 with h | h; exact .inr h; (exfalso; omega))))
              replace hhd := hhd.upd hu10 (fun hS => by exact hne hS)
              refine ⟨trivial, ?_⟩
              obtain ⟨A10, c10, rfl, hc10⟩ := Own.form how
              refine WN.calm _ rfl rfl rfl rfl rfl (fun _ => r_nilCheck rfl (ev_t rfl)) ?_
              refine WN.calm _ rfl rfl rfl rfl rfl (fun _ => r_field0 rfl (ev_t rfl) fld_79_0) ?_
              refine WN.step _ rfl (SO.store rfl (ev_t rfl) (ev_t rfl) size_30 hhd rfl rfl rfl rfl rfl ?_)
              intro w11 hu11 hhd hz11
              have hs11 := hu11.size
              replace hU := hU.trans hu11 (by (intro k hl hk; (try simp only [At, New, Grow, From, No] at hk ⊢); omega))
              replace how := how.upd hu11 (fun k hk hl hS => by (simp only [At] at hS; subst hS; first | exact hne hk | (rcases hk with hk | hk; exact hne hk; omega) | (have := hlt _ hk; omega)))
              refine ⟨trivial, ?_⟩
              refine WN.done ?_
              refine WX.keep [(0, _), (1, _), (8, _)] ⟨rfl, rfl, rfl, trivial⟩ ?_
              refine WX.meet [(0, _), (1, _), (8, _)] ⟨rfl, rfl, rfl, trivial⟩ ?_
              have eL : M.length + 1 = (M ++ [s.length * 256 + 3]).length := by simp
              have eM : M.map Wd ++ [Wd (s.length * 256 + 3)] = (M ++ [s.length * 256 + 3]).map Wd := by simp
              rw [eM] at how
              rw [eL] at how hhd
              refine ⟨_, _, _, hU, ⟨hhd, how, fun h => ?_, fun k hk => ?_, ⟨by rw [← eL]; omega, hle2.2⟩, hcn⟩, fun k hk => ?_, rfl⟩
              · rcases h with h | h
                · exact hne h
                · omega
              · rcases hk with hk | hk
                · have := hlt k hk; omega
                · omega
              · rcases hk with hk | hk
                · exact hG1 k hk
                · exact .inr (by omega)
            · refine SO.alloc rfl rfl rfl rfl (r_buildSlice1 (vs := [_]) rfl ⟨(ev_t rfl), trivial⟩ rfl row_30 rfl rfl) ?_
              intro w12 hu12 hB12 hz12
              have hs12 := hu12.size
              replace hU := hU.trans hu12 (by exact (fun _ _ h => h.elim))
              replace hhd := hhd.upd hu12 (fun hS => by exact (show False from hS))
              replace how := how.upd hu12 (fun k hk hl hS => by exact (show False from hS).elim)
              refine ⟨trivial, ?_⟩
              refine WN.step _ rfl (SO.val rfl rfl rfl rfl (r_load rfl (ev_t rfl) flat_30 (Blk.cell hhd rfl)) ?_)
              refine ⟨trivial, ?_⟩
              refine WN.step _ rfl (SO.append how (show Rd _ _ _ 1 1 [Wd (s.length * 256 + 3)] from Rd.of_blk (F := At _) (n := 1) (sz := 1) hB12 rfl rfl (by omega)) row_30 (fun u hu => by simp at hu; subst hu; rfl) (le_maxLen (by omega)) (by omega) rfl (ev_t rfl) (ev_t rfl) rfl rfl rfl rfl ?_)
              intro v13 w13 how hu13
              have hs13 := hu13.size
              replace hU := hU.trans hu13 (by (intro k hl hk; first | exact (show False from hk).elim | (simp only [At] at hk; exact .inl hk) | (have h9 := hG1 k hk; rcases h9 with h | h; exact .inr h; (exfalso; omega)) | (have h9 := hG2 k hk; rcases h9 with h | h; exact .inr h; (exfalso; omega))))
              replace hhd := hhd.upd hu13 (fun hS => by exact hne hS)
              refine ⟨trivial, ?_⟩
              obtain ⟨A13, c13, rfl, hc13⟩ := Own.form how
              refine WN.calm _ rfl rfl rfl rfl rfl (fun _ => r_nilCheck rfl (ev_t rfl)) ?_
              refine WN.calm _ rfl rfl rfl rfl rfl (fun _ => r_field0 rfl (ev_t rfl) fld_79_0) ?_
              refine WN.step _ rfl (SO.store rfl (ev_t rfl) (ev_t rfl) size_30 hhd rfl rfl rfl rfl rfl ?_)
              intro w14 hu14 hhd hz14
              have hs14 := hu14.size
              replace hU := hU.trans hu14 (by (intro k hl hk; (try simp only [At, New, Grow, From, No] at hk ⊢); omega))
              replace how := how.upd hu14 (fun k hk hl hS => by (simp only [At] at hS; subst hS; first | exact hne hk | (rcases hk with hk | hk; exact hne hk; omega) | (have := hlt _ hk; omega)))
              refine ⟨trivial, ?_⟩
              refine WN.done ?_
              refine WX.keep [(0, _), (1, _), (8, _)] ⟨rfl, rfl, rfl, trivial⟩ ?_
              refine WX.meet [(0, _), (1, _), (8, _)] ⟨rfl, rfl, rfl, trivial⟩ ?_
              have eL : M.length + 1 = (M ++ [s.length * 256 + 3]).length := by simp
              have eM : M.map Wd ++ [Wd (s.length * 256 + 3)] = (M ++ [s.length * 256 + 3]).map Wd := by simp
              rw [eM] at how
              rw [eL] at how hhd
              refine ⟨_, _, _, hU, ⟨hhd, how, fun h => ?_, fun k hk => ?_, ⟨by rw [← eL]; omega, hle2.2⟩, hcn⟩, fun k hk => ?_, rfl⟩
              · rcases h with h | h
                · exact hne h
                · omega
              · rcases hk with hk | hk
                · have := hlt k hk; omega
                · omega
              · rcases hk with hk | hk
                · exact hG1 k hk
                · exact .inr (by omega)
        · clear hU
          rintro E wB ⟨A2, c2, G2, hU, hH, hG2, rfl⟩
          refine WC.seq ?_
          refine WC.seq ?_
          refine WC.region ?_
          refine WL.val rfl rfl rfl rfl (r_assign rfl ev_c) ?_
          refine WL.nil ?_
          refine WX.keep [(0, _), (1, _), (8, _), (9, _)] ⟨rfl, rfl, rfl, rfl, trivial⟩ ?_
          refine WX.next ?_
          refine WC.block ?_
          -- loop 1: live [0, 1, 8, 9]
          refine WC.keep [(0, _), (1, _), (8, _), (9, _)] ⟨rfl, rfl, rfl, rfl, trivial⟩ ?_
          refine WC.loop (fun qq E wC => ∃ (j : Nat) (A2 : Option Addr) (c2 : Nat) (G2 : Nat → Prop), j ≤ (s.length + 7) / 8 ∧ qq = (s.length + 7) / 8 - j ∧ Upd (fun k => k = p ∨ G k) w wC ∧ HS wC G2 p A2 c2 (M ++ [s.length * 256 + 3] ++ (encT s).take j) q N ∧ (∀ k, G2 k → G k ∨ w.heap.size ≤ k) ∧ E = [(0, .pointer (some ⟨p, 0, none⟩)), (1, .string ⟨s.toArray⟩), (8, .int .i64 (M.length : Int)), (9, .int .i64 ((8 * j : Nat) : Int))]) ((s.length + 7) / 8) ?_ ?_
          · exact ⟨0, A2, c2, G2, by omega, by omega, hU, by simpa using hH, hG2, rfl⟩
          · clear hU hH hG2
            rintro qq E wC ⟨j, A2, c2, G2, hj, rfl, hU, hH, hG2, rfl⟩
            have hUs := hU.size
            refine WC.seq ?_
            refine WC.seq ?_
            refine WC.region ?_
            refine WL.val rfl rfl rfl rfl (r_move rfl (ev_t rfl)) ?_
            refine WL.val rfl rfl rfl rfl (r_move rfl (ev_t rfl)) ?_
            refine WL.val rfl rfl rfl rfl (r_lenStrL rfl (ev_t rfl) str_9) ?_
            refine WL.val rfl rfl rfl rfl (r_lss rfl (ev_t rfl) (ev_t rfl)) ?_
            refine WL.nil ?_
            refine WX.keep [(0, _), (1, _), (8, _), (9, _), (41, _)] ⟨rfl, rfl, rfl, rfl, rfl, trivial⟩ ?_
            refine WX.next ?_
            refine WC.cond rfl (ev_t rfl) (fun hc8 => ?_) (fun hc8 => ?_)
            · try (exfalso; first | (simp at hc8; done) | (simp only [decide_eq_true_eq, decide_eq_false_iff_not, Bool.not_eq_true', Bool.not_eq_false', Bool.not_eq_true, Bool.not_eq_false] at hc8; omega) | omega)
              all_goals
               try simp only [decide_eq_true_eq, decide_eq_false_iff_not, Bool.not_eq_true', Bool.not_eq_false', Bool.not_eq_true, Bool.not_eq_false, Option.isNone_none, Option.isNone_some, Option.isSome_none, Option.isSome_some, ne_eq, Decidable.not_not] at hc8
               refine WC.skip ?_
               refine WX.next ?_
               refine WC.seq ?_
               refine WC.block ?_
               refine WC.seq ?_
               refine WC.region ?_
               refine WL.val rfl rfl rfl rfl (r_assign rfl ev_c) ?_
               refine WL.nil ?_
               refine WX.keep [(0, _), (1, _), (8, _), (9, _), (10, _)] ⟨rfl, rfl, rfl, rfl, rfl, trivial⟩ ?_
               refine WX.next ?_
               refine WC.seq ?_
               refine WC.seq ?_
               refine WC.region ?_
               refine WL.val rfl rfl rfl rfl (r_assign rfl ev_c) ?_
               refine WL.nil ?_
               refine WX.keep [(0, _), (1, _), (8, _), (9, _), (10, _), (11, _)] ⟨rfl, rfl, rfl, rfl, rfl, rfl, trivial⟩ ?_
               refine WX.next ?_
               refine WC.block ?_
               -- loop 2: live [0, 1, 8, 9, 10, 11]
               refine WC.keep [(0, _), (1, _), (8, _), (9, _), (10, _), (11, _)] ⟨rfl, rfl, rfl, rfl, rfl, rfl, trivial⟩ ?_
               refine WC.loop (fun qq E wD => ∃ (k : Nat), k ≤ 8 ∧ 8 * j + k ≤ s.length ∧ qq = 8 - k ∧ wC = wD ∧ E = [(0, .pointer (some ⟨p, 0, none⟩)), (1, .string ⟨s.toArray⟩), (8, .int .i64 (M.length : Int)), (9, .int .i64 ((8 * j : Nat) : Int)), (10, .int .u64 ((leW ((s.drop (8 * j)).take k) : Nat) : Int)), (11, .int .i64 (k : Int))]) (8) ?_ ?_
               · exact ⟨0, by omega, by omega, by omega, rfl, rfl⟩
               · rintro qq E wD ⟨k, hk8, hks, rfl, rfl, rfl⟩
                 refine WC.seq ?_
                 refine WC.seq ?_
                 refine WC.region ?_
                 refine WL.val rfl rfl rfl rfl (r_move rfl (ev_t rfl)) ?_
                 refine WL.val rfl rfl rfl rfl (r_lss rfl (ev_t rfl) ev_c) ?_
                 refine WL.val rfl rfl rfl rfl (r_move rfl (ev_t rfl)) ?_
                 refine WL.cases 46 rfl (fun hb12_2 => ?_) (fun hb12_2 => ?_)
                 · try (exfalso; first | (simp at hb12_2; done) | (simp only [decide_eq_true_eq, decide_eq_false_iff_not, Bool.not_eq_true', Bool.not_eq_false', Bool.not_eq_true, Bool.not_eq_false] at hb12_2; omega) | omega)
                   all_goals
                    try simp only [decide_eq_true_eq, decide_eq_false_iff_not, Bool.not_eq_true', Bool.not_eq_false', Bool.not_eq_true, Bool.not_eq_false, Option.isNone_none, Option.isNone_some, Option.isSome_none, Option.isSome_some, ne_eq, Decidable.not_not] at hb12_2
                    refine WL.val rfl rfl rfl rfl (r_move rfl (ev_t rfl)) ?_
                    refine WL.val rfl rfl rfl rfl (r_move rfl (ev_t rfl)) ?_
                    refine WL.val rfl rfl rfl rfl (r_addN rfl (ev_t rfl) (ev_t rfl) (by simp only [inK]; omega)) ?_
                    refine WL.val rfl rfl rfl rfl (r_move rfl (ev_t rfl)) ?_
                    refine WL.val rfl rfl rfl rfl (r_lenStrL rfl (ev_t rfl) str_9) ?_
                    refine WL.val rfl rfl rfl rfl (r_lss rfl (ev_t rfl) (ev_t rfl)) ?_
                    refine WL.val rfl rfl rfl rfl (r_pickT rfl (ev_t rfl) (ev_t rfl)) ?_
                    refine WL.nil ?_
                    refine WX.keep [(0, _), (1, _), (8, _), (9, _), (10, _), (11, _), (53, _)] ⟨rfl, rfl, rfl, rfl, rfl, rfl, rfl, trivial⟩ ?_
                    refine WX.next ?_
                    refine WC.cond rfl (ev_t rfl) (fun hc12 => ?_) (fun hc12 => ?_)
                    · try (exfalso; first | (simp at hc12; done) | (simp only [decide_eq_true_eq, decide_eq_false_iff_not, Bool.not_eq_true', Bool.not_eq_false', Bool.not_eq_true, Bool.not_eq_false] at hc12; omega) | omega)
                      all_goals
                       try simp only [decide_eq_true_eq, decide_eq_false_iff_not, Bool.not_eq_true', Bool.not_eq_false', Bool.not_eq_true, Bool.not_eq_false, Option.isNone_none, Option.isNone_some, Option.isSome_none, Option.isSome_some, ne_eq, Decidable.not_not] at hc12
                       have hk9 : k < 8 ∧ 8 * j + k < s.length := by simp_all; omega
                       have hbi : s[8 * j + k]? = some s[8 * j + k] := List.getElem?_eq_getElem hk9.2
                       generalize s[8 * j + k] = b at *
                       have htk : (s.drop (8 * j)).take (k + 1) = (s.drop (8 * j)).take k ++ [b] := take_get (by rw [List.getElem?_drop]; exact hbi)
                       have hpb := put_byte (l := (s.drop (8 * j)).take k) (k := k) (b := b) (by simp; omega) hk9.1
                       rw [← htk] at hpb
                       refine WC.skip ?_
                       refine WX.next ?_
                       refine WC.seq ?_
                       refine WC.block ?_
                       refine WC.region ?_
                       refine WL.val rfl rfl rfl rfl (r_move rfl (ev_t rfl)) ?_
                       refine WL.val rfl rfl rfl rfl (r_move rfl (ev_t rfl)) ?_
                       refine WL.val rfl rfl rfl rfl (r_move rfl (ev_t rfl)) ?_
                       refine WL.val rfl rfl rfl rfl (r_move rfl (ev_t rfl)) ?_
                       refine WL.val rfl rfl rfl rfl (r_addN rfl (ev_t rfl) (ev_t rfl) (by simp only [inK]; omega)) ?_
                       refine WL.val rfl rfl rfl rfl (r_indexStr (j := 8 * j + k) (c := b) rfl (ev_t rfl) (ev_t rfl) Tryd.underlying9 (by omega) (by simpa using hbi)) ?_
                       refine WL.val rfl rfl rfl rfl (r_conv rfl (ev_t rfl) some_5 int_32) ?_
                       refine WL.val rfl rfl rfl rfl (r_move rfl (ev_t rfl)) ?_
                       refine WL.val rfl rfl rfl rfl (r_mulN rfl ev_c (ev_t rfl) (by simp only [inK]; omega)) ?_
                       refine WL.val rfl rfl rfl rfl (r_shl rfl (ev_t rfl) (ev_t rfl) (by omega) (by simp only [IntKind.bits]; omega)) ?_
                       refine WL.val rfl rfl rfl rfl (r_or rfl (ev_t rfl) (ev_t rfl)) ?_
                       refine WL.val rfl rfl rfl rfl (r_assign rfl (ev_t rfl)) ?_
                       refine WL.nil ?_
                       refine WX.keep [(0, _), (1, _), (8, _), (9, _), (10, _), (11, _)] ⟨rfl, rfl, rfl, rfl, rfl, rfl, trivial⟩ ?_
                       refine WX.blockNormal ?_
                       refine WX.next ?_
                       refine WC.region ?_
                       refine WL.val rfl rfl rfl rfl (r_move rfl (ev_t rfl)) ?_
                       refine WL.val rfl rfl rfl rfl (r_addN rfl (ev_t rfl) ev_c (by simp only [inK]; omega)) ?_
                       refine WL.val rfl rfl rfl rfl (r_assign rfl (ev_t rfl)) ?_
                       refine WL.nil ?_
                       refine WX.keep [(0, _), (1, _), (8, _), (9, _), (10, _), (11, _)] ⟨rfl, rfl, rfl, rfl, rfl, rfl, trivial⟩ ?_
                       refine WX.meet [(0, _), (1, _), (8, _), (9, _), (10, _), (11, _)] ⟨rfl, rfl, rfl, rfl, rfl, rfl, trivial⟩ ?_
                       refine ⟨8 - (k + 1), by omega, k + 1, by omega, by omega, rfl, rfl, ?_⟩
                       rw [← hpb]
                       have hb8 : IntKind.u64.wrap (b.toNat : Int) = (b.toNat : Int) := by rw [wrap_u64]; have := b.toNat_lt; omega
                       have hk8' : (8 * (k : Int)).toNat = 8 * k := by omega
                       rw [hb8, hk8']
                       simp
                    · try (exfalso; first | (simp at hc12; done) | (simp only [decide_eq_true_eq, decide_eq_false_iff_not, Bool.not_eq_true', Bool.not_eq_false', Bool.not_eq_true, Bool.not_eq_false] at hc12; omega) | omega)
                      all_goals
                       try simp only [decide_eq_true_eq, decide_eq_false_iff_not, Bool.not_eq_true', Bool.not_eq_false', Bool.not_eq_true, Bool.not_eq_false, Option.isNone_none, Option.isNone_some, Option.isSome_none, Option.isSome_some, ne_eq, Decidable.not_not] at hc12
                       refine WC.exit ?_
                       refine WX.thenExit ?_
                       refine WX.thenExit ?_
                       refine WX.blockHere ?_
                       refine WX.next ?_
                       have hfull : (s.drop (8 * j)).take k = (s.drop (8 * j)).take 8 := by
                         rcases Nat.lt_or_ge k 8 with h | h
                         · have : 8 * j + k = s.length := by simp_all; omega
                           rw [List.take_of_length_le (by simp; omega), List.take_of_length_le (by simp; omega)]
                         · rw [show k = 8 by omega]
                       rw [hfull]
                       obtain ⟨hhd, how, hne, hlt, hle2, hcn⟩ := hH
                       have hlp2 := hhd.lt
                       refine WC.region ?_
                       refine WL.val rfl rfl rfl rfl (r_move rfl (ev_t rfl)) ?_
                       refine WL.val rfl rfl rfl rfl (r_move rfl (ev_t rfl)) ?_
                       refine WL.val rfl rfl rfl rfl (r_nilCheck rfl (ev_t rfl)) ?_
                       refine WL.val rfl rfl rfl rfl (r_field0 rfl (ev_t rfl) fld_79_0) ?_
                       refine WL.val rfl rfl rfl rfl (r_load rfl (ev_t rfl) flat_30 (Blk.cell hhd rfl)) ?_
                       refine WL.val rfl rfl rfl rfl (r_move rfl (ev_t rfl)) ?_
                       refine WL.cons (SO.alloc rfl rfl rfl rfl (r_buildSlice1 (vs := [_]) rfl ⟨(ev_t rfl), trivial⟩ rfl row_30 rfl rfl) ?_)
                       intro w15 hu15 hB15 hz15
                       have hs15 := hu15.size
                       replace hU := hU.trans hu15 (by exact (fun _ _ h => h.elim))
                       replace hhd := hhd.upd hu15 (fun hS => by exact (show False from hS))
                       replace how := how.upd hu15 (fun k hk hl hS => by exact (show False from hS).elim)
                       refine WL.cons (SO.append how (show Rd _ _ _ 1 1 [Wd (leW ((s.drop (8 * j)).take 8))] from Rd.of_blk (F := At _) (n := 1) (sz := 1) hB15 rfl rfl (by omega)) row_30 (fun u hu => by simp at hu; subst hu; rfl) (le_maxLen (by omega)) (by omega) rfl (ev_t rfl) (ev_t rfl) rfl rfl rfl rfl ?_)
                       intro v16 w16 how hu16
                       have hs16 := hu16.size
                       replace hU := hU.trans hu16 (by (intro k hl hk; first | exact (show False from hk).elim | (simp only [At] at hk; exact .inl hk) | (have h9 := hG1 k hk; rcases h9 with h | h; exact .inr h; (exfalso; omega)) | (have h9 := hG2 k hk; rcases h9 with h | h; exact .inr h; (exfalso; omega))))
                       replace hhd := hhd.upd hu16 (fun hS => by exact hne hS)
                       obtain ⟨A16, c16, rfl, hc16⟩ := Own.form how
                       refine WL.val rfl rfl rfl rfl (r_nilCheck rfl (ev_t rfl)) ?_
                       refine WL.val rfl rfl rfl rfl (r_field0 rfl (ev_t rfl) fld_79_0) ?_
                       refine WL.cons (SO.store rfl (ev_t rfl) (ev_t rfl) size_30 hhd rfl rfl rfl rfl rfl ?_)
                       intro w17 hu17 hhd hz17
                       have hs17 := hu17.size
                       replace hU := hU.trans hu17 (by (intro k hl hk; (try simp only [At, New, Grow, From, No] at hk ⊢); omega))
                       replace how := how.upd hu17 (fun k hk hl hS => by (simp only [At] at hS; subst hS; first | exact hne hk | (rcases hk with hk | hk; exact hne hk; omega) | (have := hlt _ hk; omega)))
                       refine WL.nil ?_
                       refine WX.keep [(0, _), (1, _), (8, _), (9, _)] ⟨rfl, rfl, rfl, rfl, trivial⟩ ?_
                       refine WX.blockNormal ?_
                       refine WX.next ?_
                       refine WC.region ?_
                       refine WL.val rfl rfl rfl rfl (r_move rfl (ev_t rfl)) ?_
                       refine WL.val rfl rfl rfl rfl (r_addN rfl (ev_t rfl) ev_c (by simp only [inK]; omega)) ?_
                       refine WL.val rfl rfl rfl rfl (r_assign rfl (ev_t rfl)) ?_
                       refine WL.nil ?_
                       refine WX.keep [(0, _), (1, _), (8, _), (9, _)] ⟨rfl, rfl, rfl, rfl, trivial⟩ ?_
                       refine WX.meet [(0, _), (1, _), (8, _), (9, _)] ⟨rfl, rfl, rfl, rfl, trivial⟩ ?_
                       have hjl : j < (s.length + 7) / 8 := by omega
                       have e5 : (M ++ [s.length * 256 + 3] ++ (encT s).take j) ++ [leW ((s.drop (8 * j)).take 8)] = M ++ [s.length * 256 + 3] ++ (encT s).take (j + 1) := by rw [take_get (encT_get hjl)]; simp
                       have eL : (M ++ [s.length * 256 + 3] ++ (encT s).take j).length + 1 = (M ++ [s.length * 256 + 3] ++ (encT s).take (j + 1)).length := by rw [← e5]; simp; omega
                       have eM : (M ++ [s.length * 256 + 3] ++ (encT s).take j).map Wd ++ [Wd (leW ((s.drop (8 * j)).take 8))] = (M ++ [s.length * 256 + 3] ++ (encT s).take (j + 1)).map Wd := by rw [← e5]; simp
                       rw [eM] at how
                       rw [eL] at how hhd
                       have eN : (M ++ [s.length * 256 + 3] ++ (encT s).take (j + 1)).length = M.length + 1 + (j + 1) := by simp [encT_len]; omega
                       refine ⟨(s.length + 7) / 8 - (j + 1), by omega, j + 1, _, _, _, by omega, rfl, hU, ⟨hhd, how, fun h => ?_, fun k hk => ?_, ⟨by rw [eN]; omega, hle2.2⟩, hcn⟩, fun k hk => ?_, by simp; omega⟩
                       · rcases h with h | h
                         · exact hne h
                         · omega
                       · rcases hk with hk | hk
                         · have := hlt k hk; omega
                         · omega
                       · rcases hk with hk | hk
                         · exact hG2 k hk
                         · exact .inr (by omega)
                 · try (exfalso; first | (simp at hb12_2; done) | (simp only [decide_eq_true_eq, decide_eq_false_iff_not, Bool.not_eq_true', Bool.not_eq_false', Bool.not_eq_true, Bool.not_eq_false] at hb12_2; omega) | omega)
                   all_goals
                    try simp only [decide_eq_true_eq, decide_eq_false_iff_not, Bool.not_eq_true', Bool.not_eq_false', Bool.not_eq_true, Bool.not_eq_false, Option.isNone_none, Option.isNone_some, Option.isSome_none, Option.isSome_some, ne_eq, Decidable.not_not] at hb12_2
                    refine WL.skip rfl rfl rfl ?_
                    refine WL.skip rfl rfl rfl ?_
                    refine WL.skip rfl rfl rfl ?_
                    refine WL.skip rfl rfl rfl ?_
                    refine WL.skip rfl rfl rfl ?_
                    refine WL.skip rfl rfl rfl ?_
                    refine WL.val rfl rfl rfl rfl (r_pickF rfl (ev_t rfl) ev_c) ?_
                    refine WL.nil ?_
                    refine WX.keep [(0, _), (1, _), (8, _), (9, _), (10, _), (11, _), (53, _)] ⟨rfl, rfl, rfl, rfl, rfl, rfl, rfl, trivial⟩ ?_
                    refine WX.next ?_
                    refine WC.cond_false rfl (ev_t rfl) ?_
                    refine WC.exit ?_
                    refine WX.thenExit ?_
                    refine WX.thenExit ?_
                    refine WX.blockHere ?_
                    refine WX.next ?_
                    have hfull : (s.drop (8 * j)).take k = (s.drop (8 * j)).take 8 := by
                      rcases Nat.lt_or_ge k 8 with h | h
                      · have : 8 * j + k = s.length := by simp_all; omega
                        rw [List.take_of_length_le (by simp; omega), List.take_of_length_le (by simp; omega)]
                      · rw [show k = 8 by omega]
                    rw [hfull]
                    obtain ⟨hhd, how, hne, hlt, hle2, hcn⟩ := hH
                    have hlp2 := hhd.lt
                    refine WC.region ?_
                    refine WL.val rfl rfl rfl rfl (r_move rfl (ev_t rfl)) ?_
                    refine WL.val rfl rfl rfl rfl (r_move rfl (ev_t rfl)) ?_
                    refine WL.val rfl rfl rfl rfl (r_nilCheck rfl (ev_t rfl)) ?_
                    refine WL.val rfl rfl rfl rfl (r_field0 rfl (ev_t rfl) fld_79_0) ?_
                    refine WL.val rfl rfl rfl rfl (r_load rfl (ev_t rfl) flat_30 (Blk.cell hhd rfl)) ?_
                    refine WL.val rfl rfl rfl rfl (r_move rfl (ev_t rfl)) ?_
                    refine WL.cons (SO.alloc rfl rfl rfl rfl (r_buildSlice1 (vs := [_]) rfl ⟨(ev_t rfl), trivial⟩ rfl row_30 rfl rfl) ?_)
                    intro w18 hu18 hB18 hz18
                    have hs18 := hu18.size
                    replace hU := hU.trans hu18 (by exact (fun _ _ h => h.elim))
                    replace hhd := hhd.upd hu18 (fun hS => by exact (show False from hS))
                    replace how := how.upd hu18 (fun k hk hl hS => by exact (show False from hS).elim)
                    refine WL.cons (SO.append how (show Rd _ _ _ 1 1 [Wd (leW ((s.drop (8 * j)).take 8))] from Rd.of_blk (F := At _) (n := 1) (sz := 1) hB18 rfl rfl (by omega)) row_30 (fun u hu => by simp at hu; subst hu; rfl) (le_maxLen (by omega)) (by omega) rfl (ev_t rfl) (ev_t rfl) rfl rfl rfl rfl ?_)
                    intro v19 w19 how hu19
                    have hs19 := hu19.size
                    replace hU := hU.trans hu19 (by (intro k hl hk; first | exact (show False from hk).elim | (simp only [At] at hk; exact .inl hk) | (have h9 := hG1 k hk; rcases h9 with h | h; exact .inr h; (exfalso; omega)) | (have h9 := hG2 k hk; rcases h9 with h | h; exact .inr h; (exfalso; omega))))
                    replace hhd := hhd.upd hu19 (fun hS => by exact hne hS)
                    obtain ⟨A19, c19, rfl, hc19⟩ := Own.form how
                    refine WL.val rfl rfl rfl rfl (r_nilCheck rfl (ev_t rfl)) ?_
                    refine WL.val rfl rfl rfl rfl (r_field0 rfl (ev_t rfl) fld_79_0) ?_
                    refine WL.cons (SO.store rfl (ev_t rfl) (ev_t rfl) size_30 hhd rfl rfl rfl rfl rfl ?_)
                    intro w20 hu20 hhd hz20
                    have hs20 := hu20.size
                    replace hU := hU.trans hu20 (by (intro k hl hk; (try simp only [At, New, Grow, From, No] at hk ⊢); omega))
                    replace how := how.upd hu20 (fun k hk hl hS => by (simp only [At] at hS; subst hS; first | exact hne hk | (rcases hk with hk | hk; exact hne hk; omega) | (have := hlt _ hk; omega)))
                    refine WL.nil ?_
                    refine WX.keep [(0, _), (1, _), (8, _), (9, _)] ⟨rfl, rfl, rfl, rfl, trivial⟩ ?_
                    refine WX.blockNormal ?_
                    refine WX.next ?_
                    refine WC.region ?_
                    refine WL.val rfl rfl rfl rfl (r_move rfl (ev_t rfl)) ?_
                    refine WL.val rfl rfl rfl rfl (r_addN rfl (ev_t rfl) ev_c (by simp only [inK]; omega)) ?_
                    refine WL.val rfl rfl rfl rfl (r_assign rfl (ev_t rfl)) ?_
                    refine WL.nil ?_
                    refine WX.keep [(0, _), (1, _), (8, _), (9, _)] ⟨rfl, rfl, rfl, rfl, trivial⟩ ?_
                    refine WX.meet [(0, _), (1, _), (8, _), (9, _)] ⟨rfl, rfl, rfl, rfl, trivial⟩ ?_
                    have hjl : j < (s.length + 7) / 8 := by omega
                    have e5 : (M ++ [s.length * 256 + 3] ++ (encT s).take j) ++ [leW ((s.drop (8 * j)).take 8)] = M ++ [s.length * 256 + 3] ++ (encT s).take (j + 1) := by rw [take_get (encT_get hjl)]; simp
                    have eL : (M ++ [s.length * 256 + 3] ++ (encT s).take j).length + 1 = (M ++ [s.length * 256 + 3] ++ (encT s).take (j + 1)).length := by rw [← e5]; simp; omega
                    have eM : (M ++ [s.length * 256 + 3] ++ (encT s).take j).map Wd ++ [Wd (leW ((s.drop (8 * j)).take 8))] = (M ++ [s.length * 256 + 3] ++ (encT s).take (j + 1)).map Wd := by rw [← e5]; simp
                    rw [eM] at how
                    rw [eL] at how hhd
                    have eN : (M ++ [s.length * 256 + 3] ++ (encT s).take (j + 1)).length = M.length + 1 + (j + 1) := by simp [encT_len]; omega
                    refine ⟨(s.length + 7) / 8 - (j + 1), by omega, j + 1, _, _, _, by omega, rfl, hU, ⟨hhd, how, fun h => ?_, fun k hk => ?_, ⟨by rw [eN]; omega, hle2.2⟩, hcn⟩, fun k hk => ?_, by simp; omega⟩
                    · rcases h with h | h
                      · exact hne h
                      · omega
                    · rcases hk with hk | hk
                      · have := hlt k hk; omega
                      · omega
                    · rcases hk with hk | hk
                      · exact hG2 k hk
                      · exact .inr (by omega)
            · try (exfalso; first | (simp at hc8; done) | (simp only [decide_eq_true_eq, decide_eq_false_iff_not, Bool.not_eq_true', Bool.not_eq_false', Bool.not_eq_true, Bool.not_eq_false] at hc8; omega) | omega)
              all_goals
               try simp only [decide_eq_true_eq, decide_eq_false_iff_not, Bool.not_eq_true', Bool.not_eq_false', Bool.not_eq_true, Bool.not_eq_false, Option.isNone_none, Option.isNone_some, Option.isSome_none, Option.isSome_some, ne_eq, Decidable.not_not] at hc8
               refine WC.exit ?_
               refine WX.thenExit ?_
               refine WX.thenExit ?_
               refine WX.blockHere ?_
               refine WX.next ?_
               refine WC.seq ?_
               refine WC.region ?_
               refine WL.val rfl rfl rfl rfl (r_move rfl (ev_t rfl)) ?_
               refine WL.val rfl rfl rfl rfl (r_convN rfl (ev_t rfl) some_3 int_32 (by simp only [inK]; omega)) ?_
               refine WL.val rfl rfl rfl rfl (r_shl rfl (ev_t rfl) ev_c (by omega) (by simp only [IntKind.bits]; omega)) ?_
               refine WL.val rfl rfl rfl rfl (r_assign rfl (ev_t rfl)) ?_
               refine WL.val rfl rfl rfl rfl (r_assign rfl ev_c) ?_
               refine WL.nil ?_
               refine WX.keep [(6, _), (7, _)] ⟨rfl, rfl, trivial⟩ ?_
               refine WX.next ?_
               refine WC.ret ?_
               refine WX.retE2 rfl rfl rfl ?_
               obtain rfl : j = (s.length + 7) / 8 := by omega
               have et : (encT s).take ((s.length + 7) / 8) = encT s := List.take_of_length_le (by rw [encT_len]; omega)
               rw [et] at hH
               refine ⟨G2, _, _, _, hH, hG2, hU, fun _ => ⟨?_, rfl⟩, fun h => absurd hfit h⟩
               rw [wrap_u64]
               have e2 : (2 : Int) ^ Int.toNat 1 = 2 := by decide
               rw [e2, show ((M.length : Int) * 2 % 18446744073709551616) = ((2 * M.length : Nat) : Int) by omega]
end Go.Proofs.YtdpnnclkkbfihaaDoor

/-
  bytes.Buffer: WriteByte and String, the kit's contracts laid at this program (printed by the kit's lay-plain.mjs), and their use.
-/
namespace Go.Proofs
open Go.Shelf
def Tryd.laysM182_ren : Go.Shelf.Ren := ⟨fun | 182 => 47 | n => n, fun | 130 => 98 | 9 => 9 | 4 => 4 | 0 => 0 | 93 => 88 | 37 => 63 | 3 => 3 | 91 => 86 | 5 => 5 | n => n, fun | n => n⟩
theorem Tryd.laysM182 : Go.Proofs.LaysM.n182 Tryd.prog Tryd.laysM182_ren := {
  mixed := by kernel_rfl
  f182 := Tryd.func47.trans (congrArg some (by kernel_rfl))
  t0 := Tryd.underlying0
  a0 := Tryd.isAgg0
  z0 := Tryd.sizeOf0
  v0 := Tryd.zeroValue0
  t3 := Tryd.underlying3
  a3 := Tryd.isAgg3
  z3 := Tryd.sizeOf3
  v3 := Tryd.zeroValue3
  t4 := Tryd.underlying4
  a4 := Tryd.isAgg4
  z4 := Tryd.sizeOf4
  v4 := Tryd.zeroValue4
  t9 := Tryd.underlying9
  a9 := Tryd.isAgg9
  z9 := Tryd.sizeOf9
  v9 := Tryd.zeroValue9
  t37 := Tryd.underlying63
  a37 := Tryd.isAgg63
  z37 := Tryd.sizeOf63
  v37 := Tryd.zeroValue63
  t93 := Tryd.underlying88
  a93 := Tryd.isAgg88
  z93 := Tryd.sizeOf88
  v93 := Tryd.zeroValue88
  t130 := Tryd.underlying98
  a130 := Tryd.isAgg98
  z130 := Tryd.sizeOf98
  v130 := Tryd.zeroValue98
  t5 := Tryd.underlying5
  a5 := Tryd.isAgg5
  z5 := Tryd.sizeOf5
  v5 := Tryd.zeroValue5
  t91 := Tryd.underlying86
  a91 := Tryd.isAgg86
  z91 := Tryd.sizeOf86
  v91 := Tryd.zeroValue86
  i0 := by kernel_rfl
  i3 := by kernel_rfl
  i4 := by kernel_rfl
  i5 := by kernel_rfl
  i9 := by kernel_rfl
  i37 := by kernel_rfl
  i91 := by kernel_rfl
  i93 := by kernel_rfl
  i130 := by kernel_rfl }
open Go.RowKit in
theorem Tryd.Buffer_String_at (T : TypeId) (R : Nat → Option Value) (B b q : Nat) (l : List UInt8) (w : World) (h : LibA.IsBuffer T R 5 B b q (Lib.byteCells l) w) :
    Calls Tryd.prog 47 #[.pointer (some ⟨b, q, none⟩)] w fun e w' => e = .returned (.string ⟨l.toArray⟩) ∧ ∃ n, w' = w.drewN n := Any.Buffer_String_at Tryd.laysM182 T R B b q l w h
def Tryd.laysM179_ren : Go.Shelf.Ren := ⟨fun | 179 => 45 | 251 => 50 | 252 => 51 | 181 => 52 | 184 => 53 | 290 => 54 | 324 => 55 | n => n, fun | 130 => 98 | 5 => 5 | 75 => 90 | 0 => 0 | 93 => 88 | 91 => 86 | 3 => 3 | 131 => 99 | 4 => 4 | 37 => 63 | 20 => 20 | 80 => 92 | 9 => 9 | n => n, fun | 14 => 0 | n => n⟩
theorem Tryd.laysM179 : Go.Proofs.LaysM.n179 Tryd.prog Tryd.laysM179_ren := {
  mixed := by kernel_rfl
  f179 := Tryd.func45.trans (congrArg some (by kernel_rfl))
  f181 := Tryd.func52.trans (congrArg some (by kernel_rfl))
  f184 := Tryd.func53.trans (congrArg some (by kernel_rfl))
  f251 := Tryd.func50.trans (congrArg some (by kernel_rfl))
  f252 := Tryd.func51.trans (congrArg some (by kernel_rfl))
  f290 := Tryd.func54.trans (congrArg some (by kernel_rfl))
  f324 := Tryd.func55.trans (congrArg some (by kernel_rfl))
  t0 := Tryd.underlying0
  a0 := Tryd.isAgg0
  z0 := Tryd.sizeOf0
  v0 := Tryd.zeroValue0
  t3 := Tryd.underlying3
  a3 := Tryd.isAgg3
  z3 := Tryd.sizeOf3
  v3 := Tryd.zeroValue3
  t4 := Tryd.underlying4
  a4 := Tryd.isAgg4
  z4 := Tryd.sizeOf4
  v4 := Tryd.zeroValue4
  t5 := Tryd.underlying5
  a5 := Tryd.isAgg5
  z5 := Tryd.sizeOf5
  v5 := Tryd.zeroValue5
  t20 := Tryd.underlying20
  a20 := Tryd.isAgg20
  z20 := Tryd.sizeOf20
  v20 := Tryd.zeroValue20
  t37 := Tryd.underlying63
  a37 := Tryd.isAgg63
  z37 := Tryd.sizeOf63
  v37 := Tryd.zeroValue63
  t75 := Tryd.underlying90
  a75 := Tryd.isAgg90
  z75 := Tryd.sizeOf90
  v75 := Tryd.zeroValue90
  t91 := Tryd.underlying86
  a91 := Tryd.isAgg86
  z91 := Tryd.sizeOf86
  v91 := Tryd.zeroValue86
  t93 := Tryd.underlying88
  a93 := Tryd.isAgg88
  z93 := Tryd.sizeOf88
  v93 := Tryd.zeroValue88
  t130 := Tryd.underlying98
  a130 := Tryd.isAgg98
  z130 := Tryd.sizeOf98
  v130 := Tryd.zeroValue98
  t131 := Tryd.underlying99
  a131 := Tryd.isAgg99
  z131 := Tryd.sizeOf99
  v131 := Tryd.zeroValue99
  g14 := by kernel_rfl
  t9 := Tryd.underlying9
  a9 := Tryd.isAgg9
  z9 := Tryd.sizeOf9
  v9 := Tryd.zeroValue9
  t80 := Tryd.underlying92
  a80 := Tryd.isAgg92
  z80 := Tryd.sizeOf92
  v80 := Tryd.zeroValue92
  i0 := by kernel_rfl
  i3 := by kernel_rfl
  i4 := by kernel_rfl
  i5 := by kernel_rfl
  i9 := by kernel_rfl
  i20 := by kernel_rfl
  i37 := by kernel_rfl
  i75 := by kernel_rfl
  i80 := by kernel_rfl
  i91 := by kernel_rfl
  i93 := by kernel_rfl
  i130 := by kernel_rfl
  i131 := by kernel_rfl
  m14 := by kernel_rfl }
open Go.RowKit in
theorem Tryd.Buffer_WriteByte_at (T : TypeId) (R : Nat → Option Value) (B b q : Nat) (bs : List Value) (c : Int) (w : World) (h : LibA.IsBuffer T R 5 B b q bs w) (hBw : B ≤ w.heap.size) (h1 : ∀ v ∈ bs, v.oneCell' = true) (hlim : bs.length + 1 ≤ 140737488355328) :
    Calls Tryd.prog 45 #[.pointer (some ⟨b, q, none⟩), .int .u8 c] w fun e w' => e = .returned .nilIface ∧ LibA.IsBuffer T R 5 B b q (bs ++ [.int .u8 c]) w' ∧ Below B w w' ∧ Lib.OthersKept 5 (some b) w w' := Any.Buffer_WriteByte_at Tryd.laysM179 T R B b q bs c w h hBw h1 hlim
end Go.Proofs
namespace Go.Proofs.YtdpnnclkkbfihaaDoor
open Go
set_option linter.unusedSimpArgs false
set_option linter.unusedVariables false

/-- a bytes.Buffer with these bytes: its block is b, its row lies behind it -/
def Buf (w : World) (b : Nat) (l : List UInt8) : Prop := LibA.IsBuffer 88 (fun _ => none) 5 b b 0 (l.map U8) w
theorem Buf.new {w : World} {b : Nat} (h : Blk w b #[.slice none 0 0, .int .i64 0, .int .i8 0] 88) : Buf w b [] :=
  LibA.zero_isBuffer (Nat.le_refl _) (LibA.three_whole h)
theorem Buf.lt {w : World} {b : Nat} {l : List UInt8} (h : Buf w b l) : b < w.heap.size := LibA.IsBuffer.lt h
theorem Buf.upd {w w' : World} {b : Nat} {l : List UInt8} {S : Nat → Prop} (h : Buf w b l) (hu : Upd S w w') (hn : ∀ k, b ≤ k → k < w.heap.size → ¬ S k) : Buf w' b l := by
  obtain ⟨hB, v, lr, h3, ⟨hl, ho⟩, hne⟩ := h
  refine ⟨hB, v, lr, h3.of_heap (hu.block b h3.lt (hn b (Nat.le_refl _) h3.lt)), ⟨hl, ?_⟩, hne⟩
  rcases ho with hh | ⟨g, cap, cur, rfl, hb, hg, rest⟩
  · exact .inl hh
  · have hgl := (Array.getElem?_eq_some_iff.1 hg).1
    exact .inr ⟨g, cap, cur, rfl, hb, (hu.block g hgl (hn g hb hgl)).trans hg, rest⟩
theorem Upd.of_below {B : Nat} {w w' : World} (h : Go.RowKit.Below B w w') : Upd (From B) w w' :=
  ⟨h.os, h.tape, h.output, h.size, fun k _ hn => h.block k (by unfold From at hn; omega)⟩
theorem bwrite_ok {w : World} {b : Nat} {l : List UInt8} {x : UInt8} (h : Buf w b l) (hl : l.length ≤ 1000000000) :
    Ret Tryd.prog 45 #[.pointer (some ⟨b, 0, none⟩), .int .u8 (x.toNat : Int)] w fun v w' => Buf w' b (l ++ [x]) ∧ Upd (From b) w w' := by
  refine Calls.mono (Tryd.Buffer_WriteByte_at _ _ b b 0 _ (x.toNat : Int) w h (Nat.le_of_lt h.lt) (fun v hv => ?_) (by simp; omega)) ?_
  · obtain ⟨y, _, rfl⟩ := List.mem_map.1 hv
    rfl
  · rintro e w' ⟨rfl, h1, h2, _⟩
    refine ⟨_, rfl, ?_, Upd.of_below h2⟩
    unfold Buf
    rw [List.map_append]
    exact h1
theorem drewN_upd (n : Nat) (w : World) : Upd No w (w.drewN n) := ⟨rfl, rfl, rfl, Nat.le_refl _, fun _ _ _ => rfl⟩
theorem bstring_ok {w : World} {b : Nat} {l : List UInt8} (h : Buf w b l) :
    Ret Tryd.prog 47 #[.pointer (some ⟨b, 0, none⟩)] w fun v w' => v = .string ⟨l.toArray⟩ ∧ Upd No w w' := by
  refine Calls.mono (Tryd.Buffer_String_at _ _ b b 0 l w h) ?_
  rintro e w' ⟨rfl, n, rfl⟩
  exact ⟨_, rfl, rfl, drewN_upd n w⟩
end Go.Proofs.YtdpnnclkkbfihaaDoor

/-
  heap: Text.
-/
namespace Go.Proofs.YtdpnnclkkbfihaaDoor
open Go
set_option linter.unusedSimpArgs false
set_option linter.unusedVariables false

/-- a text stands at a place -/
def TextAt (mem : List Nat) (a : Nat) (s : List UInt8) : Prop := mem[a]? = some (s.length * 256 + 3) ∧ ∀ j x, (encT s)[j]? = some x → mem[a + 1 + j]? = some x
theorem kindNil_ok {w : World} {x : Nat} : Ret Tryd.prog 40 #[.pointer none, .int .u64 (x : Int)] w fun v w' => v = .int .u8 0 ∧ w = w' := by
  refine enterRet (vs := [_, _]) (N := 19) Tryd.func40 rfl rfl rfl ?_
  refine WC.keep [(0, _), (1, _)] ⟨rfl, rfl, trivial⟩ ?_
  refine WC.seq ?_
  refine WC.region ?_
  refine WL.val rfl rfl rfl rfl (r_assign rfl ev_c) ?_
  refine WL.nil ?_
  refine WX.keep [(0, _), (1, _)] ⟨rfl, rfl, trivial⟩ ?_
  refine WX.next ?_
  refine WC.seq ?_
  refine WC.seq ?_
  refine WC.region ?_
  refine WL.val rfl rfl rfl rfl (r_move rfl (ev_t rfl)) ?_
  refine WL.val rfl rfl rfl rfl (r_move rfl (ev_t rfl)) ?_
  refine WL.cons (SO.call (atNil_ok) rfl body_46 ⟨(ev_t rfl), (ev_t rfl), trivial⟩ rfl rfl rfl rfl ?_)
  rintro v w1 ⟨rfl, he⟩
  obtain rfl := he.symm
  refine WL.val rfl rfl rfl rfl (r_assign rfl (ev_t rfl)) ?_
  refine WL.nil ?_
  refine WX.keep [(0, _), (5, _)] ⟨rfl, rfl, trivial⟩ ?_
  refine WX.next ?_
  refine WC.seq ?_
  refine WC.region ?_
  refine WL.val rfl rfl rfl rfl (r_move rfl (ev_t rfl)) ?_
  refine WL.val rfl rfl rfl rfl (r_geq rfl (ev_t rfl) ev_c) ?_
  refine WL.nil ?_
  refine WX.keep [(0, _), (5, _), (10, _)] ⟨rfl, rfl, rfl, trivial⟩ ?_
  refine WX.next ?_
  refine WC.cond rfl (ev_t rfl) (fun hc2 => ?_) (fun hc2 => ?_)
  · try simp only [decide_eq_true_eq, decide_eq_false_iff_not, Bool.not_eq_true', Bool.not_eq_false', Bool.not_eq_true, Bool.not_eq_false, Option.isNone_none, Option.isNone_some, Option.isSome_none, Option.isSome_some, ne_eq, Decidable.not_not] at hc2
    exfalso
    simp_all
  · try (exfalso; first | (simp at hc2; done) | (simp only [decide_eq_true_eq, decide_eq_false_iff_not, Bool.not_eq_true', Bool.not_eq_false', Bool.not_eq_true, Bool.not_eq_false] at hc2; omega) | omega)
    all_goals
     try simp only [decide_eq_true_eq, decide_eq_false_iff_not, Bool.not_eq_true', Bool.not_eq_false', Bool.not_eq_true, Bool.not_eq_false, Option.isNone_none, Option.isNone_some, Option.isSome_none, Option.isSome_some, ne_eq, Decidable.not_not] at hc2
     refine WC.skip ?_
     refine WX.next ?_
     refine WC.seq ?_
     refine WC.region ?_
     refine WL.val rfl rfl rfl rfl (r_assign rfl ev_c) ?_
     refine WL.nil ?_
     refine WX.keep [(4, _)] ⟨rfl, trivial⟩ ?_
     refine WX.next ?_
     refine WC.ret ?_
     refine WX.retE1 rfl rfl ?_
     exact ⟨rfl, rfl⟩
theorem lenNil_ok {w : World} {x : Nat} : Ret Tryd.prog 16 #[.pointer none, .int .u64 (x : Int)] w fun v w' => v = .int .i64 0 ∧ w = w' := by
  refine enterRet (vs := [_, _]) (N := 20) Tryd.func16 rfl rfl rfl ?_
  refine WC.keep [(0, _), (1, _)] ⟨rfl, rfl, trivial⟩ ?_
  refine WC.seq ?_
  refine WC.region ?_
  refine WL.val rfl rfl rfl rfl (r_assign rfl ev_c) ?_
  refine WL.nil ?_
  refine WX.keep [(0, _), (1, _)] ⟨rfl, rfl, trivial⟩ ?_
  refine WX.next ?_
  refine WC.seq ?_
  refine WC.seq ?_
  refine WC.region ?_
  refine WL.val rfl rfl rfl rfl (r_move rfl (ev_t rfl)) ?_
  refine WL.val rfl rfl rfl rfl (r_move rfl (ev_t rfl)) ?_
  refine WL.cons (SO.call (atNil_ok) rfl body_46 ⟨(ev_t rfl), (ev_t rfl), trivial⟩ rfl rfl rfl rfl ?_)
  rintro v w1 ⟨rfl, he⟩
  obtain rfl := he.symm
  refine WL.val rfl rfl rfl rfl (r_assign rfl (ev_t rfl)) ?_
  refine WL.nil ?_
  refine WX.keep [(0, _), (5, _)] ⟨rfl, rfl, trivial⟩ ?_
  refine WX.next ?_
  refine WC.seq ?_
  refine WC.region ?_
  refine WL.val rfl rfl rfl rfl (r_move rfl (ev_t rfl)) ?_
  refine WL.val rfl rfl rfl rfl (r_geq rfl (ev_t rfl) ev_c) ?_
  refine WL.nil ?_
  refine WX.keep [(0, _), (5, _), (10, _)] ⟨rfl, rfl, rfl, trivial⟩ ?_
  refine WX.next ?_
  refine WC.cond rfl (ev_t rfl) (fun hc2 => ?_) (fun hc2 => ?_)
  · try simp only [decide_eq_true_eq, decide_eq_false_iff_not, Bool.not_eq_true', Bool.not_eq_false', Bool.not_eq_true, Bool.not_eq_false, Option.isNone_none, Option.isNone_some, Option.isSome_none, Option.isSome_some, ne_eq, Decidable.not_not] at hc2
    exfalso
    simp_all
  · try (exfalso; first | (simp at hc2; done) | (simp only [decide_eq_true_eq, decide_eq_false_iff_not, Bool.not_eq_true', Bool.not_eq_false', Bool.not_eq_true, Bool.not_eq_false] at hc2; omega) | omega)
    all_goals
     try simp only [decide_eq_true_eq, decide_eq_false_iff_not, Bool.not_eq_true', Bool.not_eq_false', Bool.not_eq_true, Bool.not_eq_false, Option.isNone_none, Option.isNone_some, Option.isSome_none, Option.isSome_some, ne_eq, Decidable.not_not] at hc2
     refine WC.skip ?_
     refine WX.next ?_
     refine WC.seq ?_
     refine WC.region ?_
     refine WL.val rfl rfl rfl rfl (r_assign rfl ev_c) ?_
     refine WL.nil ?_
     refine WX.keep [(4, _)] ⟨rfl, trivial⟩ ?_
     refine WX.next ?_
     refine WC.ret ?_
     refine WX.retE1 rfl rfl ?_
     exact ⟨rfl, rfl⟩
theorem textNil_ok {w : World} {x : Nat} : Ret Tryd.prog 15 #[.pointer none, .int .u64 (x : Int)] w fun v w' => v = .string ⟨#[]⟩ ∧ w = w' := by
  refine enterRet (vs := [_, _]) (N := 38) Tryd.func15 rfl rfl rfl ?_
  refine WC.keep [(0, _), (1, _)] ⟨rfl, rfl, trivial⟩ ?_
  refine WC.seq ?_
  refine WC.region ?_
  refine WL.val rfl rfl rfl rfl (r_assign rfl ev_c) ?_
  refine WL.nil ?_
  refine WX.keep [(0, _), (1, _)] ⟨rfl, rfl, trivial⟩ ?_
  refine WX.next ?_
  refine WC.seq ?_
  refine WC.seq ?_
  refine WC.region ?_
  refine WL.val rfl rfl rfl rfl (r_move rfl (ev_t rfl)) ?_
  refine WL.val rfl rfl rfl rfl (r_move rfl (ev_t rfl)) ?_
  refine WL.cons (SO.call (kindNil_ok) rfl body_40 ⟨(ev_t rfl), (ev_t rfl), trivial⟩ rfl rfl rfl rfl ?_)
  rintro v w1 ⟨rfl, he⟩
  obtain rfl := he.symm
  refine WL.val rfl rfl rfl rfl (r_neq rfl (ev_t rfl) ev_c) ?_
  refine WL.nil ?_
  refine WX.keep [(0, _), (1, _), (10, _)] ⟨rfl, rfl, rfl, trivial⟩ ?_
  refine WX.next ?_
  refine WC.cond rfl (ev_t rfl) (fun hc1 => ?_) (fun hc1 => ?_)
  · try (exfalso; first | (simp at hc1; done) | (simp only [decide_eq_true_eq, decide_eq_false_iff_not, Bool.not_eq_true', Bool.not_eq_false', Bool.not_eq_true, Bool.not_eq_false] at hc1; omega) | omega)
    all_goals
     try simp only [decide_eq_true_eq, decide_eq_false_iff_not, Bool.not_eq_true', Bool.not_eq_false', Bool.not_eq_true, Bool.not_eq_false, Option.isNone_none, Option.isNone_some, Option.isSome_none, Option.isSome_some, ne_eq, Decidable.not_not] at hc1
     refine WC.seq ?_
     refine WC.region ?_
     refine WL.val rfl rfl rfl rfl (r_assign rfl ev_c) ?_
     refine WL.nil ?_
     refine WX.keep [(4, _)] ⟨rfl, trivial⟩ ?_
     refine WX.next ?_
     refine WC.ret ?_
     refine WX.thenRet ?_
     refine WX.retE1 rfl rfl ?_
     exact ⟨rfl, rfl⟩
  · try simp only [decide_eq_true_eq, decide_eq_false_iff_not, Bool.not_eq_true', Bool.not_eq_false', Bool.not_eq_true, Bool.not_eq_false, Option.isNone_none, Option.isNone_some, Option.isSome_none, Option.isSome_some, ne_eq, Decidable.not_not] at hc1
    exfalso
    simp_all
theorem text_byte {x k : Nat} {b : UInt8} (h : x / 256 ^ k % 256 = b.toNat) (hk : k < 8) : IntKind.u8.wrap ((x : Int) / 2 ^ Int.toNat (8 * (k : Int))) = (b.toNat : Int) := by
  have e : Int.toNat (8 * (k : Int)) = 8 * k := by omega
  rw [e, wrap_u8]
  have e2 : (2 : Int) ^ (8 * k) = ((256 ^ k : Nat) : Int) := by rw [pow256]; simp
  rw [e2]
  have e3 : (x : Int) / ((256 ^ k : Nat) : Int) = ((x / 256 ^ k : Nat) : Int) := by simp
  rw [e3, ← h]
  omega
theorem text_ok {w : World} {G : Nat → Prop} {p : Nat} {A : Option Addr} {c : Nat} {mem : List Nat} {q n a : Nat} {s : List UInt8} (hH : HS w G p A c mem q n) (ha : TextAt mem a s) (hs : s.length ≤ 1000000) :
    Ret Tryd.prog 15 #[.pointer (some ⟨p, 0, none⟩), .int .u64 ((2 * a : Nat) : Int)] w fun v w' => v = .string ⟨s.toArray⟩ ∧ Upd No w w' := by
  have hle := hH.le
  have hlp := hH.hd.lt
  have hlG := hH.lt
  obtain ⟨ha0, haj⟩ := ha
  have hal := (List.getElem?_eq_some_iff.1 ha0).1
  refine enterRet (vs := [_, _]) (N := 38) Tryd.func15 rfl rfl rfl ?_
  have hU := Upd.refl No w
  refine WC.keep [(0, _), (1, _)] ⟨rfl, rfl, trivial⟩ ?_
  refine WC.seq ?_
  refine WC.region ?_
  refine WL.val rfl rfl rfl rfl (r_assign rfl ev_c) ?_
  refine WL.nil ?_
  refine WX.keep [(0, _), (1, _)] ⟨rfl, rfl, trivial⟩ ?_
  refine WX.next ?_
  refine WC.seq ?_
  refine WC.seq ?_
  refine WC.region ?_
  refine WL.val rfl rfl rfl rfl (r_move rfl (ev_t rfl)) ?_
  refine WL.val rfl rfl rfl rfl (r_move rfl (ev_t rfl)) ?_
  refine WL.cons (SO.call (kind_ok hH ha0) rfl body_40 ⟨(ev_t rfl), (ev_t rfl), trivial⟩ rfl rfl rfl rfl ?_)
  rintro v w1 ⟨rfl, rfl⟩
  refine WL.val rfl rfl rfl rfl (r_neq rfl (ev_t rfl) ev_c) ?_
  refine WL.nil ?_
  refine WX.keep [(0, _), (1, _), (10, _)] ⟨rfl, rfl, rfl, trivial⟩ ?_
  refine WX.next ?_
  refine WC.cond rfl (ev_t rfl) (fun hc1 => ?_) (fun hc1 => ?_)
  · try simp only [decide_eq_true_eq, decide_eq_false_iff_not, Bool.not_eq_true', Bool.not_eq_false', Bool.not_eq_true, Bool.not_eq_false, Option.isNone_none, Option.isNone_some, Option.isSome_none, Option.isSome_some, ne_eq, Decidable.not_not] at hc1
    exfalso
    simp at hc1
  · try (exfalso; first | (simp at hc1; done) | (simp only [decide_eq_true_eq, decide_eq_false_iff_not, Bool.not_eq_true', Bool.not_eq_false', Bool.not_eq_true, Bool.not_eq_false] at hc1; omega) | omega)
    all_goals
     try simp only [decide_eq_true_eq, decide_eq_false_iff_not, Bool.not_eq_true', Bool.not_eq_false', Bool.not_eq_true, Bool.not_eq_false, Option.isNone_none, Option.isNone_some, Option.isSome_none, Option.isSome_some, ne_eq, Decidable.not_not] at hc1
     refine WC.skip ?_
     refine WX.next ?_
     refine WC.seq ?_
     refine WC.region ?_
     refine WL.cons (SO.alloc rfl rfl rfl rfl (r_alloc rfl zero_88) ?_)
     intro w2 hu2 hB2 hz2
     have hs2 := hu2.size
     replace hU := hU.trans hu2 (by exact (fun _ _ h => h))
     replace hH := hH.upd hu2 (fun k hk hl hS => by exact (show False from hS).elim)
     refine WL.nil ?_
     refine WX.keep [(0, _), (1, _), (5, _)] ⟨rfl, rfl, rfl, trivial⟩ ?_
     refine WX.next ?_
     refine WC.seq ?_
     refine WC.seq ?_
     have e256 : (s.length * 256 + 3) / 256 = s.length := by omega
     have hB := Buf.new hB2
     generalize hb : w.heap.size = b at *
     refine WC.region ?_
     refine WL.val rfl rfl rfl rfl (r_move rfl (ev_t rfl)) ?_
     refine WL.val rfl rfl rfl rfl (r_move rfl (ev_t rfl)) ?_
     refine WL.cons (SO.call (len_ok hH ha0 (by omega)) rfl body_16 ⟨(ev_t rfl), (ev_t rfl), trivial⟩ rfl rfl rfl rfl ?_)
     rw [e256]
     rintro v w3 ⟨rfl, rfl⟩
     refine WL.val rfl rfl rfl rfl (r_move rfl ev_c) ?_
     refine WL.nil ?_
     refine WX.keep [(0, _), (1, _), (5, _), (13, _), (14, _)] ⟨rfl, rfl, rfl, rfl, rfl, trivial⟩ ?_
     refine WX.next ?_
     refine WC.block ?_
     -- loop 1: live [0, 1, 5, 13, 14]
     refine WC.keep [(0, _), (1, _), (5, _), (13, _), (14, _)] ⟨rfl, rfl, rfl, rfl, rfl, trivial⟩ ?_
     refine WC.loop (fun qq E wC => ∃ (j : Nat), j ≤ s.length ∧ qq = s.length - j ∧ Upd No w wC ∧ HS wC G p A c mem q n ∧ Buf wC b (s.take j) ∧ E = [(0, .pointer (some ⟨p, 0, none⟩)), (1, .int .u64 ((2 * a : Nat) : Int)), (5, .pointer (some ⟨b, 0, none⟩)), (13, .int .i64 (s.length : Int)), (14, .int .i64 (j : Int))]) (s.length) ?_ ?_
     · exact ⟨0, by omega, by omega, hU, hH, hB, rfl⟩
     · clear hU hH hB
       rintro qq E wC ⟨j, hj, rfl, hU, hH, hB, rfl⟩
       have hUs := hU.size
       have hle2 := hH.le
       have hr := hH.ow.rd (by omega)
       obtain ⟨b0, off, rfl, _⟩ := hr.open (by omega)
       refine WC.seq ?_
       refine WC.region ?_
       refine WL.val rfl rfl rfl rfl (r_lss rfl (ev_t rfl) (ev_t rfl)) ?_
       refine WL.nil ?_
       refine WX.keep [(0, _), (1, _), (5, _), (13, _), (14, _), (15, _)] ⟨rfl, rfl, rfl, rfl, rfl, rfl, trivial⟩ ?_
       refine WX.next ?_
       refine WC.seq ?_
       refine WC.cond rfl (ev_t rfl) (fun hc5 => ?_) (fun hc5 => ?_)
       · try (exfalso; first | (simp at hc5; done) | (simp only [decide_eq_true_eq, decide_eq_false_iff_not, Bool.not_eq_true', Bool.not_eq_false', Bool.not_eq_true, Bool.not_eq_false] at hc5; omega) | omega)
         all_goals
          try simp only [decide_eq_true_eq, decide_eq_false_iff_not, Bool.not_eq_true', Bool.not_eq_false', Bool.not_eq_true, Bool.not_eq_false, Option.isNone_none, Option.isNone_some, Option.isSome_none, Option.isSome_some, ne_eq, Decidable.not_not] at hc5
          have hjl : j < s.length := by simpa using hc5
          obtain ⟨x, hx1, hx2, hx3⟩ := encT_byte (List.getElem?_eq_getElem hjl)
          have hx4 := haj _ _ hx1
          have hx5 := (List.getElem?_eq_some_iff.1 hx4).1
          have htk : s.take (j + 1) = s.take j ++ [s[j]] := take_get (List.getElem?_eq_getElem hjl)
          generalize s[j] = y at *
          refine WC.skip ?_
          refine WX.next ?_
          refine WC.seq ?_
          refine WC.block ?_
          refine WC.seq ?_
          refine WC.region ?_
          refine WL.val rfl rfl rfl rfl (r_move rfl (ev_t rfl)) ?_
          refine WL.val rfl rfl rfl rfl (r_assign rfl (ev_t rfl)) ?_
          refine WL.nil ?_
          refine WX.keep [(0, _), (1, _), (5, _), (6, _), (13, _), (14, _)] ⟨rfl, rfl, rfl, rfl, rfl, rfl, trivial⟩ ?_
          refine WX.next ?_
          refine WC.draws' (fun u0_ u1_ => Upd No u0_ u1_) (fun j => [0, 0, 0, 0, 0, 0, 1, 0, 0, 0, 0, 0, 2, 0, 0, 0, 0, 0, 2].getD j 0) (.calm 0 (.calm 1 (.calm 2 (.calm 4 (.calm 5 (.calm 8 (.calm 9 (.calm 13 (.calm 14 (.calm 15 (.held 3 (.one 6 (.calm 7 (.calm 10 (.calm 11 (.one 12 (.calm 16 (.calm 17 (.one 18 (.done)))))))))))))))))))) mixed (by kernel_rfl) (by repeat (first | with_reducible exact Deaf.body | with_reducible apply Deaf.then | with_reducible apply Deaf.block)) ?_
          intro w4 hu4
          have hz4 := congrArg Array.size hu4.2.2.2
          replace hu4 := Upd.of_draw hu4
          have hs4 := hu4.size
          replace hU := hU.trans hu4 (by exact (fun _ _ h => h))
          replace hH := hH.upd hu4 (fun k hk hl hS => by exact (show False from hS).elim)
          replace hB := hB.upd hu4 (fun k hk hl hS => by first | exact (show False from hS).elim)
          replace hr := hr.upd hu4 (fun k hk hl hS => by exact (show False from hS).elim)
          have hS7 := Upd.refl No w4
          refine WN.calm _ rfl rfl rfl rfl rfl (fun _ => r_move rfl (ev_t rfl)) ?_
          refine WN.calm _ rfl rfl rfl rfl rfl (fun _ => r_nilCheck rfl (ev_t rfl)) ?_
          refine WN.calm _ rfl rfl rfl rfl rfl (fun _ => r_field0 rfl (ev_t rfl) fld_79_0) ?_
          refine WN.calm _ rfl rfl rfl rfl rfl (fun _ => r_move rfl (ev_t rfl)) ?_
          refine WN.calm _ rfl rfl rfl rfl rfl (fun _ => r_move rfl (ev_t rfl)) ?_
          refine WN.calm _ rfl rfl rfl rfl rfl (fun _ => r_move rfl (ev_t rfl)) ?_
          refine WN.calm _ rfl rfl rfl rfl rfl (fun _ => r_quoN rfl (ev_t rfl) ev_c (by omega) (by omega) (by simp only [inK]; omega)) ?_
          refine WN.calm _ rfl rfl rfl rfl rfl (fun _ => r_move rfl (ev_t rfl)) ?_
          refine WN.calm _ rfl rfl rfl rfl rfl (fun _ => r_remN rfl (ev_t rfl) ev_c (by omega) (by omega)) ?_
          refine WN.calm _ rfl rfl rfl rfl rfl (fun _ => r_mulN rfl ev_c (ev_t rfl) (by simp only [inK]; omega)) ?_
          refine WN.held _ rfl rfl rfl rfl rfl hS7 (fun w' hS => r_load rfl (ev_t rfl) flat_30 (Blk.cell (hH.upd hS (fun _ _ _ h => h)).hd rfl)) ?_
          refine WN.step _ rfl (SO.call (at_ok hH hal) rfl body_46 ⟨(ev_t rfl), (ev_t rfl), trivial⟩ rfl rfl rfl rfl ?_)
          rintro v w5 ⟨rfl, rfl⟩
          refine ⟨hS7, ?_⟩
          refine WN.calm _ rfl rfl rfl rfl rfl (fun _ => r_addN rfl (ev_t rfl) ev_c (by simp only [inK]; omega)) ?_
          refine WN.calm _ rfl rfl rfl rfl rfl (fun _ => r_addN rfl (ev_t rfl) (ev_t rfl) (by simp only [inK]; omega)) ?_
          refine WN.calm _ rfl rfl rfl rfl rfl (fun _ => r_indexAddr rfl (ev_t rfl) (ev_t rfl) elem_30 size_32 (by omega) (by omega)) ?_
          refine WN.step _ rfl (SO.val rfl rfl rfl rfl (r_load rfl (ev_t rfl) flat_32 (hr.cell (j := a + 1 + j / 8) (u := Wd x) (by omega) (by rw [List.getElem?_map, hx4]; rfl))) ?_)
          refine ⟨trivial, ?_⟩
          refine WN.calm _ rfl rfl rfl rfl rfl (fun _ => r_shr rfl (ev_t rfl) (ev_t rfl) (by omega) (by simp only [IntKind.bits]; omega)) ?_
          refine WN.calm _ rfl rfl rfl rfl rfl (fun _ => r_conv rfl (ev_t rfl) some_32 int_5) ?_
          have e9 := text_byte hx2 (Nat.mod_lt _ (by decide))
          rw [show ((j % 8 : Nat) : Int) = (j : Int) % 8 by omega] at e9
          rw [e9]
          refine WN.step _ rfl (SO.call (bwrite_ok hB (by simp; omega)) rfl body_45 ⟨(ev_t rfl), (ev_t rfl), trivial⟩ rfl rfl rfl rfl ?_)
          rintro v w6 ⟨hB2, hu6⟩
          have hs6 := hu6.size
          try replace hS7 := Upd.transA hS7 hu6
          replace hU := hU.trans hu6 (by (intro k hl hk; (try simp only [At, New, Grow, From, No] at hk ⊢); omega))
          replace hH := hH.upd hu6 (fun k hk hl hS => by (simp only [At, From] at hS; rcases hk with hk | hk; omega; have := hlG _ hk; omega))
          replace hr := hr.upd hu6 (fun k hk hl hS => by (simp only [At, From] at hS; have := hlG _ hk; omega))
          have hB := hB2
          refine ⟨trivial, ?_⟩
          refine WN.done ?_
          refine WX.keep [(0, _), (1, _), (5, _), (13, _), (14, _)] ⟨rfl, rfl, rfl, rfl, rfl, trivial⟩ ?_
          refine WX.blockNormal ?_
          refine WX.next ?_
          refine WC.region ?_
          refine WL.val rfl rfl rfl rfl (r_addN rfl (ev_t rfl) ev_c (by simp only [inK]; omega)) ?_
          refine WL.val rfl rfl rfl rfl (r_move rfl (ev_t rfl)) ?_
          refine WL.nil ?_
          refine WX.keep [(0, _), (1, _), (5, _), (13, _), (14, _)] ⟨rfl, rfl, rfl, rfl, rfl, trivial⟩ ?_
          refine WX.meet [(0, _), (1, _), (5, _), (13, _), (14, _)] ⟨rfl, rfl, rfl, rfl, rfl, trivial⟩ ?_
          refine ⟨s.length - (j + 1), by omega, j + 1, by omega, rfl, hU, hH, by rw [htk]; exact hB, by simp⟩
       · try (exfalso; first | (simp at hc5; done) | (simp only [decide_eq_true_eq, decide_eq_false_iff_not, Bool.not_eq_true', Bool.not_eq_false', Bool.not_eq_true, Bool.not_eq_false] at hc5; omega) | omega)
         all_goals
          try simp only [decide_eq_true_eq, decide_eq_false_iff_not, Bool.not_eq_true', Bool.not_eq_false', Bool.not_eq_true, Bool.not_eq_false, Option.isNone_none, Option.isNone_some, Option.isSome_none, Option.isSome_some, ne_eq, Decidable.not_not] at hc5
          refine WC.exit ?_
          refine WX.thenExit ?_
          refine WX.thenExit ?_
          refine WX.blockHere ?_
          refine WX.next ?_
          refine WC.seq ?_
          obtain rfl : j = s.length := by
            have : ¬ j < s.length := by simpa using hc5
            omega
          rw [List.take_length] at hB
          refine WC.region ?_
          refine WL.cons (SO.call (bstring_ok hB) rfl body_47 ⟨(ev_t rfl), trivial⟩ rfl rfl rfl rfl ?_)
          rintro v w7 ⟨rfl, hu7⟩
          have hs7 := hu7.size
          replace hU := hU.trans hu7 (by exact (fun _ _ h => h))
          replace hH := hH.upd hu7 (fun k hk hl hS => by exact (show False from hS).elim)
          replace hB := hB.upd hu7 (fun k hk hl hS => by first | exact (show False from hS).elim)
          replace hr := hr.upd hu7 (fun k hk hl hS => by exact (show False from hS).elim)
          refine WL.val rfl rfl rfl rfl (r_assign rfl (ev_t rfl)) ?_
          refine WL.nil ?_
          refine WX.keep [(4, _)] ⟨rfl, trivial⟩ ?_
          refine WX.next ?_
          refine WC.ret ?_
          refine WX.retE1 rfl rfl ?_
          exact ⟨rfl, hU⟩
end Go.Proofs.YtdpnnclkkbfihaaDoor

/-
  heap: Used, Quota, Collections; the document's example.
-/
namespace Go.Proofs.YtdpnnclkkbfihaaDoor
open Go
set_option linter.unusedSimpArgs false
set_option linter.unusedVariables false

theorem used_ok {w : World} {G : Nat → Prop} {p : Nat} {A : Option Addr} {c : Nat} {mem : List Nat} {q n : Nat} (hH : HS w G p A c mem q n) :
    Ret Tryd.prog 23 #[.pointer (some ⟨p, 0, none⟩)] w fun v w' => v = .int .i64 (mem.length : Int) ∧ w = w' := by
  refine enterRet (vs := [_]) (N := 10) Tryd.func23 rfl rfl rfl ?_
  refine WC.keep [(0, _)] ⟨rfl, trivial⟩ ?_
  refine WC.seq ?_
  refine WC.region ?_
  refine WL.val rfl rfl rfl rfl (r_assign rfl ev_c) ?_
  refine WL.nil ?_
  refine WX.keep [(0, _)] ⟨rfl, trivial⟩ ?_
  refine WX.next ?_
  refine WC.seq ?_
  refine WC.seq ?_
  refine WC.region ?_
  refine WL.val rfl rfl rfl rfl (r_move rfl (ev_t rfl)) ?_
  refine WL.val rfl rfl rfl rfl (r_eqlPtrNil rfl (ev_t rfl) ev_c ptr_26) ?_
  refine WL.nil ?_
  refine WX.keep [(0, _), (4, _)] ⟨rfl, rfl, trivial⟩ ?_
  refine WX.next ?_
  refine WC.cond rfl (ev_t rfl) (fun hc1 => ?_) (fun hc1 => ?_)
  · try (exfalso; first | (simp at hc1; done) | (simp only [decide_eq_true_eq, decide_eq_false_iff_not, Bool.not_eq_true', Bool.not_eq_false', Bool.not_eq_true, Bool.not_eq_false] at hc1; omega) | omega)
  · try (exfalso; first | (simp at hc1; done) | (simp only [decide_eq_true_eq, decide_eq_false_iff_not, Bool.not_eq_true', Bool.not_eq_false', Bool.not_eq_true, Bool.not_eq_false] at hc1; omega) | omega)
    all_goals
     try simp only [decide_eq_true_eq, decide_eq_false_iff_not, Bool.not_eq_true', Bool.not_eq_false', Bool.not_eq_true, Bool.not_eq_false, Option.isNone_none, Option.isNone_some, Option.isSome_none, Option.isSome_some, ne_eq, Decidable.not_not] at hc1
     refine WC.skip ?_
     refine WX.next ?_
     refine WC.seq ?_
     refine WC.region ?_
     refine WL.val rfl rfl rfl rfl (r_move rfl (ev_t rfl)) ?_
     refine WL.val rfl rfl rfl rfl (r_nilCheck rfl (ev_t rfl)) ?_
     refine WL.val rfl rfl rfl rfl (r_field0 rfl (ev_t rfl) fld_79_0) ?_
     refine WL.val rfl rfl rfl rfl (r_load rfl (ev_t rfl) flat_30 (Blk.cell hH.hd rfl)) ?_
     refine WL.val rfl rfl rfl rfl (r_lenSlice (ts := #[]) rfl (ev_t rfl) elem_30) ?_
     refine WL.val rfl rfl rfl rfl (r_assign rfl (ev_t rfl)) ?_
     refine WL.nil ?_
     refine WX.keep [(2, _)] ⟨rfl, trivial⟩ ?_
     refine WX.next ?_
     refine WC.ret ?_
     refine WX.retE1 rfl rfl ?_
     exact ⟨rfl, rfl⟩
theorem quota_ok {w : World} {G : Nat → Prop} {p : Nat} {A : Option Addr} {c : Nat} {mem : List Nat} {q n : Nat} (hH : HS w G p A c mem q n) :
    Ret Tryd.prog 36 #[.pointer (some ⟨p, 0, none⟩)] w fun v w' => v = .int .i64 (q : Int) ∧ w = w' := by
  refine enterRet (vs := [_]) (N := 9) Tryd.func36 rfl rfl rfl ?_
  refine WC.keep [(0, _)] ⟨rfl, trivial⟩ ?_
  refine WC.seq ?_
  refine WC.region ?_
  refine WL.val rfl rfl rfl rfl (r_assign rfl ev_c) ?_
  refine WL.nil ?_
  refine WX.keep [(0, _)] ⟨rfl, trivial⟩ ?_
  refine WX.next ?_
  refine WC.seq ?_
  refine WC.seq ?_
  refine WC.region ?_
  refine WL.val rfl rfl rfl rfl (r_move rfl (ev_t rfl)) ?_
  refine WL.val rfl rfl rfl rfl (r_eqlPtrNil rfl (ev_t rfl) ev_c ptr_26) ?_
  refine WL.nil ?_
  refine WX.keep [(0, _), (4, _)] ⟨rfl, rfl, trivial⟩ ?_
  refine WX.next ?_
  refine WC.cond rfl (ev_t rfl) (fun hc1 => ?_) (fun hc1 => ?_)
  · try (exfalso; first | (simp at hc1; done) | (simp only [decide_eq_true_eq, decide_eq_false_iff_not, Bool.not_eq_true', Bool.not_eq_false', Bool.not_eq_true, Bool.not_eq_false] at hc1; omega) | omega)
  · try (exfalso; first | (simp at hc1; done) | (simp only [decide_eq_true_eq, decide_eq_false_iff_not, Bool.not_eq_true', Bool.not_eq_false', Bool.not_eq_true, Bool.not_eq_false] at hc1; omega) | omega)
    all_goals
     try simp only [decide_eq_true_eq, decide_eq_false_iff_not, Bool.not_eq_true', Bool.not_eq_false', Bool.not_eq_true, Bool.not_eq_false, Option.isNone_none, Option.isNone_some, Option.isSome_none, Option.isSome_some, ne_eq, Decidable.not_not] at hc1
     refine WC.skip ?_
     refine WX.next ?_
     refine WC.seq ?_
     refine WC.region ?_
     refine WL.val rfl rfl rfl rfl (r_move rfl (ev_t rfl)) ?_
     refine WL.val rfl rfl rfl rfl (r_nilCheck rfl (ev_t rfl)) ?_
     refine WL.val rfl rfl rfl rfl (r_field0 rfl (ev_t rfl) fld_79_1) ?_
     refine WL.val rfl rfl rfl rfl (r_load rfl (ev_t rfl) flat_3 (Blk.cell hH.hd rfl)) ?_
     refine WL.val rfl rfl rfl rfl (r_assign rfl (ev_t rfl)) ?_
     refine WL.nil ?_
     refine WX.keep [(2, _)] ⟨rfl, trivial⟩ ?_
     refine WX.next ?_
     refine WC.ret ?_
     refine WX.retE1 rfl rfl ?_
     exact ⟨rfl, rfl⟩
theorem count_ok {w : World} {G : Nat → Prop} {p : Nat} {A : Option Addr} {c : Nat} {mem : List Nat} {q n : Nat} (hH : HS w G p A c mem q n) :
    Ret Tryd.prog 29 #[.pointer (some ⟨p, 0, none⟩)] w fun v w' => v = .int .i64 (n : Int) ∧ w = w' := by
  refine enterRet (vs := [_]) (N := 9) Tryd.func29 rfl rfl rfl ?_
  refine WC.keep [(0, _)] ⟨rfl, trivial⟩ ?_
  refine WC.seq ?_
  refine WC.region ?_
  refine WL.val rfl rfl rfl rfl (r_assign rfl ev_c) ?_
  refine WL.nil ?_
  refine WX.keep [(0, _)] ⟨rfl, trivial⟩ ?_
  refine WX.next ?_
  refine WC.seq ?_
  refine WC.seq ?_
  refine WC.region ?_
  refine WL.val rfl rfl rfl rfl (r_move rfl (ev_t rfl)) ?_
  refine WL.val rfl rfl rfl rfl (r_eqlPtrNil rfl (ev_t rfl) ev_c ptr_26) ?_
  refine WL.nil ?_
  refine WX.keep [(0, _), (4, _)] ⟨rfl, rfl, trivial⟩ ?_
  refine WX.next ?_
  refine WC.cond rfl (ev_t rfl) (fun hc1 => ?_) (fun hc1 => ?_)
  · try (exfalso; first | (simp at hc1; done) | (simp only [decide_eq_true_eq, decide_eq_false_iff_not, Bool.not_eq_true', Bool.not_eq_false', Bool.not_eq_true, Bool.not_eq_false] at hc1; omega) | omega)
  · try (exfalso; first | (simp at hc1; done) | (simp only [decide_eq_true_eq, decide_eq_false_iff_not, Bool.not_eq_true', Bool.not_eq_false', Bool.not_eq_true, Bool.not_eq_false] at hc1; omega) | omega)
    all_goals
     try simp only [decide_eq_true_eq, decide_eq_false_iff_not, Bool.not_eq_true', Bool.not_eq_false', Bool.not_eq_true, Bool.not_eq_false, Option.isNone_none, Option.isNone_some, Option.isSome_none, Option.isSome_some, ne_eq, Decidable.not_not] at hc1
     refine WC.skip ?_
     refine WX.next ?_
     refine WC.seq ?_
     refine WC.region ?_
     refine WL.val rfl rfl rfl rfl (r_move rfl (ev_t rfl)) ?_
     refine WL.val rfl rfl rfl rfl (r_nilCheck rfl (ev_t rfl)) ?_
     refine WL.val rfl rfl rfl rfl (r_field0 rfl (ev_t rfl) fld_79_2) ?_
     refine WL.val rfl rfl rfl rfl (r_load rfl (ev_t rfl) flat_3 (Blk.cell hH.hd rfl)) ?_
     refine WL.val rfl rfl rfl rfl (r_assign rfl (ev_t rfl)) ?_
     refine WL.nil ?_
     refine WX.keep [(2, _)] ⟨rfl, trivial⟩ ?_
     refine WX.next ?_
     refine WC.ret ?_
     refine WX.retE1 rfl rfl ?_
     exact ⟨rfl, rfl⟩
theorem textAt_put (M : List Nat) (s : List UInt8) : TextAt (M ++ [s.length * 256 + 3] ++ encT s) M.length s := by
  refine ⟨by simp, fun j x h => ?_⟩
  rw [List.getElem?_append_right (by simp), ← h]
  congr 1
  simp
theorem HS.new {w : World} {p q : Nat} (h : Blk w p #[.slice none 0 0, .int .i64 (q : Int), .int .i64 0] 79) (hq : q ≤ 1048576) : HS w No p none 0 [] q 0 :=
  ⟨h, Own.nil _ _ _ _, fun h => h, fun k h => h.elim, ⟨Nat.zero_le _, hq⟩, by omega⟩
def abc : List UInt8 := [97, 98, 99]
def xyz : List UInt8 := [120, 121, 122]
theorem leftM2a : leftM 2 (textN abc) [] = [] ∧ leftN 2 (textN abc) [] 0 = 0 := by decide
theorem leftM2b : leftM 2 (textN xyz) ([] ++ [abc.length * 256 + 3] ++ encT abc) = [] ∧ leftN 2 (textN xyz) ([] ++ [abc.length * 256 + 3] ++ encT abc) 0 = 1 := by decide
set_option maxHeartbeats 1000000 in
theorem awake_ok {w : World} : Ret Tryd.prog 9 #[] w fun v w' => v = .bool true ∧ Upd No w w' := by
  refine enterRet (vs := []) (N := 57) Tryd.func9 rfl rfl rfl ?_
  have hU := Upd.refl No w
  refine WC.keep [] trivial ?_
  refine WC.seq ?_
  refine WC.region ?_
  refine WL.val rfl rfl rfl rfl (r_assign rfl ev_c) ?_
  refine WL.nil ?_
  refine WX.keep [] trivial ?_
  refine WX.next ?_
  refine WC.seq ?_
  refine WC.region ?_
  refine WL.cons (SO.call (new_ok (q := 2) (by simp only [inK]; omega)) rfl body_11 ⟨ev_c, trivial⟩ rfl rfl rfl rfl ?_)
  rintro v w1 ⟨-, h2, hu1⟩
  obtain ⟨rfl, hb⟩ := h2 (by omega)
  have hs1 := hu1.size
  replace hU := hU.trans hu1 (by exact (fun _ _ h => h))
  have hH := HS.new (q := 2) hb (by omega)
  generalize hp : w.heap.size = p at *
  refine WL.val rfl rfl rfl rfl (r_move rfl (ev_t rfl)) ?_
  refine WL.val rfl rfl rfl rfl (r_extract rfl (ev_t rfl) rfl) ?_
  refine WL.val rfl rfl rfl rfl (r_extract rfl (ev_t rfl) rfl) ?_
  refine WL.val rfl rfl rfl rfl (r_assign rfl (ev_t rfl)) ?_
  refine WL.val rfl rfl rfl rfl (r_assign rfl (ev_t rfl)) ?_
  refine WL.nil ?_
  refine WX.keep [(1, _), (2, _)] ⟨rfl, rfl, trivial⟩ ?_
  refine WX.next ?_
  refine WC.seq ?_
  refine WC.seq ?_
  refine WC.region ?_
  refine WL.val rfl rfl rfl rfl (r_move rfl (ev_t rfl)) ?_
  refine WL.val rfl rfl rfl rfl (r_neq rfl (ev_t rfl) ev_c) ?_
  refine WL.val rfl rfl rfl rfl (r_move rfl (ev_t rfl)) ?_
  refine WL.cases 14 rfl (fun hb2_2 => ?_) (fun hb2_2 => ?_)
  · try (exfalso; first | (simp at hb2_2; done) | (simp only [decide_eq_true_eq, decide_eq_false_iff_not, Bool.not_eq_true', Bool.not_eq_false', Bool.not_eq_true, Bool.not_eq_false] at hb2_2; omega) | omega)
  · try (exfalso; first | (simp at hb2_2; done) | (simp only [decide_eq_true_eq, decide_eq_false_iff_not, Bool.not_eq_true', Bool.not_eq_false', Bool.not_eq_true, Bool.not_eq_false] at hb2_2; omega) | omega)
    all_goals
     try simp only [decide_eq_true_eq, decide_eq_false_iff_not, Bool.not_eq_true', Bool.not_eq_false', Bool.not_eq_true, Bool.not_eq_false, Option.isNone_none, Option.isNone_some, Option.isSome_none, Option.isSome_some, ne_eq, Decidable.not_not] at hb2_2
     refine WL.val rfl rfl rfl rfl (r_move rfl (ev_t rfl)) ?_
     refine WL.val rfl rfl rfl rfl (r_eqlPtrNil rfl (ev_t rfl) ev_c ptr_26) ?_
     refine WL.val rfl rfl rfl rfl (r_pickF rfl (ev_t rfl) (ev_t rfl)) ?_
     refine WL.nil ?_
     refine WX.keep [(1, _), (17, _)] ⟨rfl, rfl, trivial⟩ ?_
     refine WX.next ?_
     refine WC.cond rfl (ev_t rfl) (fun hc2 => ?_) (fun hc2 => ?_)
     · try simp only [decide_eq_true_eq, decide_eq_false_iff_not, Bool.not_eq_true', Bool.not_eq_false', Bool.not_eq_true, Bool.not_eq_false, Option.isNone_none, Option.isNone_some, Option.isSome_none, Option.isSome_some, ne_eq, Decidable.not_not] at hc2
       exfalso
       simp_all
     · try (exfalso; first | (simp at hc2; done) | (simp only [decide_eq_true_eq, decide_eq_false_iff_not, Bool.not_eq_true', Bool.not_eq_false', Bool.not_eq_true, Bool.not_eq_false] at hc2; omega) | omega)
       all_goals
        try simp only [decide_eq_true_eq, decide_eq_false_iff_not, Bool.not_eq_true', Bool.not_eq_false', Bool.not_eq_true, Bool.not_eq_false, Option.isNone_none, Option.isNone_some, Option.isSome_none, Option.isSome_some, ne_eq, Decidable.not_not] at hc2
        refine WC.skip ?_
        refine WX.next ?_
        refine WC.seq ?_
        refine WC.region ?_
        refine WL.val rfl rfl rfl rfl (r_move rfl (ev_t rfl)) ?_
        refine WL.cons (SO.call (puttext_ok (s := abc) hH (by omega) (by decide)) rfl body_12 ⟨(ev_t rfl), ev_c, ev_c, trivial⟩ rfl rfl rfl rfl ?_)
        rintro v w2 ⟨G1, A1, c1, mem1, hH1, hG1, hu2, h3, -⟩
        obtain ⟨h1a, h1b⟩ := leftM2a
        rw [h1a] at h3
        rw [h1b] at hH1
        obtain ⟨rfl, rfl⟩ := h3 (by decide)
        have hs2 := hu2.size
        replace hU := hU.trans hu2 (by (intro k hl hk; first | exact (show False from hk).elim | (rcases hk with hk | hk; omega; exact (show False from hk).elim) | (rcases hk with hk | hk; omega; have h9 := hG1 k hk; rcases h9 with h9 | h9; exact (show False from h9).elim; omega)))
        have hH := hH1
        refine WL.val rfl rfl rfl rfl (r_move rfl (ev_t rfl)) ?_
        refine WL.val rfl rfl rfl rfl (r_extract rfl (ev_t rfl) rfl) ?_
        refine WL.val rfl rfl rfl rfl (r_extract rfl (ev_t rfl) rfl) ?_
        refine WL.val rfl rfl rfl rfl (r_assign rfl (ev_t rfl)) ?_
        refine WL.val rfl rfl rfl rfl (r_assign rfl (ev_t rfl)) ?_
        refine WL.nil ?_
        refine WX.keep [(1, _), (3, _), (4, _)] ⟨rfl, rfl, rfl, trivial⟩ ?_
        refine WX.next ?_
        refine WC.seq ?_
        refine WC.region ?_
        refine WL.val rfl rfl rfl rfl (r_move rfl (ev_t rfl)) ?_
        refine WL.val rfl rfl rfl rfl (r_move rfl (ev_t rfl)) ?_
        refine WL.cons (SO.call (text_ok hH (textAt_put [] abc) (by decide)) rfl body_15 ⟨(ev_t rfl), (ev_t rfl), trivial⟩ rfl rfl rfl rfl ?_)
        rintro v w3 ⟨rfl, hu3⟩
        have hs3 := hu3.size
        replace hU := hU.trans hu3 (by exact (fun _ _ h => h))
        replace hH := hH.upd hu3 (fun k hk hl hS => (show False from hS).elim)
        refine WL.val rfl rfl rfl rfl (r_assign rfl (ev_t rfl)) ?_
        refine WL.nil ?_
        refine WX.keep [(1, _), (4, _), (5, _)] ⟨rfl, rfl, rfl, trivial⟩ ?_
        refine WX.next ?_
        refine WC.seq ?_
        refine WC.region ?_
        refine WL.val rfl rfl rfl rfl (r_move rfl (ev_t rfl)) ?_
        refine WL.cons (SO.call (puttext_ok (s := xyz) hH (by omega) (by decide)) rfl body_12 ⟨(ev_t rfl), ev_c, ev_c, trivial⟩ rfl rfl rfl rfl ?_)
        rintro v w4 ⟨G2, A2, c2, mem2, hH2, hG2, hu4, h3, -⟩
        obtain ⟨h1a, h1b⟩ := leftM2b
        rw [h1a] at h3
        rw [h1b] at hH2
        obtain ⟨rfl, rfl⟩ := h3 (by decide)
        have hs4 := hu4.size
        replace hU := hU.trans hu4 (by (intro k hl hk; first | exact (show False from hk).elim | (rcases hk with hk | hk; omega; exact (show False from hk).elim) | (rcases hk with hk | hk; omega; have h9 := hG1 k hk; rcases h9 with h9 | h9; exact (show False from h9).elim; omega)))
        have hH := hH2
        refine WL.val rfl rfl rfl rfl (r_move rfl (ev_t rfl)) ?_
        refine WL.val rfl rfl rfl rfl (r_extract rfl (ev_t rfl) rfl) ?_
        refine WL.val rfl rfl rfl rfl (r_extract rfl (ev_t rfl) rfl) ?_
        refine WL.val rfl rfl rfl rfl (r_assign rfl (ev_t rfl)) ?_
        refine WL.val rfl rfl rfl rfl (r_assign rfl (ev_t rfl)) ?_
        refine WL.nil ?_
        refine WX.keep [(1, _), (4, _), (5, _), (6, _), (7, _)] ⟨rfl, rfl, rfl, rfl, rfl, trivial⟩ ?_
        refine WX.next ?_
        refine WC.seq ?_
        refine WC.region ?_
        refine WL.val rfl rfl rfl rfl (r_move rfl (ev_t rfl)) ?_
        refine WL.val rfl rfl rfl rfl (r_eql rfl (ev_t rfl) ev_c) ?_
        refine WL.val rfl rfl rfl rfl (r_move rfl (ev_t rfl)) ?_
        refine WL.cases 33 rfl (fun hb7_2 => ?_) (fun hb7_2 => ?_)
        · try (exfalso; first | (simp at hb7_2; done) | (simp only [decide_eq_true_eq, decide_eq_false_iff_not, Bool.not_eq_true', Bool.not_eq_false', Bool.not_eq_true, Bool.not_eq_false] at hb7_2; omega) | omega)
          all_goals
           try simp only [decide_eq_true_eq, decide_eq_false_iff_not, Bool.not_eq_true', Bool.not_eq_false', Bool.not_eq_true, Bool.not_eq_false, Option.isNone_none, Option.isNone_some, Option.isSome_none, Option.isSome_some, ne_eq, Decidable.not_not] at hb7_2
           refine WL.val rfl rfl rfl rfl (r_move rfl (ev_t rfl)) ?_
           refine WL.val rfl rfl rfl rfl (r_eql rfl (ev_t rfl) ev_c) ?_
           refine WL.val rfl rfl rfl rfl (r_pickT rfl (ev_t rfl) (ev_t rfl)) ?_
           refine WL.val rfl rfl rfl rfl (r_move rfl (ev_t rfl)) ?_
           refine WL.cases 37 rfl (fun hb7_6 => ?_) (fun hb7_6 => ?_)
           · try (exfalso; first | (simp at hb7_6; done) | (simp only [decide_eq_true_eq, decide_eq_false_iff_not, Bool.not_eq_true', Bool.not_eq_false', Bool.not_eq_true, Bool.not_eq_false] at hb7_6; omega) | omega)
             all_goals
              try simp only [decide_eq_true_eq, decide_eq_false_iff_not, Bool.not_eq_true', Bool.not_eq_false', Bool.not_eq_true, Bool.not_eq_false, Option.isNone_none, Option.isNone_some, Option.isSome_none, Option.isSome_some, ne_eq, Decidable.not_not] at hb7_6
              refine WL.val rfl rfl rfl rfl (r_move rfl (ev_t rfl)) ?_
              refine WL.val rfl rfl rfl rfl (r_eqlStr rfl (ev_t rfl) ev_c) ?_
              refine WL.val rfl rfl rfl rfl (r_pickT rfl (ev_t rfl) (ev_t rfl)) ?_
              refine WL.val rfl rfl rfl rfl (r_move rfl (ev_t rfl)) ?_
              refine WL.cases 41 rfl (fun hb7_10 => ?_) (fun hb7_10 => ?_)
              · try (exfalso; first | (simp at hb7_10; done) | (simp only [decide_eq_true_eq, decide_eq_false_iff_not, Bool.not_eq_true', Bool.not_eq_false', Bool.not_eq_true, Bool.not_eq_false] at hb7_10; omega) | omega)
                all_goals
                 try simp only [decide_eq_true_eq, decide_eq_false_iff_not, Bool.not_eq_true', Bool.not_eq_false', Bool.not_eq_true, Bool.not_eq_false, Option.isNone_none, Option.isNone_some, Option.isSome_none, Option.isSome_some, ne_eq, Decidable.not_not] at hb7_10
                 refine WL.val rfl rfl rfl rfl (r_move rfl (ev_t rfl)) ?_
                 refine WL.val rfl rfl rfl rfl (r_move rfl (ev_t rfl)) ?_
                 refine WL.cons (SO.call (text_ok hH (textAt_put [] xyz) (by decide)) rfl body_15 ⟨(ev_t rfl), (ev_t rfl), trivial⟩ rfl rfl rfl rfl ?_)
                 rintro v w5 ⟨rfl, hu5⟩
                 have hs5 := hu5.size
                 replace hU := hU.trans hu5 (by exact (fun _ _ h => h))
                 replace hH := hH.upd hu5 (fun k hk hl hS => (show False from hS).elim)
                 refine WL.val rfl rfl rfl rfl (r_eqlStr rfl (ev_t rfl) ev_c) ?_
                 refine WL.val rfl rfl rfl rfl (r_pickT rfl (ev_t rfl) (ev_t rfl)) ?_
                 refine WL.val rfl rfl rfl rfl (r_move rfl (ev_t rfl)) ?_
                 refine WL.cases 47 rfl (fun hb7_16 => ?_) (fun hb7_16 => ?_)
                 · try (exfalso; first | (simp at hb7_16; done) | (simp only [decide_eq_true_eq, decide_eq_false_iff_not, Bool.not_eq_true', Bool.not_eq_false', Bool.not_eq_true, Bool.not_eq_false] at hb7_16; omega) | omega)
                   all_goals
                    try simp only [decide_eq_true_eq, decide_eq_false_iff_not, Bool.not_eq_true', Bool.not_eq_false', Bool.not_eq_true, Bool.not_eq_false, Option.isNone_none, Option.isNone_some, Option.isSome_none, Option.isSome_some, ne_eq, Decidable.not_not] at hb7_16
                    refine WL.val rfl rfl rfl rfl (r_move rfl (ev_t rfl)) ?_
                    refine WL.cons (SO.call (used_ok hH) rfl body_23 ⟨(ev_t rfl), trivial⟩ rfl rfl rfl rfl ?_)
                    rintro v w6 ⟨rfl, rfl⟩
                    refine WL.val rfl rfl rfl rfl (r_eql rfl (ev_t rfl) ev_c) ?_
                    refine WL.val rfl rfl rfl rfl (r_pickT rfl (ev_t rfl) (ev_t rfl)) ?_
                    refine WL.val rfl rfl rfl rfl (r_move rfl (ev_t rfl)) ?_
                    refine WL.cases 52 rfl (fun hb7_21 => ?_) (fun hb7_21 => ?_)
                    · try (exfalso; first | (simp at hb7_21; done) | (simp only [decide_eq_true_eq, decide_eq_false_iff_not, Bool.not_eq_true', Bool.not_eq_false', Bool.not_eq_true, Bool.not_eq_false] at hb7_21; omega) | omega)
                      all_goals
                       try simp only [decide_eq_true_eq, decide_eq_false_iff_not, Bool.not_eq_true', Bool.not_eq_false', Bool.not_eq_true, Bool.not_eq_false, Option.isNone_none, Option.isNone_some, Option.isSome_none, Option.isSome_some, ne_eq, Decidable.not_not] at hb7_21
                       refine WL.val rfl rfl rfl rfl (r_move rfl (ev_t rfl)) ?_
                       refine WL.cons (SO.call (count_ok hH) rfl body_29 ⟨(ev_t rfl), trivial⟩ rfl rfl rfl rfl ?_)
                       rintro v w7 ⟨rfl, rfl⟩
                       refine WL.val rfl rfl rfl rfl (r_eql rfl (ev_t rfl) ev_c) ?_
                       refine WL.val rfl rfl rfl rfl (r_pickT rfl (ev_t rfl) (ev_t rfl)) ?_
                       refine WL.val rfl rfl rfl rfl (r_assign rfl (ev_t rfl)) ?_
                       refine WL.nil ?_
                       refine WX.keep [(0, _)] ⟨rfl, trivial⟩ ?_
                       refine WX.next ?_
                       refine WC.ret ?_
                       refine WX.retE1 rfl rfl ?_
                       refine ⟨?_, hU⟩
                       rfl
                    · try simp only [decide_eq_true_eq, decide_eq_false_iff_not, Bool.not_eq_true', Bool.not_eq_false', Bool.not_eq_true, Bool.not_eq_false, Option.isNone_none, Option.isNone_some, Option.isSome_none, Option.isSome_some, ne_eq, Decidable.not_not] at hb7_21
                      exfalso
                      exact absurd hb7_21 (by decide)
                 · try simp only [decide_eq_true_eq, decide_eq_false_iff_not, Bool.not_eq_true', Bool.not_eq_false', Bool.not_eq_true, Bool.not_eq_false, Option.isNone_none, Option.isNone_some, Option.isSome_none, Option.isSome_some, ne_eq, Decidable.not_not] at hb7_16
                   exfalso
                   exact hb7_16 rfl
              · try simp only [decide_eq_true_eq, decide_eq_false_iff_not, Bool.not_eq_true', Bool.not_eq_false', Bool.not_eq_true, Bool.not_eq_false, Option.isNone_none, Option.isNone_some, Option.isSome_none, Option.isSome_some, ne_eq, Decidable.not_not] at hb7_10
                exfalso
                exact hb7_10 rfl
           · try simp only [decide_eq_true_eq, decide_eq_false_iff_not, Bool.not_eq_true', Bool.not_eq_false', Bool.not_eq_true, Bool.not_eq_false, Option.isNone_none, Option.isNone_some, Option.isSome_none, Option.isSome_some, ne_eq, Decidable.not_not] at hb7_6
             exfalso
             exact absurd hb7_6 (by decide)
        · try (exfalso; first | (simp at hb7_2; done) | (simp only [decide_eq_true_eq, decide_eq_false_iff_not, Bool.not_eq_true', Bool.not_eq_false', Bool.not_eq_true, Bool.not_eq_false] at hb7_2; omega) | omega)
end Go.Proofs.YtdpnnclkkbfihaaDoor

/-
  heap: a list of strings as an argument; texts one behind the other as words. Plain, but for the opening.
-/
namespace Go.Proofs.YtdpnnclkkbfihaaDoor
open Go
set_option linter.unusedSimpArgs false
set_option linter.unusedVariables false

def Str (s : List UInt8) : Value := .string ⟨s.toArray⟩
theorem rep_strs {P : Program} {W : World} {t e : TypeId} {v : Value} (h : ∃ f, Rep P W f t [v]) (ht : P.underlying t = some (.slice e)) (he : P.underlying e = some .string) (hc : P.cellsOf e = 1) (hb : 0 < P.bytesOf e) :
    ∃ l : List (List UInt8), Rd W (fun k => k < W.heap.size) v l.length 1 (l.map Str) ∧ ∀ s ∈ l, s.length ≤ 140737488351232 := by
  obtain ⟨f, h⟩ := h
  obtain ⟨v', l, g, _, h1, h2, h3, h4⟩ := h.list (fun s : List UInt8 => [Str s]) (fun _ s => s.length ≤ 140737488351232) ht (by omega) hb (fun g cs _ hr => by
    obtain ⟨s, h1, h2⟩ := hr.str he
    exact ⟨s, h1, h2⟩)
  simp only [List.cons.injEq, and_true] at h1
  subst h1
  rw [hc, flatMap_single] at h3
  exact ⟨l, h3, h4⟩

/-- texts as words, one behind the other -/
def memT : List (List UInt8) → List Nat
  | [] => []
  | s :: l => ((s.length * 256 + 3) :: encT s) ++ memT l
theorem memT_app : ∀ (a b : List (List UInt8)), memT (a ++ b) = memT a ++ memT b
  | [], b => rfl
  | s :: a, b => by simp [memT, memT_app a b]
theorem memT_snoc (a : List (List UInt8)) (s : List UInt8) : memT (a ++ [s]) = memT a ++ [s.length * 256 + 3] ++ encT s := by
  rw [memT_app]; simp [memT]
def placeT (l : List (List UInt8)) (i : Nat) : Nat := (memT (l.take i)).length
theorem memT_le : ∀ (l : List (List UInt8)), (∀ s ∈ l, s.length ≤ 1000) → (memT l).length ≤ 126 * l.length
  | [], _ => by simp [memT]
  | s :: l, h => by
    have h1 := memT_le l (fun x hx => h x (by simp [hx]))
    have h2 := h s (by simp)
    simp only [memT, List.length_append, List.length_cons, encT_len]
    omega
theorem TextAt.app {mem r : List Nat} {a : Nat} {s : List UInt8} (h : TextAt mem a s) : TextAt (mem ++ r) a s := by
  refine ⟨?_, fun j x hj => ?_⟩
  · rw [List.getElem?_append_left (List.getElem?_eq_some_iff.1 h.1).1]; exact h.1
  · have h2 := h.2 j x hj
    rw [List.getElem?_append_left (List.getElem?_eq_some_iff.1 h2).1]; exact h2
theorem textAt_mem {l : List (List UInt8)} {i : Nat} {s : List UInt8} (h : l[i]? = some s) : TextAt (memT l) (placeT l i) s := by
  have hi : i < l.length := (List.getElem?_eq_some_iff.1 h).1
  have e : l = l.take i ++ [s] ++ l.drop (i + 1) := by
    have h1 : l[i] = s := by rw [List.getElem?_eq_getElem hi] at h; exact Option.some.inj h
    rw [← h1]
    simp
  have h2 : TextAt (memT (l.take i) ++ [s.length * 256 + 3] ++ encT s ++ memT (l.drop (i + 1))) (memT (l.take i)).length s := TextAt.app (textAt_put _ s)
  have e2 : memT l = memT (l.take i) ++ [s.length * 256 + 3] ++ encT s ++ memT (l.drop (i + 1)) := by
    rw [← memT_snoc, ← memT_app, ← e]
  rw [e2]
  exact h2
end Go.Proofs.YtdpnnclkkbfihaaDoor
