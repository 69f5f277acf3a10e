/-
  More operations: complex numbers, floats, structs of two cells, a result that lies in a cell.
-/
import Derived.Test.YtomkdhkkggbioaaGreatDoorFh
import Derived.Test.YtomkdhkkggbioaaGreatDoorFlo
namespace Go.Proofs.YtomkdhkkggbioaaGreatDoor
open Go
set_option linter.unusedSimpArgs false
set_option linter.unusedVariables false

section
variable {P : Program} {ρ : Operand → Value} {o : Oper} {w : World} {x y : Operand} {t u : TypeId} {k : IntKind}

theorem r_cmul {a b c d re im : Nat} (ho : o.op = .binOp .mul t x y u) (hx : ρ x = .complex .f64 a b) (hy : ρ y = .complex .f64 c d) (h : cMulBits a b c d = some (re, im)) : (execOp ρ o).run P w = .ok (.value (.complex .f64 re im)) w := by
  have h1 := run_complex_mul (P := P) w t a b c d re im h
  simp [execOp, ho, hx, hy, h1, eqGuard]
theorem r_cadd {a b c d re im : Nat} (ho : o.op = .binOp .add t x y u) (hx : ρ x = .complex .f64 a b) (hy : ρ y = .complex .f64 c d) (h : cSumBits .add .f64 a b c d = some (re, im)) : (execOp ρ o).run P w = .ok (.value (.complex .f64 re im)) w := by
  have h1 := run_complex_sum (P := P) w .add (.inl rfl) t .f64 a b c d re im h
  simp [execOp, ho, hx, hy, h1, eqGuard]
theorem r_ceql {a b c d : Nat} (ho : o.op = .binOp .eql t x y u) (hx : ρ x = .complex .f64 a b) (hy : ρ y = .complex .f64 c d) :
    (execOp ρ o).run P w = .ok (.value (.bool ((FloatKind.f64.format.order a c == some .eq) && (FloatKind.f64.format.order b d == some .eq)))) w := by
  have h1 := run_eql_complex (P := P) w t .f64 a b c d
  simp only [execOp, ho, hx, hy, Sem.run_bind, h1, Result.andThen_ok, Sem.run_pure, eqGuard]
  simp [h1, go_sem]
theorem r_itof {a : Int} (ho : o.op = .convert t u x) (hx : ρ x = .int k a) (hs : (P.underlying t).isSome = true) (hd : P.underlying u = some (.float .f64)) : (execOp ρ o).run P w = .ok (.value (.float .f64 (floatOfInt .f64 a))) w := by
  have h1 := run_convert_int_float (P := P) w t u k .f64 a hs hd
  simp only [execOp, ho, hx, Sem.run_bind, h1, Result.andThen_ok, Sem.run_pure]
theorem r_ftoi {b : Nat} {a : Int} (ho : o.op = .convert t u x) (hx : ρ x = .float .f64 b) (hs : (P.underlying t).isSome = true) (hd : P.underlying u = some (.int .i64)) (h : FI b a) (ha : a.natAbs < 9007199254740992) : (execOp ρ o).run P w = .ok (.value (.int .i64 a)) w := by
  have hv : floatToIntVal .f64 b .i64 = some a := by
    have h1 : (FloatKind.f64.decode b).toInt .zero = some a := toInt_FI h
    unfold floatToIntVal
    rw [h1]
    simp only [IntKind.min, IntKind.max, IntKind.signed, IntKind.bits]
    exact if_pos (by constructor <;> simp <;> omega)
  have h1 := run_convert_float_int (P := P) w t u .f64 .i64 b a hs hd hv
  simp only [execOp, ho, hx, Sem.run_bind, h1, Result.andThen_ok, Sem.run_pure]

theorem r_complexB {a b : Nat} {ts : Array TypeId} (ho : o.op = .call { callee := .builtin .complex, args := #[x, y], argTypes := ts }) (hx : ρ x = .float .f64 a) (hy : ρ y = .float .f64 b) : (execOp ρ o).run P w = .ok (.value (.complex .f64 a b)) w := by
  simp [execOp, ho, resolve, invoke, builtin, hx, hy, run_complex]
theorem r_realB {a b : Nat} {ts : Array TypeId} (ho : o.op = .call { callee := .builtin .real, args := #[x], argTypes := ts }) (hx : ρ x = .complex .f64 a b) : (execOp ρ o).run P w = .ok (.value (.float .f64 a)) w := by
  simp [execOp, ho, resolve, invoke, builtin, hx, run_real]
theorem r_imagB {a b : Nat} {ts : Array TypeId} (ho : o.op = .call { callee := .builtin .imag, args := #[x], argTypes := ts }) (hx : ρ x = .complex .f64 a b) : (execOp ρ o).run P w = .ok (.value (.float .f64 b)) w := by
  simp [execOp, ho, resolve, invoke, builtin, hx, run_imag]

theorem r_store2 {g off : Nat} {v0 v1 : Value} {cs : Array Value} {T : TypeId} (ho : o.op = .store t x y) (hx : ρ x = .pointer (some ⟨g, off, none⟩)) (hy : ρ y = .agg #[v0, v1]) (hz : sizeIs P t 2 = true) (hb : Blk w g cs T) (hlt : Nat.blt (off + 1) cs.size = true) (h0 : v0.oneCell' = true) (h1 : v1.oneCell' = true) :
    (execOp ρ o).run P w = .ok .skip ((w.setCell ⟨g, off, none⟩ v0).setCell ⟨g, off + 1, none⟩ v1) := by
  have hlt' : off + 1 < cs.size := Eq.mp Nat.blt_eq hlt
  have hc0 := hb.cell (o := off) (v := cs[off]) (by simp)
  have hf0 := hb.free off
  have hst0 := run_store_cell (P := P) hc0 hf0 h0
  have hb1 := hb.set off v0
  have hc1 := hb1.cell (o := off + 1) (v := cs[off + 1]) (by rw [Array.getElem?_setIfInBounds_ne (by omega)]; simp [hlt'])
  have hf1 := hb1.free (off + 1)
  have hst1 := run_store_cell (P := P) hc1 hf1 h1
  have ha0 : (Addr.mk g off none).add 0 = ⟨g, off, none⟩ := rfl
  have ha1 : (Addr.mk g off none).add 1 = ⟨g, off + 1, none⟩ := rfl
  simp [execOp, ho, hx, hy, Instr.storeAt, Instr.sureAddr, storeVar, run_sizeOf hz, storeCells, Value.cells, ha0, ha1, hst0, hst1]
end

section
variable {P : Program} {o : Oper} {w : World} {x y : Operand} {t : TypeId} {N : Nat} {ops : Array Oper} {Q : Exit → Act → World → Prop} {K : Env → World → Prop} {E : Env}
theorem SO.store2 {g off : Nat} {v0 v1 : Value} {cs : Array Value} {T : TypeId} (hop : o.op = .store t x y) (hx : Env.ev E x = .pointer (some ⟨g, off, none⟩)) (hy : Env.ev E y = .agg #[v0, v1]) (hz : sizeIs P t 2 = true) (hb : Blk w g cs T) (hlt : Nat.blt (off + 1) cs.size = true) (h0 : v0.oneCell' = true) (h1 : v1.oneCell' = true)
    (hd : o.dst = none) (ho : opsOK E o = true) (hw : wantedE ops E o = some true)
    (k : ∀ w', Upd (At g) w w' → Blk w' g ((cs.setIfInBounds off v0).setIfInBounds (off + 1) v1) T → w'.heap.size = w.heap.size → K E w') : SO P N ops Q o K E w :=
  SO.eff hd ho hw (r_store2 hop hx hy hz hb hlt h0 h1) (k _ ((Upd.setCell w ⟨g, off, none⟩ v0).trans_same (Upd.setCell _ ⟨g, off + 1, none⟩ v1)) ((hb.set off v0).set (off + 1) v1) (by rw [World.size_setCell, World.size_setCell]))
end

section
variable {P : Program} {N : Nat} {E : Env} {w : World} {fn : Func} {R : Value → World → Prop}
theorem result_cell {a : Act} (h : Sat N E a) {b : Nat} {t : TypeId} {p : Addr} {vs : List Value} (hl : fn.results = #[.cell b t]) (hr : Env.get E b = some (.pointer (some p))) (ht : aggB P t = true) (hn : sizeIs P t vs.length = true) (hc : CellsAt w p vs) :
    (results fn a.tmps).run P w = .ok (.agg vs.toArray) w := by
  have h3 : a.tmps[b]?.getD undef = .pointer (some p) := by rw [h.vals b _ hr]; rfl
  have hl2 := run_loadCells_list (P := P) w p vs hc
  simp only [loadCells] at hl2
  unfold results
  rw [hl]
  simp [h3, asAddr, loadVar, run_isAgg_agg ht, run_sizeOf hn, hl2, go_sem]
theorem WX.retC {b : Nat} {t : TypeId} {p : Addr} {vs : List Value} (hl : fn.results = #[.cell b t]) (hr : Env.get E b = some (.pointer (some p))) (ht : aggB P t = true) (hn : sizeIs P t vs.length = true) (hc : CellsAt w p vs) (k : R (.agg vs.toArray) w) :
    WX N (bodyPost P fn fun e w' => ∃ v, e = .returned v ∧ R v w') .ret E w := fun a h => ⟨h.defers, _, result_cell h hl hr ht hn hc, _, rfl, k⟩
theorem WX.endC {b : Nat} {t : TypeId} {p : Addr} {vs : List Value} (hl : fn.results = #[.cell b t]) (hr : Env.get E b = some (.pointer (some p))) (ht : aggB P t = true) (hn : sizeIs P t vs.length = true) (hc : CellsAt w p vs) (k : R (.agg vs.toArray) w) :
    WX N (bodyPost P fn fun e w' => ∃ v, e = .returned v ∧ R v w') .normal E w := fun a h => ⟨h.defers, _, result_cell h hl hr ht hn hc, _, rfl, k⟩
theorem Blk.cells2 {w : World} {g : Nat} {v0 v1 : Value} {T : TypeId} (h : Blk w g #[v0, v1] T) : CellsAt w ⟨g, 0, none⟩ [v0, v1] := fun j v hj => by
  match j, hj with
  | 0, hj => simp at hj; subst hj; exact h.cell rfl
  | 1, hj => simp at hj; subst hj; exact h.cell rfl
end

section
variable {P : Program} {N : Nat} {E : Env} {w : World} {fn : Func} {R : Value → World → Prop}
/-- results, in temporaries and in cells -/
def resM (P : Program) (w : World) (E : Env) : List ResultVar → List Value → Prop
  | [], [] => True
  | .tmp t :: l, v :: vs => Env.get E t = some v ∧ resM P w E l vs
  | .cell b t :: l, v :: vs => (∃ p us, Env.get E b = some (.pointer (some p)) ∧ aggB P t = true ∧ sizeIs P t us.length = true ∧ CellsAt w p us ∧ v = .agg us.toArray) ∧ resM P w E l vs
  | _, _ => False

theorem resM_run {a : Act} (h : Sat N E a) : ∀ {l : List ResultVar} {vs : List Value}, resM P w E l vs →
    (l.mapM (m := Sem) fun r => match r with | .tmp t => pure (a.tmps.getD t undef) | .cell b t => do loadVar t (← asAddr (a.tmps.getD b undef))).run P w = .ok vs w
  | [], [], _ => by simp [go_sem]
  | [], _ :: _, h => h.elim
  | .tmp _ :: _, [], h => h.elim
  | .cell _ _ :: _, [], h => h.elim
  | .tmp t :: l, v :: vs, hr => by
    have h1 := h.vals t v hr.1
    have h2 := resM_run h hr.2
    have h3 : a.tmps[t]?.getD undef = v := by rw [h1]; rfl
    simp only [Array.getD_eq_getD_getElem?] at h2 ⊢
    simp [List.mapM_cons, h2, h3]
  | .cell b t :: l, v :: vs, hr => by
    obtain ⟨⟨p, us, hb, ht, hn, hc, rfl⟩, hr2⟩ := hr
    have h2 := resM_run h hr2
    have h3 : a.tmps[b]?.getD undef = .pointer (some p) := by rw [h.vals b _ hb]; rfl
    have hl2 := run_loadCells_list (P := P) w p us hc
    simp only [loadCells] at hl2
    simp only [Array.getD_eq_getD_getElem?] at h2 ⊢
    have e1 : (do loadVar t (← asAddr (a.tmps[b]?.getD undef)) : Sem Value).run P w = .ok (.agg us.toArray) w := by
      simp [h3, asAddr, loadVar, run_isAgg_agg ht, run_sizeOf hn, hl2, go_sem]
    rw [List.mapM_cons, Sem.run_bind, e1, Result.andThen_ok, Sem.run_bind, h2, Result.andThen_ok, Sem.run_pure]

theorem resM_results {a : Act} (h : Sat N E a) {l : List ResultVar} {vs : List Value} (hl : fn.results = l.toArray) (hr : resM P w E l vs) : (results fn a.tmps).run P w = .ok (tupleOf vs) w := by
  have h1 := resM_run (P := P) (w := w) h hr
  unfold results
  rw [hl, List.mapM_toArray]
  simp only [Sem.run_bind]
  have h2 : (Sem.run P (List.mapM (m := Sem) (fun x => match x with
    | ResultVar.tmp t => pure (a.tmps[t]?.getD undef)
    | ResultVar.cell b t => do loadVar t (← asAddr (a.tmps[b]?.getD undef))) l) w) = .ok vs w := by
    simpa only [Array.getD_eq_getD_getElem?] using h1
  simp only [Array.getD_eq_getD_getElem?]
  simp
  erw [h2]
  match vs with
  | [] => rfl
  | [v] => rfl
  | a :: b :: r => simp [tupleOf]
theorem WX.retM {l : List ResultVar} {vs : List Value} (hl : fn.results = l.toArray) (hr : resM P w E l vs) (k : R (tupleOf vs) w) :
    WX N (bodyPost P fn fun e w' => ∃ v, e = .returned v ∧ R v w') .ret E w := fun a h => ⟨h.defers, _, resM_results h hl hr, _, rfl, k⟩
end

/-- n & 3 -/
theorem bits_and3 {n : Int} (h1 : -9223372036854775808 ≤ n) (h2 : n ≤ 9223372036854775807) : bits .and .i64 n 3 = n % 4 := by
  have h : (BitVec.ofInt 64 n &&& BitVec.ofInt 64 3 : BitVec 64).toNat = (n % 4).toNat := by
    rw [BitVec.toNat_and]
    have e3 : (BitVec.ofInt 64 3).toNat = 3 := by decide
    rw [e3, show (3 : Nat) = 2 ^ 2 - 1 from rfl, Nat.and_two_pow_sub_one_eq_mod, BitVec.toNat_ofInt]
    omega
  show IntKind.i64.wrap (((BitVec.ofInt 64 n &&& BitVec.ofInt 64 3 : BitVec 64).toNat : Nat) : Int) = _
  rw [h, wrap_i64_in (by omega) (by omega)]
  omega
end Go.Proofs.YtomkdhkkggbioaaGreatDoor
