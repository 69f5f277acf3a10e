/-
  More operations: slices against nil, strings, bytes and strings, literals in memory.
-/
import Derived.Test.YtomkdhkkggbioaaGreatDoorFf
import Derived.Laws.Cover3
namespace Go.Proofs.YtomkdhkkggbioaaGreatDoor
open Go
set_option linter.unusedSimpArgs false
set_option linter.unusedVariables false

section
variable {P : Program} {ρ : Operand → Value} {o : Oper} {w : World} {x y z : Operand} {t u e : TypeId} {k k' : IntKind} {a b : Int} {F : Nat → Prop}

theorem sliceElem_und (h : sliceElem P t = some e) : P.underlying t = some (.slice e) := by
  unfold sliceElem at h
  cases hd : P.underlying t with
  | none => simp [hd] at h
  | some d => rw [hd] at h; cases d <;> simp at h; subst h; rfl

theorem run_binop_eql_slice_nil {A : Option Addr} {n c : Nat} (h : P.underlying t = some (.slice e)) : (binOp .eql t (.slice A n c) (.slice none 0 0)).run P w = .ok (.bool A.isNone) w := by
  simp only [binOp, Sem.run_bind, run_equal_slice_nil w t e A n c h, Result.andThen_ok, Sem.run_pure]
theorem run_binop_neq_slice_nil {A : Option Addr} {n c : Nat} (h : P.underlying t = some (.slice e)) : (binOp .neq t (.slice A n c) (.slice none 0 0)).run P w = .ok (.bool (!A.isNone)) w := by
  simp only [binOp, Sem.run_bind, run_equal_slice_nil w t e A n c h, Result.andThen_ok, Sem.run_pure]

theorem r_eqlSliceNil {A : Option Addr} {n c : Nat} (ho : o.op = .binOp .eql t x y u) (hx : ρ x = .slice A n c) (hy : ρ y = .slice none 0 0) (h : sliceElem P t = some e) : (execOp ρ o).run P w = .ok (.value (.bool A.isNone)) w := by
  have h1 := run_binop_eql_slice_nil (w := w) (A := A) (n := n) (c := c) (sliceElem_und h)
  simp [execOp, ho, hx, hy, h1, eqGuard]
theorem r_neqSliceNil {A : Option Addr} {n c : Nat} (ho : o.op = .binOp .neq t x y u) (hx : ρ x = .slice A n c) (hy : ρ y = .slice none 0 0) (h : sliceElem P t = some e) : (execOp ρ o).run P w = .ok (.value (.bool (!A.isNone))) w := by
  have h1 := run_binop_neq_slice_nil (w := w) (A := A) (n := n) (c := c) (sliceElem_und h)
  simp [execOp, ho, hx, hy, h1, eqGuard]

theorem r_eqlStr {s s' : ByteArray} (ho : o.op = .binOp .eql t x y u) (hx : ρ x = .string s) (hy : ρ y = .string s') : (execOp ρ o).run P w = .ok (.value (.bool (decide (s.toList = s'.toList)))) w := by
  simp [execOp, ho, hx, hy, go_sem]; rw [Bool.eq_iff_iff]; simp
theorem r_neqStr {s s' : ByteArray} (ho : o.op = .binOp .neq t x y u) (hx : ρ x = .string s) (hy : ρ y = .string s') : (execOp ρ o).run P w = .ok (.value (.bool (decide (s.toList ≠ s'.toList)))) w := by
  simp [execOp, ho, hx, hy, go_sem]; rw [Bool.eq_iff_iff]; simp
theorem r_lssStr {s s' : ByteArray} (ho : o.op = .binOp .lss t x y u) (hx : ρ x = .string s) (hy : ρ y = .string s') : (execOp ρ o).run P w = .ok (.value (.bool (Op.bytesLess s.toList s'.toList))) w := by
  simp [execOp, ho, hx, hy, go_sem]
theorem r_addStr {s s' : ByteArray} (ho : o.op = .binOp .add t x y u) (hx : ρ x = .string s) (hy : ρ y = .string s') (h : s.size + s'.size ≤ 9223372036854775807) : (execOp ρ o).run P w = .ok (.value (.string (s ++ s'))) w := by
  have h1 := run_string_add_sum (P := P) w s s' h
  simp [execOp, ho, hx, hy, binOp, h1, go_sem]

theorem r_com (ho : o.op = .unOp .xor t x) (hx : ρ x = .int k a) : (execOp ρ o).run P w = .ok (.value (.int k (bits .xor k (if k.signed = true then -1 else k.max) a))) w := by
  simp [execOp, ho, hx, Op.unary, go_sem]

theorem r_eqlBool {c d : Bool} (ho : o.op = .binOp .eql t x y u) (hx : ρ x = .bool c) (hy : ρ y = .bool d) (h : P.underlying t = some .bool) : (execOp ρ o).run P w = .ok (.value (.bool (c == d))) w := by
  have h1 := run_eql_bool (P := P) w t c d h
  simp [execOp, ho, hx, hy, h1, eqGuard]
theorem r_neqBool {c d : Bool} (ho : o.op = .binOp .neq t x y u) (hx : ρ x = .bool c) (hy : ρ y = .bool d) (h : P.underlying t = some .bool) : (execOp ρ o).run P w = .ok (.value (.bool (!(c == d)))) w := by
  have h1 : (Op.equal t (.bool c) (.bool d)).run P w = .ok (c == d) w := by
    simp only [Op.equal, Op.maxDepth]
    exact run_equalIn_bool' _ _ _ _ _ h
  simp [execOp, ho, hx, hy, binOp, h1, eqGuard]

/-- bytes as a string -/
theorem r_toStr {v : Value} {n : Nat} {l : List UInt8} (ho : o.op = .convert t u x) (hx : ρ x = v) (hr : Rd w F v n 1 (l.map U8)) (hs : sliceElem P t = some e) (he : P.underlying e = some (.int .u8)) (hd : P.underlying u = some .string) :
    (execOp ρ o).run P w = .ok (.value (.string ⟨l.toArray⟩)) w := by
  have hs' := sliceElem_und hs
  · obtain ⟨A, c, rfl, hc, hm, hl, hcell⟩ := hr
    rw [List.length_map, Nat.mul_one] at hl
    subst hl
    suffices h : (convert t u (.slice A l.length c)).run P w = .ok (.string ⟨l.toArray⟩) w by
      simp [execOp, ho, hx, h]
    by_cases h0 : l.length = 0
    · have : l = [] := List.eq_nil_of_length_eq_zero h0
      subst this
      show (convert t u (.slice A 0 c)).run P w = _
      rw [run_convert_bytes_string w t u e A 0 c hs' he hd]
      cases A with
      | none => rfl
      | some p => simp [Conv.bytesToString, loadCells, loadCellsFrom]; rfl
    · obtain ⟨b, off, rfl, _, _, hcl⟩ := hcell h0
      refine run_convert_bytes_back w t u e _ c l hs' he hd fun j hj => ?_
      rw [Addr.add_lit]
      exact hcl j _ (by simp [hj, U8])
end

section
variable {P : Program} {N : Nat} {ops : Array Oper} {Q : Exit → Act → World → Prop} {o : Oper} {E : Env} {w : World} {d : Nat} {v : Value} {K : Env → World → Prop} {F : Nat → Prop}

/-- where a struct's fields stand: offset and cells -/
def placesOf (P : Program) (t : TypeId) : Option (List (Nat × Nat)) :=
  match P.underlying t with
  | some (.struct fs) => fs.toList.mapM fun f => (P.info? f.type).map fun q => (f.offset, q.size)
  | _ => none
def zeroOf (P : Program) (t : TypeId) : Option Value := (P.info? t).bind (·.zero)
/-- an array's elements -/
def arrayOf (P : Program) (t : TypeId) : Option Nat :=
  match P.underlying t with
  | some (.array _ el) => (P.info? el).map (·.size)
  | _ => none

theorem run_mapM_list {α β : Type} {f : α → Sem β} {g : α → β} : ∀ (l : List α), (∀ x ∈ l, ∀ w, (f x).run P w = .ok (g x) w) → ∀ w, (l.mapM f).run P w = .ok (l.map g) w
  | [], _, w => by simp
  | x :: l, h, w => by
    have h1 := h x (by simp) w
    have h2 := run_mapM_list l (fun y hy => h y (by simp [hy])) w
    simp [List.mapM_cons, h1, h2]

theorem run_zeroValue {t : TypeId} {z : Value} (hz : zeroOf P t = some z) : (zeroValue t).run P w = .ok z w := by
  unfold zeroOf at hz
  cases hi : P.info? t with
  | none => simp [hi] at hz
  | some i => simp only [hi, Option.bind_some] at hz; simp [zeroValue, typeInfo, hi, hz]

theorem mapM_option {α β : Type} {f : α → Option β} : ∀ {l : List α} {r : List β}, l.mapM f = some r → r.length = l.length ∧ ∀ i : Nat, ∀ x, l[i]? = some x → f x = r[i]?
  | [], r, h => by simp at h; subst h; simp
  | a :: l, r, h => by
    simp only [List.mapM_cons, Option.bind_eq_bind, Option.bind_eq_some_iff] at h
    obtain ⟨b, hb, r', hr, h⟩ := h
    simp only [Option.pure_def, Option.some.injEq] at h
    subst h
    have := mapM_option hr
    refine ⟨by simp [this.1], fun i x hx => ?_⟩
    cases i with
    | zero => simp at hx; subst hx; simpa using hb
    | succ i => simpa using this.2 i x (by simpa using hx)

theorem run_build {t : TypeId} {parts : Array (Nat × Value)} {pl : List (Nat × Nat)} {z : Value} {cs : Array Value} (hp : placesOf P t = some pl) (hz : zeroOf P t = some z) (hb : Instr.fill (fun i => pl[i]?) z.cells parts.toList = some cs) :
    (Instr.build t parts).run P w = .ok (.agg cs) w := by
  unfold placesOf at hp
  cases hu : P.underlying t with
  | none => simp [hu] at hp
  | some d =>
    rw [hu] at hp
    cases d <;> simp at hp
    rename_i fs
    have hpl := mapM_option hp
    have hok' : ∀ f ∈ fs.toList, (P.info? f.type).isSome = true := fun f hf => by
      obtain ⟨i, hi, he⟩ := List.getElem_of_mem hf
      have h1 := hpl.2 i f (by rw [List.getElem?_eq_getElem hi, he])
      rw [List.getElem?_eq_getElem (by rw [hpl.1]; exact hi)] at h1
      cases hq : P.info? f.type with
      | none => simp [hq] at h1
      | some q => rfl
    have hm : (fs.mapM (m := Sem) fun f => do pure (f.offset, ← sizeOf f.type)).run P w = .ok (fs.map fun f => (f.offset, ((P.info? f.type).map (·.size)).getD 0)) w := by
      have h1 := run_mapM_list (P := P) (f := fun f : Field => do pure (f.offset, ← sizeOf f.type)) (g := fun f => (f.offset, ((P.info? f.type).map (·.size)).getD 0)) fs.toList (fun f hf w => by
        have := hok' f hf
        obtain ⟨q, hq⟩ := Option.isSome_iff_exists.1 this
        simp [sizeOf, typeInfo, hq]) w
      rw [Array.mapM_eq_mapM_toList]
      simp only [Sem.run_map, h1]
      simp only [Result.andThen_ok]
      exact congrArg (fun q => Result.ok q w) (Array.ext' (by simp))
    have hf : (fun (i : Nat) => (fs.map fun (f : Field) => (f.offset, ((P.info? f.type).map (·.size)).getD 0))[i]?) = (fun i => pl[i]?) := by
      funext i
      rw [Array.getElem?_map]
      cases hg : fs[i]? with
      | none =>
        have : pl.length ≤ i := by rw [hpl.1]; simpa using hg
        rw [List.getElem?_eq_none this]; rfl
      | some f =>
        have h1 := hpl.2 i f (by simpa using hg)
        rw [← h1]
        have : f ∈ fs.toList := by rw [Array.mem_toList_iff]; exact Array.mem_of_getElem? hg
        obtain ⟨q, hq⟩ := Option.isSome_iff_exists.1 (hok' f this)
        simp [hq]
    simp only [Instr.build, Sem.run_bind, run_zeroValue hz, Result.andThen_ok, run_underlying hu, hm, hf]
    simp only [hb]
    rfl

theorem run_buildA {t : TypeId} {parts : Array (Nat × Value)} {sz : Nat} {z : Value} {cs : Array Value} (hp : arrayOf P t = some sz) (hz : zeroOf P t = some z) (hb : Instr.fill (fun i => some (i * sz, sz)) z.cells parts.toList = some cs) :
    (Instr.build t parts).run P w = .ok (.agg cs) w := by
  unfold arrayOf at hp
  cases hu : P.underlying t with
  | none => simp [hu] at hp
  | some d =>
    rw [hu] at hp
    cases d <;> simp at hp
    obtain ⟨q, hq, rfl⟩ := hp
    simp [Instr.build, run_underlying hu, run_zeroValue hz, sizeOf, typeInfo, hq, hb]

def evps (E : Env) : List (Nat × Operand) → List (Nat × Value) → Prop
  | [], [] => True
  | (i, x) :: l, (j, v) :: vs => (i = j ∧ Env.ev E x = v) ∧ evps E l vs
  | _, _ => False
theorem evps_map {E : Env} : ∀ {l : List (Nat × Operand)} {vs : List (Nat × Value)}, evps E l vs → l.map (fun p => (p.1, Env.ev E p.2)) = vs
  | [], [], _ => rfl
  | (i, x) :: l, (j, v) :: vs, h => by simp [h.1.1, h.1.2, evps_map h.2]

theorem r_build {t : TypeId} {ps : Array (Nat × Operand)} {vs : List (Nat × Value)} {pl : List (Nat × Nat)} {z : Value} {cs : Array Value} (ho : o.op = .build t ps) (hv : evps E ps.toList vs) (hp : placesOf P t = some pl) (hz : zeroOf P t = some z) (hb : Instr.fill (fun i => pl[i]?) z.cells vs = some cs) :
    (execOp (Env.ev E) o).run P w = .ok (.value (.agg cs)) w := by
  have h1 : (ps.map fun (p : Nat × Operand) => (p.1, Env.ev E p.2)).toList = vs := by rw [← evps_map hv]; simp
  have h2 := run_build (P := P) (w := w) (parts := ps.map fun (p : Nat × Operand) => (p.1, Env.ev E p.2)) hp hz (by rw [h1]; exact hb)
  simp only [execOp, ho, Sem.run_bind, h2, Result.andThen_ok, Sem.run_pure]
theorem r_buildA {t : TypeId} {ps : Array (Nat × Operand)} {vs : List (Nat × Value)} {sz : Nat} {z : Value} {cs : Array Value} (ho : o.op = .build t ps) (hv : evps E ps.toList vs) (hp : arrayOf P t = some sz) (hz : zeroOf P t = some z) (hb : Instr.fill (fun i => some (i * sz, sz)) z.cells vs = some cs) :
    (execOp (Env.ev E) o).run P w = .ok (.value (.agg cs)) w := by
  have h1 : (ps.map fun (p : Nat × Operand) => (p.1, Env.ev E p.2)).toList = vs := by rw [← evps_map hv]; simp
  have h2 := run_buildA (P := P) (w := w) (parts := ps.map fun (p : Nat × Operand) => (p.1, Env.ev E p.2)) hp hz (by rw [h1]; exact hb)
  simp only [execOp, ho, Sem.run_bind, h2, Result.andThen_ok, Sem.run_pure]

/-- a new row of values that are written out -/
def rowCells (z : Value) (n : Nat) : Array Value := (List.replicate n z.cells.toList).flatten.toArray
theorem rowCells_eq (z : Value) (n sz : Nat) (hz : z.cells.size = sz) (h0 : 0 < sz) : (Array.range (n * sz)).map (z.cells[· % z.cells.size]!) = rowCells z n := by
  apply Array.ext
  · simp [rowCells, hz, List.length_flatten, List.map_replicate, List.sum_replicate_nat]
  · intro i h1 h2
    simp at h1
    simp only [Array.getElem_map, Array.getElem_range, rowCells, List.getElem_toArray]
    have hlt : i % z.cells.size < z.cells.size := Nat.mod_lt _ (by omega)
    rw [getElem!_pos z.cells (i % z.cells.size) hlt]
    have key : ∀ (n i : Nat) (h : i < (List.replicate n z.cells.toList).flatten.length), (List.replicate n z.cells.toList).flatten[i] = z.cells[i % z.cells.size]'(Nat.mod_lt _ (by omega)) := by
      intro n
      induction n with
      | zero => intro i h; simp at h
      | succ n ih =>
        intro i h
        simp only [List.replicate_succ, List.flatten_cons]
        rw [List.getElem_append]
        split
        · rename_i h3
          simp only [Array.getElem_toList]
          congr 1
          exact (Nat.mod_eq_of_lt (by simpa using h3)).symm
        · rename_i h3
          rw [ih]
          congr 1
          simp at h3 ⊢
          rw [← Nat.mod_eq_sub_mod h3]
    exact (key n i (by simpa [rowCells] using h2)).symm

theorem r_buildSlice {t e : TypeId} {by_ sz n : Nat} {z : Value} {ps : Array (Nat × Operand)} {vs : List (Nat × Value)} {cs : Array Value} (ho : o.op = .buildSlice t n ps) (hv : evps E ps.toList vs) (hr : RowT P t e sz by_ z) (hn : Nat.ble (n * sz) 16777216 = true)
    (hb : Instr.fill (fun i => some (i * sz, sz)) (rowCells z n) vs = some cs) : (execOp (Env.ev E) o).run P w = .ok (.value (.slice (some ⟨w.heap.size, 0, none⟩) n n)) (w.alloc (.cells cs e)) := by
  have h1 : (ps.map fun (p : Nat × Operand) => (p.1, Env.ev E p.2)).toList = vs := by rw [← evps_map hv]; simp
  obtain ⟨i, hi, hz, _, _⟩ := hr.parts
  have h2 := run_buildSlice (P := P) (w := w) (z := z) (n := n) (parts := ps.map fun (p : Nat × Operand) => (p.1, Env.ev E p.2)) hr.und hr.sizeIs (by simp [hi, hz]) (Nat.le_of_ble_eq_true hn) (by rw [rowCells_eq z n sz hr.cells hr.pos, h1]; exact hb)
  simp only [execOp, ho, Sem.run_bind, h2, Result.andThen_ok, Sem.run_pure]

theorem fill_one : ∀ (vs : List Value) (i : Nat) (cells : Array Value), (∀ v ∈ vs, v.oneCell' = true) → i + vs.length ≤ cells.size →
    Instr.fill (fun i => some (i * 1, 1)) cells (vs.zipIdx i |>.map fun p => (p.2, p.1)) = some (cells.toList.take i ++ vs ++ cells.toList.drop (i + vs.length)).toArray
  | [], i, cells, _, _ => by simp [Instr.fill]
  | v :: vs, i, cells, h, hl => by
    have hv := oneCell_cells (h v (by simp))
    simp only [List.length_cons] at hl
    have hi : i < cells.size := by omega
    have ih := fill_one vs (i + 1) (cells.setIfInBounds i v) (fun u hu => h u (by simp [hu])) (by simp; omega)
    simp only [List.zipIdx_cons, List.map_cons, Instr.fill, hv]
    have h1 : ¬ (1 ≠ 1 || decide (i * 1 + 1 > cells.size)) = true := by simp; omega
    simp only [List.size_toArray, List.length_cons, List.length_nil, Nat.zero_add]
    rw [if_neg h1]
    have h2 : (#[v].zipIdx.foldl (fun cs (x : Value × Nat) => cs.setIfInBounds (i * 1 + x.2) x.1) cells) = cells.setIfInBounds i v := by simp
    rw [h2, ih]
    congr 2
    simp only [Array.toList_setIfInBounds]
    rw [List.drop_set_of_lt (by omega), show i + 1 + vs.length = i + (vs.length + 1) by omega]
    have h3 : (cells.toList.set i v).take (i + 1) = cells.toList.take i ++ [v] := by
      rw [List.take_succ_eq_append_getElem (by simpa using hi)]
      simp [List.take_set_of_le]
    rw [h3]
    simp

/-- one-cell elements, all written out -/
theorem r_buildSlice1 {t e : TypeId} {by_ n : Nat} {z : Value} {ps : Array (Nat × Operand)} {vs : List Value} (ho : o.op = .buildSlice t n ps) (hv : evs E (ps.toList.map (·.2)) vs) (hi : ps.toList.map (·.1) = List.range n) (hr : RowT P t e 1 by_ z) (hn : Nat.ble n 16777216 = true)
    (h1 : vs.all Value.oneCell' = true) : (execOp (Env.ev E) o).run P w = .ok (.value (.slice (some ⟨w.heap.size, 0, none⟩) n n)) (w.alloc (.cells vs.toArray e)) := by
  have hl : vs.length = n := by
    have h2 := congrArg List.length (evs_map hv)
    have h3 := congrArg List.length hi
    simp at h2 h3
    omega
  have hps : (ps.map fun (p : Nat × Operand) => (p.1, Env.ev E p.2)).toList = (vs.zipIdx 0 |>.map fun p => (p.2, p.1)) := by
    apply List.ext_getElem?
    intro i
    have h2 := evs_map hv
    simp only [Array.toList_map, List.getElem?_map, List.getElem?_zipIdx]
    have h3 : vs[i]? = (ps.toList[i]?).map (fun p => Env.ev E p.2) := by rw [← h2]; simp [Function.comp_def]
    have h4 : (ps.toList[i]?).map (·.1) = (List.range n)[i]? := by rw [← hi]; simp
    cases hp : ps.toList[i]? with
    | none => rw [hp] at h3; simp at h3; simp [h3]
    | some p =>
      rw [hp] at h3 h4
      simp only [Option.map_some] at h3 h4
      have h5 : i < n := by
        rcases Nat.lt_or_ge i n with h | h
        · exact h
        · rw [List.getElem?_eq_none (by simpa using h)] at h4; cases h4
      rw [List.getElem?_range h5] at h4
      injection h4 with h4
      simp [h3, h4]
  obtain ⟨i, hi', hz, _, _⟩ := hr.parts
  have hfill := fill_one vs 0 (rowCells z n) (fun v hv => List.all_eq_true.1 h1 v hv) (by
    have hzc := hr.cells
    simp [rowCells, hzc, List.length_flatten, List.map_replicate, List.sum_replicate_nat, hl])
  have hb : Instr.fill (fun i => some (i * 1, 1)) (rowCells z n) (ps.map fun (p : Nat × Operand) => (p.1, Env.ev E p.2)).toList = some vs.toArray := by
    rw [hps, hfill]
    have hzc := hr.cells
    have : (rowCells z n).toList.drop (0 + vs.length) = [] := List.drop_eq_nil_of_le (by simp [rowCells, hzc, List.length_flatten, List.map_replicate, List.sum_replicate_nat, hl])
    rw [this]
    simp
  have h2 := run_buildSlice (P := P) (w := w) (z := z) (n := n) (sz := 1) (parts := ps.map fun (p : Nat × Operand) => (p.1, Env.ev E p.2)) hr.und hr.sizeIs (by simp [hi', hz]) (by have := Nat.le_of_ble_eq_true hn; omega) (by rw [rowCells_eq z n 1 hr.cells hr.pos]; exact hb)
  simp only [execOp, ho, Sem.run_bind, h2, Result.andThen_ok, Sem.run_pure]

theorem r_boxAgg {ρ : Operand → Value} {t : TypeId} {x : Operand} {cs : Array Value} (ho : o.op = .box t x) (hx : ρ x = .agg cs) : (execOp ρ o).run P w = .ok (.value (.pointer (some ⟨w.heap.size, 0, none⟩))) (w.alloc (.cells cs t)) := by
  simp [execOp, ho, hx, Instr.box, newVar, newRow, Value.cells]
theorem r_box1 {ρ : Operand → Value} {t : TypeId} {x : Operand} (ho : o.op = .box t x) (hx : ρ x = v) (h1 : v.oneCell' = true) : (execOp ρ o).run P w = .ok (.value (.pointer (some ⟨w.heap.size, 0, none⟩))) (w.alloc (.cells #[v] t)) := by
  have := oneCell_cells h1
  simp only [execOp, ho, hx, Instr.box, newVar, newRow, this]
  simp
theorem r_alloc {ρ : Operand → Value} {t : TypeId} {z : Value} (ho : o.op = .alloc t) (hz : zeroOf P t = some z) : (execOp ρ o).run P w = .ok (.value (.pointer (some ⟨w.heap.size, 0, none⟩))) (w.alloc (.cells z.cells t)) := by
  simp [execOp, ho, Instr.alloc, run_zeroValue hz, newVar, newRow]

/-- a string's bytes, in memory of their own -/
theorem SO.toBytes {x : Operand} {t u e : TypeId} {s : ByteArray} (ho' : o.op = .convert t u x) (hx : Env.ev E x = .string s) (ht : P.underlying t = some .string) (hu : sliceElem P u = some e) (he : P.underlying e = some (.int .u8)) (hm : s.size ≤ 140737488355328)
    (hd : o.dst = some d) (hN : Nat.blt d N = true) (ho : opsOK E o = true) (hw : wantedE ops E o = some true)
    (k : ∀ A c w', Rd w' (New w w') (.slice A s.size c) s.size 1 (s.toList.map U8) → Upd No w w' → K ((d, .slice A s.size c) :: E) w') : SO P N ops Q o K E w := by
  have hu' := sliceElem_und hu
  have hrun := run_bytes_of_string (P := P) w t u e s ht hu' he
  have hrun2 : (execOp (Env.ev E) o).run P w = .ok (.value (.slice (some ⟨w.heap.size, 0, none⟩) s.size (grownCap w s.size 0 e)))
      (w.drew.alloc (.cells (bytesRow s (grownCap w s.size 0 e)) e ((bytesRow s (grownCap w s.size 0 e)).size, (bytesRow s (grownCap w s.size 0 e)).size + 1))) := by
    simp only [execOp, ho', hx, Sem.run_bind, hrun, Result.andThen_ok, Sem.run_pure]
  refine SO.val hd hN ho hw hrun2 (k _ _ _ ?_ ?_)
  · have hlen : s.size ≤ grownCap w s.size 0 e := grownCap_ge _ _ _ _
    refine ⟨_, _, rfl, hlen, hm, by simp [ByteArray.toList_eq], fun _ => ⟨_, 0, rfl, ⟨Nat.le_refl _, by simp⟩, by simp, fun j u hj => ?_⟩⟩
    have hj' : j < s.size := by
      have := (List.getElem?_eq_some_iff.1 hj).1
      simpa [ByteArray.toList_eq] using this
    rw [Nat.zero_add]
    have hh : (w.drew.alloc (.cells (bytesRow s (grownCap w s.size 0 e)) e ((bytesRow s (grownCap w s.size 0 e)).size, (bytesRow s (grownCap w s.size 0 e)).size + 1))).cell? ⟨w.heap.size, j, none⟩ = (bytesRow s (grownCap w s.size 0 e))[j]? := by
      have hp : (w.drew.alloc (.cells (bytesRow s (grownCap w s.size 0 e)) e ((bytesRow s (grownCap w s.size 0 e)).size, (bytesRow s (grownCap w s.size 0 e)).size + 1))).heap[w.heap.size]? = some (.cells (bytesRow s (grownCap w s.size 0 e)) e ((bytesRow s (grownCap w s.size 0 e)).size, (bytesRow s (grownCap w s.size 0 e)).size + 1)) := heap_alloc_new w.drew _
      unfold World.cell?
      rw [hp]
      rfl
    rw [hh]
    simp only [ByteArray.toList_eq, List.getElem?_map] at hj
    simp only [bytesRow]
    rw [Array.getElem?_append_left (by simpa using hj')]
    simp only [Array.getElem?_map]
    have hd' : s.data[j]? = some s.data[j] := by rw [Array.getElem?_eq_getElem]
    have hd2 : s.data.toList[j]? = some s.data[j] := by simp
    rw [hd2] at hj
    rw [hd']
    simpa [U8] using hj
  · exact ⟨rfl, rfl, rfl, by simp, fun k hk _ => Go.RowKit.Below.heap_alloc w.drew _ k hk⟩
end
/-! a conversion of a slice to its own type: its row's mark -/
section
variable {P : Program} {o : Oper} {w : World} {x : Operand} {t e : TypeId} {N d : Nat} {ops : Array Oper} {Q : Exit → Act → World → Prop} {K : Env → World → Prop} {E : Env}

theorem heap_freeze {b n : Nat} {cs : Array Value} {T : TypeId} {z : Nat × Nat} (h : w.heap[b]? = some (.cells cs T z)) : ∃ z', (w.freeze ⟨b, n, none⟩ 1).heap[b]? = some (.cells cs T z') := by
  obtain ⟨lo, hi⟩ := z
  refine ⟨if lo == hi then (n, n + 1) else (min lo n, max hi (n + 1)), ?_⟩
  simp only [World.freeze]
  rw [if_neg (by omega)]
  simp [Array.getElem?_modify, h]

theorem Upd.freeze (w : World) (a : Addr) (n : Nat) : Upd (At a.block) w (w.freeze a n) := by
  unfold World.freeze
  split
  · exact Upd.refl _ _
  · refine ⟨rfl, rfl, rfl, by simp, fun k hk hS => ?_⟩
    have hne : ¬ a.block = k := fun h => hS h.symm
    simp [Array.getElem?_modify, hne]

theorem Rd.of_heap {F : Nat → Prop} {b n sz : Nat} {cs : Array Value} {T : TypeId} {z : Nat × Nat} (h : w.heap[b]? = some (.cells cs T z)) (hF : F b) (hn : cs.size = n * sz) (hm : n ≤ 140737488355328) : Rd w F (.slice (some ⟨b, 0, none⟩) n n) n sz cs.toList := by
  have hlt : b < w.heap.size := by
    rcases Nat.lt_or_ge b w.heap.size with h' | h'
    · exact h'
    · rw [Array.getElem?_eq_none h'] at h; cases h
  refine ⟨_, _, rfl, Nat.le_refl _, hm, by simp [hn], fun _ => ⟨b, 0, rfl, hF, hlt, fun j u hj => ?_⟩⟩
  rw [Array.getElem?_toList] at hj
  simp [World.cell?, h, hj]

theorem SO.convSS {b n c : Nat} {cs : Array Value} {T : TypeId} {z : Nat × Nat} (ho' : o.op = .convert t t x) (hx : Env.ev E x = .slice (some ⟨b, 0, none⟩) n c) (hu : sliceElem P t = some e) (he : P.underlying e = some (.int .u8)) (hb : w.heap[b]? = some (.cells cs T z))
    (hd : o.dst = some d) (hN : Nat.blt d N = true) (ho : opsOK E o = true) (hw : wantedE ops E o = some true)
    (k : ∀ w' z', Upd (At b) w w' → w'.heap[b]? = some (.cells cs T z') → w'.heap.size = w.heap.size → K ((d, .slice (some ⟨b, 0, none⟩) n c) :: E) w') : SO P N ops Q o K E w := by
  have hu' := sliceElem_und hu
  have hsh : w.shape? b = some (T, cs.size) := by simp [World.shape?, hb]
  have hrun : (execOp (Env.ev E) o).run P w = .ok (.value (.slice (some ⟨b, 0, none⟩) n c)) (w.freeze ⟨b, cs.size, none⟩ 1) := by
    simp [execOp, ho', hx, convert, run_underlying hu', run_underlying he, markStringish, shape, freeze, hsh, Sem.run]
  obtain ⟨z', hz'⟩ := heap_freeze (n := cs.size) hb
  exact SO.val hd hN ho hw hrun (k _ z' (Upd.freeze w ⟨b, cs.size, none⟩ 1) hz' (by simp [World.freeze]))
end
theorem Own.open {w : World} {F : Nat → Prop} {T : TypeId} {sz n : Nat} {v : Value} {xs : List Value} (h : Own w F T sz v n xs) (h0 : 0 < n) :
    ∃ g cap cur, v = .slice (some ⟨g, 0, none⟩) n cap ∧ Blk w g cur T ∧ F g ∧ n ≤ cap ∧ cap ≤ maxLen ∧ cur.size = cap * sz ∧ cur.toList.take (n * sz) = xs := by
  rcases h.1.2 with ⟨rfl, rfl⟩ | ⟨g, cap, cur, rfl, _, hg, hc, hm, hs, hx⟩
  · omega
  · exact ⟨g, cap, cur, rfl, hg, h.2 g rfl, hc, hm, hs, hx⟩
theorem Own.shut {w : World} {F : Nat → Prop} {T : TypeId} {sz n g cap : Nat} {cur : Array Value} (hb : Blk w g cur T) (hF : F g) (h1 : n ≤ cap) (h2 : cap ≤ maxLen) (h3 : cur.size = cap * sz) :
    Own w F T sz (.slice (some ⟨g, 0, none⟩) n cap) n (cur.toList.take (n * sz)) := by
  have hle : n * sz ≤ cap * sz := Nat.mul_le_mul_right _ h1
  refine ⟨⟨by rw [List.length_take, Array.length_toList, h3, Nat.min_eq_left hle], .inr ⟨g, cap, cur, rfl, Nat.zero_le _, hb, h1, h2, h3, rfl⟩⟩, fun k hk => ?_⟩
  simp only [Value.ownBlock, Option.some.injEq] at hk
  subst hk
  exact hF
/-! facts carried on, the side proof found by itself -/
theorem Blk.updA {w w' : World} {S : Nat → Prop} {b : Nat} {cs : Array Value} {T : TypeId} (h : Blk w b cs T) (hu : Upd S w w') (hn : ¬ S b := by first | exact (fun h => h) | with_reducible assumption | (simp only [At]; omega) | (simp only [At, New, Grow, From, No]; omega)) : Blk w' b cs T := h.upd hu hn
theorem Own.updA {w w' : World} {F S : Nat → Prop} {T : TypeId} {sz n : Nat} {v : Value} {xs : List Value} (h : Own w F T sz v n xs) (hu : Upd S w w') (hn : ∀ k, F k → k < w.heap.size → ¬ S k := by first | exact (fun _ _ _ h => h) | with_reducible assumption | (intro k hk hl hS; simp only [At] at hS; subst hS; contradiction) | (intro k hk hl hS; simp only [At] at hS; subst hS; exact Grow.old (by omega) (by assumption) hk) | (intro k hk hl hS; (try simp only [At, From, No, Grow, New] at hk hS); omega)) : Own w' F T sz v n xs := h.upd hu hn
theorem Rd.updA {w w' : World} {F S : Nat → Prop} {sz n : Nat} {v : Value} {xs : List Value} (h : Rd w F v n sz xs) (hu : Upd S w w') (hn : ∀ k, F k → k < w.heap.size → ¬ S k := by first | exact (fun _ _ _ h => h) | with_reducible assumption | (intro k hk hl hS; simp only [At] at hS; subst hS; contradiction) | (intro k hk hl hS; simp only [At] at hS; subst hS; exact Grow.old (by omega) (by assumption) hk) | (intro k hk hl hS; (try simp only [At, From, No, Grow, New] at hk hS); omega)) : Rd w' F v n sz xs := h.upd hu hn
theorem Upd.transA {S S' : Nat → Prop} {w w1 w2 : World} (h : Upd S w w1) (h' : Upd S' w1 w2) (hs : ∀ k, k < w.heap.size → S' k → S k := by first | exact (fun _ _ h => h) | exact (fun _ _ h => h.elim) | (intro k hl hk; (try simp only [At, New, Grow, From, No] at hk ⊢); omega)) : Upd S w w2 := h.trans h' hs
end Go.Proofs.YtomkdhkkggbioaaGreatDoor
