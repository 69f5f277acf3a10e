/-
  More operations: structs of any size, stored and loaded.
-/
import Derived.Test.YtomkdhkkggbioaaGreatDoorFn
import Derived.Laws.CopyRow
namespace Go.Proofs.YtomkdhkkggbioaaGreatDoor
open Go
set_option linter.unusedSimpArgs false
set_option linter.unusedVariables false

theorem heap_setRow_ne (w : World) (g : Nat) (cs : Array Value) (k : Nat) (hk : ¬ k = g) : (w.setRow g cs).heap[k]? = w.heap[k]? := by
  have hne : ¬ g = k := fun h => hk h.symm
  simp [World.setRow, Array.getElem?_modify, hne]
theorem Upd.setRow (w : World) (g : Nat) (cs : Array Value) : Upd (At g) w (w.setRow g cs) :=
  ⟨rfl, rfl, rfl, by simp [World.setRow], fun k _ hn => heap_setRow_ne w g cs k hn⟩

section
variable {P : Program} {o : Oper} {w : World} {x y : Operand} {t : TypeId} {N : Nat} {ops : Array Oper} {Q : Exit → Act → World → Prop} {K : Env → World → Prop} {E : Env}

theorem r_storeN {ρ : Operand → Value} {g off : Nat} {us : List Value} {cs : Array Value} {T : TypeId} (ho : o.op = .store t x y) (hx : ρ x = .pointer (some ⟨g, off, none⟩)) (hy : ρ y = .agg us.toArray) (hz : sizeIs P t us.length = true) (hb : Blk w g cs T) (hle : off + us.length ≤ cs.size) (h1 : us.all Value.oneCell' = true) :
    (execOp ρ o).run P w = .ok .skip (w.setRow g (cs.toList.take off ++ us ++ cs.toList.drop (off + us.length)).toArray) := by
  have h2 := run_storeCells_at P g off T us 0 cs w hb (by omega) (fun v hv => List.all_eq_true.1 h1 v hv)
  rw [Nat.add_zero] at h2
  simp [execOp, ho, hx, hy, Instr.storeAt, Instr.sureAddr, storeVar, run_sizeOf hz, Value.cells, h2]

theorem SO.storeN {g off : Nat} {us : List Value} {cs : Array Value} {T : TypeId} (hop : o.op = .store t x y) (hx : Env.ev E x = .pointer (some ⟨g, off, none⟩)) (hy : Env.ev E y = .agg us.toArray) (hz : sizeIs P t us.length = true) (hb : Blk w g cs T) (hle : off + us.length ≤ cs.size) (h1 : us.all Value.oneCell' = true)
    (hd : o.dst = none) (ho : opsOK E o = true) (hw : wantedE ops E o = some true)
    (k : ∀ w', Upd (At g) w w' → Blk w' g (cs.toList.take off ++ us ++ cs.toList.drop (off + us.length)).toArray T → w'.heap.size = w.heap.size → K E w') : SO P N ops Q o K E w :=
  SO.eff hd ho hw (r_storeN hop hx hy hz hb hle h1) (k _ (Upd.setRow _ _ _) (setRow_heap w g cs _ T _ hb) (by simp [World.setRow]))
/-- the whole block -/
theorem SO.storeAll {g : Nat} {us : List Value} {cs : Array Value} {T : TypeId} (hop : o.op = .store t x y) (hx : Env.ev E x = .pointer (some ⟨g, 0, none⟩)) (hy : Env.ev E y = .agg us.toArray) (hz : sizeIs P t us.length = true) (hb : Blk w g cs T) (hle : cs.size = us.length) (h1 : us.all Value.oneCell' = true)
    (hd : o.dst = none) (ho : opsOK E o = true) (hw : wantedE ops E o = some true)
    (k : ∀ w', Upd (At g) w w' → Blk w' g us.toArray T → w'.heap.size = w.heap.size → K E w') : SO P N ops Q o K E w :=
  SO.storeN hop hx hy hz hb (by omega) h1 hd ho hw (fun w' hu hb' hs => k w' hu (by
    have e : cs.toList.take 0 ++ us ++ cs.toList.drop (0 + us.length) = us := by
      rw [Nat.zero_add, List.drop_of_length_le (by simp [hle]), List.take_zero]
      simp
    rwa [e] at hb') hs)

/-- a row written over whole -/
theorem SO.copyAll {d : Nat} {t2 e : TypeId} {g n c : Nat} {v2 : Value} {cur : Array Value} {T : TypeId} {xs : List Value} {F2 : Nat → Prop} (hb : Blk w g cur T) (hn : cur.size = n) (hsrc : Rd w F2 v2 n 1 xs) (h1 : ∀ u ∈ xs, u.oneCell' = true) (hu : sliceElem P t = some e) (hs : sizeIs P e 1 = true)
    (hop : o.op = .call { callee := .builtin .copy, args := #[x, y], argTypes := #[t, t2] }) (hx : Env.ev E x = .slice (some ⟨g, 0, none⟩) n c) (hy : Env.ev E y = v2)
    (hd : o.dst = some d) (hN : Nat.blt d N = true) (ho : opsOK E o = true) (hw : wantedE ops E o = some true)
    (k : ∀ w', Upd (At g) w w' → Blk w' g xs.toArray T → w'.heap.size = w.heap.size → K ((d, .int .i64 (n : Int)) :: E) w') : SO P N ops Q o K E w := by
  have hlen : xs.length = n := by have := hsrc.len; omega
  have hz : (P.info? e).map (·.size) = some 1 := by
    unfold sizeIs at hs
    cases hi : P.info? e with
    | none => simp [hi] at hs
    | some i => rw [hi] at hs; simpa using hs
  rcases hsrc.src (by decide) with ⟨h0, hxs, A, c', rfl⟩ | ⟨ad, c', rfl, hcells⟩
  · subst h0
    subst hxs
    have hcur : cur = #[] := Array.eq_empty_of_size_eq_zero hn
    subst hcur
    have hrun : (Builtin.copy_ #[t, t2] o.type #[.slice (some ⟨g, 0, none⟩) 0 c, .slice A 0 c']).run P w = .ok (goInt 0) w := by
      cases hq : P.info? e with
      | none => simp [hq] at hz
      | some i =>
        cases A with
        | none => simp [Builtin.copy_, run_underlying (sliceElem_und hu), Builtin.lenOf, Builtin.firstCells, sizeOf, typeInfo, hq, storeCells]
        | some a => simp [Builtin.copy_, run_underlying (sliceElem_und hu), Builtin.lenOf, Builtin.firstCells, sizeOf, typeInfo, hq, storeCells, loadCells, loadCellsFrom]
    refine SO.val (v := .int .i64 ((0 : Nat) : Int)) (w' := w) hd hN ho hw ?_ (k w (Upd.refl _ _) hb rfl)
    unfold execOp
    simp only [hop, resolve, invoke, builtin, Sem.run_bind, Sem.run_pure, Result.andThen_ok, List.map_toArray, List.map_cons, List.map_nil, hx, hy, hrun]
    rfl
  · have hrun := run_copy_row P w t t2 o.type e g 0 n c ad n c' cur T xs (sliceElem_und hu) hz hb (by rw [hlen]; simp) hcells (by omega) h1
    have e1 : (cur.toList.take 0 ++ xs ++ cur.toList.drop (0 + xs.length)).toArray = xs.toArray := by
      rw [Nat.zero_add, List.drop_of_length_le (by simp [hn, hlen]), List.take_zero]
      simp
    rw [e1, hlen] at hrun
    refine SO.val (v := .int .i64 (n : Int)) (w' := w.setRow g xs.toArray) hd hN ho hw ?_ (k _ (Upd.setRow _ _ _) (setRow_heap w g cur _ T _ hb) (by simp [World.setRow]))
    unfold execOp
    simp only [hop, resolve, invoke, builtin, Sem.run_bind, Sem.run_pure, Result.andThen_ok, List.map_toArray, List.map_cons, List.map_nil, hx, hy, hrun]
    rfl
end

theorem Own.nilGrow {w w' w0 : World} {T : TypeId} {sz n : Nat} {v : Value} {xs : List Value} (h : Own w0 (Grow (fun _ => False) w w') T sz v n xs) : Own w0 (New w w') T sz v n xs := h.mono fun k hk => hk.elim (fun h => h.elim) (fun h => h)
theorem Blk.cellsL {w : World} {g : Nat} {us : List Value} {T : TypeId} (h : Blk w g us.toArray T) : CellsAt w ⟨g, 0, none⟩ us := fun j v hj => by
  rw [Addr.add_lit, Nat.zero_add]
  exact h.cell (by simpa using hj)
theorem Blk.cellsP {w : World} {g off : Nat} {cs : Array Value} {us : List Value} {T : TypeId} (h : Blk w g cs T) (hu : ∀ j v, us[j]? = some v → cs[off + j]? = some v) : CellsAt w ⟨g, off, none⟩ us := fun j v hj => by
  rw [Addr.add_lit]
  exact h.cell (hu j v hj)
theorem Rd.cellsL {w : World} {F : Nat → Prop} {b off n c sz q i : Nat} {xs us : List Value} (hr : Rd w F (.slice (some ⟨b, off, none⟩) n c) n sz xs) (hq : q = off + i) (hu : ∀ j v, us[j]? = some v → xs[i + j]? = some v) : CellsAt w ⟨b, q, none⟩ us := fun j v hj => by
  subst hq
  rw [Addr.add_lit]
  exact hr.cell (j := i + j) (by omega) (hu j v hj)
/-- the cells of one of the elements -/
theorem flatMap_get {α : Type} {dec : α → List Value} {sz : Nat} (hd : ∀ a, (dec a).length = sz) : ∀ {l : List α} {i : Nat} {a : α}, l[i]? = some a → ∀ j v, (dec a)[j]? = some v → (l.flatMap dec)[i * sz + j]? = some v
  | [], i, a, h, _, _, _ => by simp at h
  | b :: l, 0, a, h, j, v, hv => by
    simp only [List.getElem?_cons_zero, Option.some.injEq] at h
    subst h
    have hj : j < (dec b).length := (List.getElem?_eq_some_iff.1 hv).1
    rw [Nat.zero_mul, Nat.zero_add, List.flatMap_cons, List.getElem?_append_left hj]
    exact hv
  | b :: l, i + 1, a, h, j, v, hv => by
    have ih := flatMap_get hd (l := l) (i := i) (by simpa using h) j v hv
    rw [List.flatMap_cons, List.getElem?_append_right (by rw [hd b, Nat.add_mul, Nat.one_mul]; omega), hd b, show (i + 1) * sz + j - sz = i * sz + j by rw [Nat.add_mul, Nat.one_mul]; omega]
    exact ih
theorem flatMap_len {α : Type} {dec : α → List Value} {sz : Nat} (hd : ∀ a, (dec a).length = sz) (l : List α) : (l.flatMap dec).length = l.length * sz := by
  induction l with
  | nil => simp
  | cons a l ih => rw [List.flatMap_cons, List.length_append, ih, hd a, List.length_cons, Nat.add_mul, Nat.one_mul, Nat.add_comm]
end Go.Proofs.YtomkdhkkggbioaaGreatDoor
