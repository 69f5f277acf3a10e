/-
  More operations: structs of any size, stored and loaded.
-/
import Derived.Test.YtejlmcdmoghmaaaFn
import Derived.Laws.CopyRow
namespace Go.Proofs.Ytejlmcdmoghmaaa
open Go
set_option linter.unusedSimpArgs false
set_option linter.unusedVariables false

theorem heap_setRow_ne (w : World) (g : Nat) (cs : Array Value) (k : Nat) (hk : ¬ k = g) : (w.setRow g cs).heap[k]? = w.heap[k]? := by
  have hne : ¬ g = k := fun h => hk h.symm
  simp [World.setRow, Array.getElem?_modify, hne]
theorem Upd.setRow (w : World) (g : Nat) (cs : Array Value) : Upd (At g) w (w.setRow g cs) :=
  ⟨rfl, rfl, rfl, by simp [World.setRow], fun k _ hn => heap_setRow_ne w g cs k hn⟩

section
variable {P : Program} {o : Oper} {w : World} {x y : Operand} {t : TypeId} {N : Nat} {ops : Array Oper} {Q : Exit → Act → World → Prop} {K : Env → World → Prop} {E : Env}

theorem r_storeN {ρ : Operand → Value} {g off : Nat} {us : List Value} {cs : Array Value} {T : TypeId} (ho : o.op = .store t x y) (hx : ρ x = .pointer (some ⟨g, off, none⟩)) (hy : ρ y = .agg us.toArray) (hz : sizeIs P t us.length = true) (hb : Blk w g cs T) (hle : off + us.length ≤ cs.size) (h1 : us.all Value.oneCell' = true) :
    (execOp ρ o).run P w = .ok .skip (w.setRow g (cs.toList.take off ++ us ++ cs.toList.drop (off + us.length)).toArray) := by
  have h2 := run_storeCells_at P g off T us 0 cs w hb (by omega) (fun v hv => List.all_eq_true.1 h1 v hv)
  rw [Nat.add_zero] at h2
  simp [execOp, ho, hx, hy, Instr.storeAt, Instr.sureAddr, storeVar, run_sizeOf hz, Value.cells, h2]

theorem SO.storeN {g off : Nat} {us : List Value} {cs : Array Value} {T : TypeId} (hop : o.op = .store t x y) (hx : Env.ev E x = .pointer (some ⟨g, off, none⟩)) (hy : Env.ev E y = .agg us.toArray) (hz : sizeIs P t us.length = true) (hb : Blk w g cs T) (hle : off + us.length ≤ cs.size) (h1 : us.all Value.oneCell' = true)
    (hd : o.dst = none) (ho : opsOK E o = true) (hw : wantedE ops E o = some true)
    (k : ∀ w', Upd (At g) w w' → Blk w' g (cs.toList.take off ++ us ++ cs.toList.drop (off + us.length)).toArray T → w'.heap.size = w.heap.size → K E w') : SO P N ops Q o K E w :=
  SO.eff hd ho hw (r_storeN hop hx hy hz hb hle h1) (k _ (Upd.setRow _ _ _) (setRow_heap w g cs _ T _ hb) (by simp [World.setRow]))
/-- the whole block -/
theorem SO.storeAll {g : Nat} {us : List Value} {cs : Array Value} {T : TypeId} (hop : o.op = .store t x y) (hx : Env.ev E x = .pointer (some ⟨g, 0, none⟩)) (hy : Env.ev E y = .agg us.toArray) (hz : sizeIs P t us.length = true) (hb : Blk w g cs T) (hle : cs.size = us.length) (h1 : us.all Value.oneCell' = true)
    (hd : o.dst = none) (ho : opsOK E o = true) (hw : wantedE ops E o = some true)
    (k : ∀ w', Upd (At g) w w' → Blk w' g us.toArray T → w'.heap.size = w.heap.size → K E w') : SO P N ops Q o K E w :=
  SO.storeN hop hx hy hz hb (by omega) h1 hd ho hw (fun w' hu hb' hs => k w' hu (by
    have e : cs.toList.take 0 ++ us ++ cs.toList.drop (0 + us.length) = us := by
      rw [Nat.zero_add, List.drop_of_length_le (by simp [hle]), List.take_zero]
      simp
    rwa [e] at hb') hs)
end

theorem Own.nilGrow {w w' w0 : World} {T : TypeId} {sz n : Nat} {v : Value} {xs : List Value} (h : Own w0 (Grow (fun _ => False) w w') T sz v n xs) : Own w0 (New w w') T sz v n xs := h.mono fun k hk => hk.elim (fun h => h.elim) (fun h => h)
theorem Blk.cellsL {w : World} {g : Nat} {us : List Value} {T : TypeId} (h : Blk w g us.toArray T) : CellsAt w ⟨g, 0, none⟩ us := fun j v hj => by
  rw [Addr.add_lit, Nat.zero_add]
  exact h.cell (by simpa using hj)
theorem Blk.cellsP {w : World} {g off : Nat} {cs : Array Value} {us : List Value} {T : TypeId} (h : Blk w g cs T) (hu : ∀ j v, us[j]? = some v → cs[off + j]? = some v) : CellsAt w ⟨g, off, none⟩ us := fun j v hj => by
  rw [Addr.add_lit]
  exact h.cell (hu j v hj)
theorem Rd.cellsL {w : World} {F : Nat → Prop} {b off n c sz q i : Nat} {xs us : List Value} (hr : Rd w F (.slice (some ⟨b, off, none⟩) n c) n sz xs) (hq : q = off + i) (hu : ∀ j v, us[j]? = some v → xs[i + j]? = some v) : CellsAt w ⟨b, q, none⟩ us := fun j v hj => by
  subst hq
  rw [Addr.add_lit]
  exact hr.cell (j := i + j) (by omega) (hu j v hj)
/-- the cells of one of the elements -/
theorem flatMap_get {α : Type} {dec : α → List Value} {sz : Nat} (hd : ∀ a, (dec a).length = sz) : ∀ {l : List α} {i : Nat} {a : α}, l[i]? = some a → ∀ j v, (dec a)[j]? = some v → (l.flatMap dec)[i * sz + j]? = some v
  | [], i, a, h, _, _, _ => by simp at h
  | b :: l, 0, a, h, j, v, hv => by
    simp only [List.getElem?_cons_zero, Option.some.injEq] at h
    subst h
    have hj : j < (dec b).length := (List.getElem?_eq_some_iff.1 hv).1
    rw [Nat.zero_mul, Nat.zero_add, List.flatMap_cons, List.getElem?_append_left hj]
    exact hv
  | b :: l, i + 1, a, h, j, v, hv => by
    have ih := flatMap_get hd (l := l) (i := i) (by simpa using h) j v hv
    rw [List.flatMap_cons, List.getElem?_append_right (by rw [hd b, Nat.add_mul, Nat.one_mul]; omega), hd b, show (i + 1) * sz + j - sz = i * sz + j by rw [Nat.add_mul, Nat.one_mul]; omega]
    exact ih
theorem flatMap_len {α : Type} {dec : α → List Value} {sz : Nat} (hd : ∀ a, (dec a).length = sz) (l : List α) : (l.flatMap dec).length = l.length * sz := by
  induction l with
  | nil => simp
  | cons a l ih => rw [List.flatMap_cons, List.length_append, ih, hd a, List.length_cons, Nat.add_mul, Nat.one_mul, Nat.add_comm]
end Go.Proofs.Ytejlmcdmoghmaaa
