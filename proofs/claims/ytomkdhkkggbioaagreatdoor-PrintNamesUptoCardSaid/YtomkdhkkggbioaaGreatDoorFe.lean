/-
  One operation as a step that goes on behind a continuation; rows that are owned and rows that are read; append, copy, make, slicing.
-/
import Derived.Test.YtomkdhkkggbioaaGreatDoorFd
namespace Go.Proofs.YtomkdhkkggbioaaGreatDoor
open Go
set_option linter.unusedSimpArgs false
set_option linter.unusedVariables false

/-- One operation; K: what is to hold behind it. -/
def SO (P : Program) (N : Nat) (ops : Array Oper) (Q : Exit → Act → World → Prop) (o : Oper) (K : Env → World → Prop) (E : Env) (w : World) : Prop :=
  ∀ K' : Act → World → Prop, (∀ E' w' a', K E' w' → Sat N E' a' → K' a' w') → ∀ a, Sat N E a →
    if Region.wanted o (yielded ops a.tmps) then o.wp P a w K' Q ∨ (o.asks P a w ∧ LetsOut Q) else K' (a.put o.dst undef) w

section
variable {P : Program} {N : Nat} {ops : Array Oper} {Q : Exit → Act → World → Prop} {S : World → Prop} {kind : Nat → Nat} {l : List Oper} {o : Oper} {E : Env} {w w' : World} {d i : Nat} {v : Value} {r : Ord} {K : Env → World → Prop}

theorem WL.cons (h : SO P N ops Q o (WL P N ops Q l) E w) : WL P N ops Q (o :: l) E w := fun a ha => by
  unfold wpList
  exact h (wpList P ops Q l) (fun E' w' a' hK hs => hK a' hs) a ha

theorem WN.step (o : Oper) (hi : ops[i]? = some o) (h : SO P N ops Q o (fun E' w' => Keeps S (kind i) w w' ∧ WN P N ops Q S kind r E' w') E w) : WN P N ops Q S kind (.one i r) E w :=
  WN.one fun K' hK a ha => by
    unfold wpOp
    simp only [hi]
    exact h K' hK a ha

theorem WN.fork {j : Nat} {s : Ord} (o o' : Oper) (hi : ops[i]? = some o) (hj : ops[j]? = some o') (h : SO P N ops Q o (fun E' w' => Keeps S (kind i) w w' ∧ WN P N ops Q S kind r E' w') E w)
    (h' : SO P N ops Q o' (fun E' w' => Keeps S (kind j) w w' ∧ WN P N ops Q S kind s E' w') E w) : WN P N ops Q S kind (.two i j r s) E w :=
  WN.two (fun K' hK a ha => by
    unfold wpOp
    simp only [hi]
    exact h K' hK a ha) (fun K' hK a ha => by
    unfold wpOp
    simp only [hj]
    exact h' K' hK a ha)

theorem SO.val (hd : o.dst = some d) (hN : Nat.blt d N = true) (ho : opsOK E o = true) (hw : wantedE ops E o = some true)
    (hrun : (execOp E.ev o).run P w = .ok (.value v) w') (k : K ((d, v) :: E) w') : SO P N ops Q o K E w := by
  intro K' hK a h
  have hd' : d < N := Eq.mp Nat.blt_eq hN
  rw [if_pos (wantedE_spec h hw)]
  refine .inl ?_
  unfold Oper.wp
  rw [opsOK_exec h ho, hrun, Oper.upon_value, hd]
  exact hK _ _ _ k (h.put hd' v)

theorem SO.eff (hd : o.dst = none) (ho : opsOK E o = true) (hw : wantedE ops E o = some true)
    (hrun : (execOp E.ev o).run P w = .ok .skip w') (k : K E w') : SO P N ops Q o K E w := by
  intro K' hK a h
  rw [if_pos (wantedE_spec h hw)]
  refine .inl ?_
  unfold Oper.wp
  rw [opsOK_exec h ho, hrun, Oper.upon_skip, hd]
  exact hK _ _ _ k h

theorem SO.skip (hd : o.dst = some d) (hN : Nat.blt d N = true) (hw : wantedE ops E o = some false) (k : K ((d, undef) :: E) w) : SO P N ops Q o K E w := by
  intro K' hK a h
  have hd' : d < N := Eq.mp Nat.blt_eq hN
  rw [if_neg (by rw [wantedE_spec h hw]; simp), hd]
  exact hK _ _ _ k (h.put hd' undef)

theorem SO.skip0 (hd : o.dst = none) (hw : wantedE ops E o = some false) (k : K E w) : SO P N ops Q o K E w := by
  intro K' hK a h
  rw [if_neg (by rw [wantedE_spec h hw]; simp), hd]
  exact hK _ _ _ k h

theorem SO.enter {f : FuncId} {args : Array Value} {R : Value → World → Prop} (hd : o.dst = some d) (hN : Nat.blt d N = true) (ho : opsOK E o = true) (hw : wantedE ops E o = some true)
    (hrun : (execOp E.ev o).run P w = .ok (.enter f args) w') (hc : Ret P f args w' R) (k : ∀ v w'', R v w'' → K ((d, v) :: E) w'') : SO P N ops Q o K E w := by
  intro K' hK a h
  have hd' : d < N := Eq.mp Nat.blt_eq hN
  rw [if_pos (wantedE_spec h hw)]
  refine .inl ?_
  unfold Oper.wp
  rw [opsOK_exec h ho, hrun, Oper.upon_enter]
  refine Calls.mono hc ?_
  rintro e w'' ⟨v, rfl, hR⟩
  simp only [hd]
  exact hK _ _ _ (k v w'' hR) (h.put hd' v)

/-- what operands hold -/
def evs (E : Env) : List Operand → List Value → Prop
  | [], [] => True
  | x :: l, v :: vs => Env.ev E x = v ∧ evs E l vs
  | _, _ => False
theorem evs_map {E : Env} : ∀ {l : List Operand} {vs : List Value}, evs E l vs → l.map (Env.ev E) = vs
  | [], [], _ => rfl
  | x :: l, v :: vs, h => by simp [h.1, evs_map h.2]

theorem SO.call {f : FuncId} {xs : List Operand} {ts : Array TypeId} {vs : List Value} {R : Value → World → Prop} (hc : Ret P f vs.toArray w R)
    (hop : o.op = .call { callee := .value (.func f), args := xs.toArray, argTypes := ts }) (hb : hasBody P f = true) (hvs : evs E xs vs)
    (hd : o.dst = some d) (hN : Nat.blt d N = true) (ho : opsOK E o = true) (hw : wantedE ops E o = some true) (k : ∀ v w'', R v w'' → K ((d, v) :: E) w'') : SO P N ops Q o K E w :=
  SO.enter hd hN ho hw (r_call hop hb rfl (by rw [List.map_toArray, evs_map hvs])) hc k

theorem SO.store {x y : Operand} {t : TypeId} {g off : Nat} {cs : Array Value} {T : TypeId} (hop : o.op = .store t x y) (hx : Env.ev E x = .pointer (some ⟨g, off, none⟩)) (hy : Env.ev E y = v) (hz : sizeIs P t 1 = true) (hb : Blk w g cs T)
    (hlt : Nat.blt off cs.size = true) (h1 : v.oneCell' = true) (hd : o.dst = none) (ho : opsOK E o = true) (hw : wantedE ops E o = some true)
    (k : ∀ w', Upd (At g) w w' → Blk w' g (cs.setIfInBounds off v) T → w'.heap.size = w.heap.size → K E w') : SO P N ops Q o K E w :=
  SO.eff hd ho hw (r_store hop hx hy hz hb hlt h1) (k _ (Upd.setCell w ⟨g, off, none⟩ v) (hb.set off v) (World.size_setCell _ _ _))

/-- a new row with what is written out -/
theorem run_buildSlice {e : TypeId} {z : Value} {sz n : Nat} {t : TypeId} {parts : Array (Nat × Value)} {cs : Array Value} (ht : P.underlying t = some (.slice e)) (hz : sizeIs P e sz = true) (hzero : (P.info? e).bind (·.zero) = some z) (hn : n * sz ≤ 16777216)
    (hf : Instr.fill (fun i => some (i * sz, sz)) ((Array.range (n * sz)).map (z.cells[· % z.cells.size]!)) parts.toList = some cs) :
    (Instr.buildSlice t n parts).run P w = .ok (.slice (some ⟨w.heap.size, 0, none⟩) n n) (w.alloc (.cells cs e)) := by
  unfold sizeIs at hz
  cases hi : P.info? e with
  | none => simp [hi] at hz
  | some i =>
    rw [hi] at hz
    simp only [beq_iff_eq] at hz
    subst hz
    simp only [hi, Option.bind_some] at hzero
    by_cases h0 : n * i.size = 0
    · rw [h0] at hf
      simp only [Array.range_zero', Array.map_empty] at hf
      simp [Instr.buildSlice, run_underlying ht, sizeOf, typeInfo, hi, h0, Array.range_zero', hf, newRow]
    · have h2 : ¬ (2 ^ 24 < n * i.size) := by omega
      have h0' : ¬ (n = 0 ∨ i.size = 0) := by rw [← Nat.mul_eq_zero]; exact h0
      simp [Instr.buildSlice, run_underlying ht, sizeOf, typeInfo, hi, h0', h2, zeroValue, hzero, hf, newRow]
      exact fun h => absurd h h0

theorem SO.alloc {cs : Array Value} {T : TypeId} (hd : o.dst = some d) (hN : Nat.blt d N = true) (ho : opsOK E o = true) (hw : wantedE ops E o = some true)
    (hrun : (execOp E.ev o).run P w = .ok (.value v) (w.alloc (.cells cs T)))
    (k : ∀ w', Upd No w w' → Blk w' w.heap.size cs T → w'.heap.size = w.heap.size + 1 → K ((d, v) :: E) w') : SO P N ops Q o K E w :=
  SO.val hd hN ho hw hrun (k _ (Upd.alloc _ _ _) (Blk.alloc_new _ _ _) (World.size_alloc _ _))
end

/-- The type of a slice, its elements', how many cells and bytes these take, and their zero. -/
structure RowT (P : Program) (t e : TypeId) (sz by_ : Nat) (z : Value) : Prop where
  und : P.underlying t = some (.slice e)
  info : (P.info? e).map (fun i => (i.zero, i.size, i.bytes)) = some (some z, sz, by_)
  cells : z.cells.size = sz
  pos : 0 < sz

theorem RowT.parts {P : Program} {t e : TypeId} {sz by_ : Nat} {z : Value} (h : RowT P t e sz by_ z) : ∃ i, P.info? e = some i ∧ i.zero = some z ∧ i.size = sz ∧ i.bytes = by_ := by
  have h1 := h.info
  cases hi : P.info? e with
  | none => rw [hi] at h1; cases h1
  | some i =>
    rw [hi] at h1
    simp only [Option.map_some, Option.some.injEq, Prod.mk.injEq] at h1
    exact ⟨i, rfl, h1.1, h1.2.1, h1.2.2⟩
theorem RowT.sizeIs {P : Program} {t e : TypeId} {sz by_ : Nat} {z : Value} (h : RowT P t e sz by_ z) : sizeIs P e sz = true := by
  obtain ⟨i, hi, _, hs, _⟩ := h.parts
  simp [Go.Proofs.YtomkdhkkggbioaaGreatDoor.sizeIs, hi, hs]

/-- F, and the blocks that are new. -/
def Grow (F : Nat → Prop) (w w' : World) : Nat → Prop := fun k => F k ∨ (w.heap.size ≤ k ∧ k < w'.heap.size)

/-- The blocks that are new. -/
def New (w w' : World) : Nat → Prop := fun k => w.heap.size ≤ k ∧ k < w'.heap.size

/-- The slice value v, of n elements, owns the cells xs; its block is one of F. -/
def Own (w : World) (F : Nat → Prop) (T : TypeId) (sz : Nat) (v : Value) (n : Nat) (xs : List Value) : Prop :=
  w.ownsRow 0 T sz v n xs ∧ ∀ k, v.ownBlock = some k → F k

/-- The slice value v, of n elements, reads as the cells xs; its block is one of F. -/
def Rd (w : World) (F : Nat → Prop) (v : Value) (n sz : Nat) (xs : List Value) : Prop :=
  ∃ A c, v = .slice A n c ∧ n ≤ c ∧ n ≤ 140737488355328 ∧ xs.length = n * sz ∧
    (n ≠ 0 → ∃ b off, A = some ⟨b, off, none⟩ ∧ F b ∧ b < w.heap.size ∧ ∀ j u, xs[j]? = some u → w.cell? ⟨b, off + j, none⟩ = some u)

section
variable {P : Program} {w w' : World} {F F' S : Nat → Prop} {T : TypeId} {sz n : Nat} {v : Value} {xs : List Value}

theorem Own.nil (w : World) (F : Nat → Prop) (T : TypeId) (sz : Nat) : Own w F T sz (.slice none 0 0) 0 [] := ⟨World.ownsRow_nil _ _ _ _, fun k h => by simp [Value.ownBlock] at h⟩
theorem Own.mono (h : Own w F T sz v n xs) (hF : ∀ k, F k → F' k) : Own w F' T sz v n xs := ⟨h.1, fun k hk => hF k (h.2 k hk)⟩
theorem Own.lt (h : Own w F T sz v n xs) : ∀ k, v.ownBlock = some k → k < w.heap.size := fun k hk => (h.1.lt k hk).2
theorem Own.upd (h : Own w F T sz v n xs) (hu : Upd S w w') (hn : ∀ k, F k → k < w.heap.size → ¬ S k) : Own w' F T sz v n xs := by
  refine ⟨⟨h.1.1, ?_⟩, h.2⟩
  rcases h.1.2 with hh | ⟨g, cap, cur, rfl, hb, hg, rest⟩
  · exact .inl hh
  · exact .inr ⟨g, cap, cur, rfl, hb, (hu.block g (Array.getElem?_eq_some_iff.1 hg).1 (hn g (h.2 g rfl) (Array.getElem?_eq_some_iff.1 hg).1)).trans hg, rest⟩
theorem Own.len (h : Own w F T sz v n xs) : xs.length = n * sz := h.1.1
theorem Own.drew (h : Own w F T sz v n xs) : Own w.drew F T sz v n xs := h
theorem Own.form (h : Own w F T sz v n xs) : ∃ A c, v = .slice A n c ∧ n ≤ c := by
  rcases h.1.2 with ⟨rfl, rfl⟩ | ⟨g, cap, cur, rfl, _, _, hc, _⟩
  · exact ⟨_, _, rfl, Nat.le_refl _⟩
  · exact ⟨_, _, rfl, hc⟩
/-- a block that is a row's whole -/
theorem Own.of_blk {b : Nat} {cs : Array Value} (h : Blk w b cs T) (hF : F b) (hn : cs.size = n * sz) (hm : n ≤ maxLen) : Own w F T sz (.slice (some ⟨b, 0, none⟩) n n) n cs.toList := by
  refine ⟨⟨by simp [hn], .inr ⟨b, n, cs, rfl, Nat.zero_le _, h, Nat.le_refl _, hm, hn, ?_⟩⟩, fun k hk => ?_⟩
  · rw [← hn]; exact List.take_of_length_le (by simp)
  · simp [Value.ownBlock] at hk; subst hk; exact hF

theorem Own.rd (h : Own w F T sz v n xs) (hm : n ≤ 140737488355328) : Rd w F v n sz xs := by
  rcases h.1.2 with ⟨rfl, rfl⟩ | ⟨g, cap, cur, rfl, _, hg, hc, _⟩
  · exact ⟨_, _, rfl, Nat.le_refl _, hm, h.1.1, fun h0 => absurd rfl h0⟩
  · refine ⟨_, _, rfl, hc, hm, h.1.1, fun _ => ⟨g, 0, rfl, h.2 g rfl, (Array.getElem?_eq_some_iff.1 hg).1, fun j u hu => ?_⟩⟩
    have := h.1.cells (g := g) rfl j u hu
    rwa [Addr.add_lit] at this

theorem Rd.mono (h : Rd w F v n sz xs) (hF : ∀ k, F k → F' k) : Rd w F' v n sz xs := by
  obtain ⟨A, c, hv, h1, h2, h3, h4⟩ := h
  refine ⟨A, c, hv, h1, h2, h3, fun h0 => ?_⟩
  obtain ⟨b, off, hA, hb, hl, hc⟩ := h4 h0
  exact ⟨b, off, hA, hF b hb, hl, hc⟩
theorem Rd.upd (h : Rd w F v n sz xs) (hu : Upd S w w') (hn : ∀ k, F k → k < w.heap.size → ¬ S k) : Rd w' F v n sz xs := by
  obtain ⟨A, c, hv, h1, h2, h3, h4⟩ := h
  refine ⟨A, c, hv, h1, h2, h3, fun h0 => ?_⟩
  obtain ⟨b, off, hA, hb, hl, hc⟩ := h4 h0
  exact ⟨b, off, hA, hb, Nat.lt_of_lt_of_le hl hu.size, fun j u hj => (cell?_of_eq (hu.block b hl (hn b hb hl)) _ _).trans (hc j u hj)⟩
/-- the footprint lies among the blocks that are there -/
theorem Rd.bound (h : Rd w F v n sz xs) : Rd w (fun k => F k ∧ k < w.heap.size) v n sz xs := by
  obtain ⟨A, c, hv, h1, h2, h3, h4⟩ := h
  refine ⟨A, c, hv, h1, h2, h3, fun h0 => ?_⟩
  obtain ⟨b, off, hA, hb, hl, hc⟩ := h4 h0
  exact ⟨b, off, hA, ⟨hb, hl⟩, hl, hc⟩
theorem Own.bound (h : Own w F T sz v n xs) : Own w (fun k => F k ∧ k < w.heap.size) T sz v n xs := ⟨h.1, fun k hk => ⟨h.2 k hk, (h.1.lt k hk).2⟩⟩
theorem Rd.drew (h : Rd w F v n sz xs) : Rd w.drew F v n sz xs := h
theorem Rd.len (h : Rd w F v n sz xs) : xs.length = n * sz := by obtain ⟨_, _, _, _, _, h, _⟩ := h; exact h
theorem Rd.le (h : Rd w F v n sz xs) : n ≤ 140737488355328 := by obtain ⟨_, _, _, _, h, _⟩ := h; exact h
theorem Rd.nil (w : World) (F : Nat → Prop) (sz : Nat) : Rd w F (.slice none 0 0) 0 sz [] := ⟨_, _, rfl, Nat.le_refl _, by omega, by simp, fun h => absurd rfl h⟩

/-- what append reads -/
theorem Rd.src (h : Rd w F v n sz xs) (hsz : 0 < sz) : (n = 0 ∧ xs = [] ∧ ∃ A c, v = .slice A 0 c) ∨ (∃ ad c, v = .slice (some ad) n c ∧ ∀ j u, xs[j]? = some u → w.cell? (ad.add j) = some u) := by
  obtain ⟨A, c, hv, h1, h2, h3, h4⟩ := h
  by_cases h0 : n = 0
  · subst h0; exact .inl ⟨rfl, List.eq_nil_of_length_eq_zero (by simpa using h3), A, c, hv⟩
  · obtain ⟨b, off, rfl, _, _, hc⟩ := h4 h0
    refine .inr ⟨_, c, hv, fun j u hj => ?_⟩
    rw [Addr.add_lit]; exact hc j u hj

theorem run_append_Own {t e : TypeId} {by_ : Nat} {z : Value} (ht : RowT P t e sz by_ z) (ty : TypeId) {v2 : Value} {m : Nat} {news : List Value} {F2 : Nat → Prop}
    (hown : Own w F e sz v n xs) (hsrc : Rd w F2 v2 m sz news) (h1 : ∀ u ∈ news, u.oneCell' = true) (h63 : n + m ≤ maxLen) (hbytes : (n + m) * by_ ≤ 140737488355328) :
    ∃ v' w', (Builtin.append_ #[t, t] ty #[v, v2]).run P w = .ok v' w' ∧ Own w' (Grow F w w') e sz v' (n + m) (xs ++ news) ∧ Upd F w w' := by
  obtain ⟨i, hi, hz, hs, hb⟩ := ht.parts
  have fin : ∀ {v' w'}, w'.ownsRow 0 e sz v' (n + m) (xs ++ news) → w.grownBy w' v.ownBlock → (v'.ownBlock = v.ownBlock ∨ ∀ k, v'.ownBlock = some k → w.heap.size ≤ k) → Own w' (Grow F w w') e sz v' (n + m) (xs ++ news) ∧ Upd F w w' := by
    intro v' w' h2 h3 h4
    refine ⟨⟨h2, fun k hk => ?_⟩, ⟨h3.os, h3.tape, h3.output, h3.size, fun k hk hn => h3.block k hk fun e => hn (hown.2 k e.symm)⟩⟩
    rcases h4 with h4 | h4
    · exact .inl (hown.2 k (h4 ▸ hk))
    · exact .inr ⟨h4 k hk, (h2.lt k hk).2⟩
  rcases hsrc.src ht.pos with ⟨rfl, rfl, A, c, rfl⟩ | ⟨ad, c, rfl, hcells⟩
  · -- nothing is appended
    refine ⟨v, w, ?_, ?_, Upd.refl _ _⟩
    · obtain ⟨A', c', rfl, hle⟩ := hown.form
      have hA : (Builtin.firstCells i.size 0 (.slice A 0 c)).run P w = .ok #[] w := by
        cases A with
        | none => simp [Builtin.firstCells]
        | some a => simp [Builtin.firstCells, loadCells, loadCellsFrom]
      cases A' with
      | none => simp [Builtin.append_, run_underlying ht.und, sizeOf, typeInfo, hi, Builtin.lenOf, hle, hA]
      | some a => simp [Builtin.append_, run_underlying ht.und, sizeOf, typeInfo, hi, Builtin.lenOf, hle, hA, storeCells]
    · simpa using hown.mono (F' := Grow F w w) (fun k hk => .inl hk)
  · have hl := hsrc.len
    by_cases hnil : v.ownBlock = none
    · have hn0 : v = .slice none 0 0 ∧ n = 0 := by
        rcases hown.1.2 with h | ⟨g, cap, cur, rfl, _⟩
        · exact h
        · simp [Value.ownBlock] at hnil
      obtain ⟨rfl, rfl⟩ := hn0
      have hxs : xs = [] := List.eq_nil_of_length_eq_zero (by simpa using hown.len)
      subst hxs
      obtain ⟨v', w', hr, h2, h3, _⟩ := run_append_own (P := P) w w.heap.size t ty e i z sz by_ ht.und hi hz hs hb ht.cells ht.pos (.slice none 0 0) 0 [] (World.ownsRow_nil _ _ _ _) ad m c news hl hcells h1 h63 hbytes (Nat.le_refl _)
      refine ⟨v', w', hr, fin ⟨h2.1, ?_⟩ h3 (.inr fun k hk => (h2.lt k hk).1)⟩
      rcases h2.2 with h | ⟨g, cap, cur, hv, _, rest⟩
      · exact .inl h
      · exact .inr ⟨g, cap, cur, hv, Nat.zero_le _, rest⟩
    · rcases hown.1.2 with ⟨rfl, _⟩ | ⟨g, cap, cur, hv, hbg, hg, hnc, hcm, hcs, htake⟩
      · simp [Value.ownBlock] at hnil
      · by_cases hroom : n + m ≤ cap
        · obtain ⟨v', w', hr, h2, h3, _⟩ := run_append_own (P := P) w 0 t ty e i z sz by_ ht.und hi hz hs hb ht.cells ht.pos v n xs hown.1 ad m c news hl hcells h1 h63 hbytes (Nat.zero_le _)
          refine ⟨v', w', hr, fin h2 h3 (.inl ?_)⟩
          subst hv
          have hsz : i.size = sz := hs
          have hr2 := run_append_room (P := P) w t ty e i ht.und hi g n cap cur hg ad m c news (by rw [hsz]; exact hl) hcells h1 hroom (by rw [hsz, hl, hcs, ← Nat.add_mul]; exact Nat.mul_le_mul_right _ hroom)
          rw [hr2] at hr
          injection hr with hr _
          subst hr
          rfl
        · subst hv
          obtain ⟨v', w', hr, h2, h3⟩ := run_append_arg_grows (P := P) w t ty e i z sz by_ ht.und hi hz hs hb ht.cells ht.pos ⟨g, 0, none⟩ n cap xs hown.len (fun j u hu => hown.1.cells (g := g) rfl j u hu) ad m c news hl hcells (by omega) h63 hbytes
          refine ⟨v', w', hr, fin ⟨h2.1, ?_⟩ ⟨h3.os, h3.tape, h3.output, h3.size, fun k hk _ => h3.block k hk (by simp)⟩ (.inr fun k hk => (h2.lt k hk).1)⟩
          rcases h2.2 with h | ⟨g, cap, cur, hv, _, rest⟩
          · exact .inl h
          · exact .inr ⟨g, cap, cur, hv, Nat.zero_le _, rest⟩
end

section
variable {P : Program} {N : Nat} {ops : Array Oper} {Q : Exit → Act → World → Prop} {o : Oper} {E : Env} {w : World} {d : Nat} {v v2 : Value} {K : Env → World → Prop} {F F2 : Nat → Prop} {sz n m : Nat} {xs news : List Value}

theorem SO.append {x y : Operand} {t e : TypeId} {by_ : Nat} {z : Value} (hown : Own w F e sz v n xs) (hsrc : Rd w F2 v2 m sz news) (ht : RowT P t e sz by_ z) (h1 : ∀ u ∈ news, u.oneCell' = true) (h63 : n + m ≤ maxLen) (hbytes : (n + m) * by_ ≤ 140737488355328)
    (hop : o.op = .call { callee := .builtin .append, args := #[x, y], argTypes := #[t, t] }) (hx : Env.ev E x = v) (hy : Env.ev E y = v2)
    (hd : o.dst = some d) (hN : Nat.blt d N = true) (ho : opsOK E o = true) (hw : wantedE ops E o = some true)
    (k : ∀ v' w', Own w' (Grow F w w') e sz v' (n + m) (xs ++ news) → Upd F w w' → K ((d, v') :: E) w') : SO P N ops Q o K E w := by
  obtain ⟨v', w', hr, h2, h3⟩ := run_append_Own (P := P) (ty := o.type) ht hown hsrc h1 h63 hbytes
  refine SO.val (v := v') (w' := w') hd hN ho hw ?_ (k v' w' h2 h3)
  unfold execOp
  simp only [hop, resolve, invoke, builtin, Sem.run_bind, Sem.run_pure, Result.andThen_ok, List.map_toArray, List.map_cons, List.map_nil, hx, hy, hr]
end
end Go.Proofs.YtomkdhkkggbioaaGreatDoor
