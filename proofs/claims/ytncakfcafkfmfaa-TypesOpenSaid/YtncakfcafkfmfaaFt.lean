/-
  Maps: a map's block known whole; looked up, and written at a new key; keys that are numbers, or pairs of them.
-/
import Derived.Test.YtncakfcafkfmfaaFr
import Derived.Maps.Keyed
import Derived.ChangeKeysEq
namespace Go.Proofs.Ytncakfcafkfmfaa
open Go
set_option linter.unusedSimpArgs false
set_option linter.unusedVariables false

/-- a map's block: its entries in the order in which they were made -/
def MapB (w : World) (b : Nat) (l : List (Value × Value)) : Prop := ∃ es clock, w.heap[b]? = some (.map es clock) ∧ es.toList.map (fun e => (e.key, e.val)) = l
theorem MapB.lt {w : World} {b : Nat} {l : List (Value × Value)} (h : MapB w b l) : b < w.heap.size := by
  obtain ⟨es, clock, hb, _⟩ := h
  exact (Array.getElem?_eq_some_iff.1 hb).1
theorem MapB.upd {w w' : World} {S : Nat → Prop} {b : Nat} {l : List (Value × Value)} (h : MapB w b l) (hu : Upd S w w') (hn : ¬ S b) : MapB w' b l := by
  have hl := h.lt
  obtain ⟨es, clock, hb, he⟩ := h
  exact ⟨es, clock, (hu.block b hl hn).trans hb, he⟩
theorem MapB.updA {w w' : World} {S : Nat → Prop} {b : Nat} {l : List (Value × Value)} (h : MapB w b l) (hu : Upd S w w') (hn : ¬ S b := by first | exact (fun h => h) | with_reducible assumption | (simp only [At]; omega) | (simp only [At, New, Grow, From, No]; omega)) : MapB w' b l := h.upd hu hn
theorem MapB.ne {w : World} {b b' : Nat} {l : List (Value × Value)} {cs : Array Value} {T : TypeId} (h : MapB w b l) (h' : Blk w b' cs T) : b ≠ b' := by
  rintro rfl
  obtain ⟨es, clock, hb, _⟩ := h
  unfold Blk at h'
  rw [hb] at h'
  cases h'

/-- the first entry of a key -/
def lookA {α : Type} [DecidableEq α] : List (α × Value) → α → Option Value
  | [], _ => none
  | (k, v) :: r, x => if k = x then some v else lookA r x
theorem lookA_append {α : Type} [DecidableEq α] (l r : List (α × Value)) (x : α) : lookA (l ++ r) x = (lookA l x).orElse fun _ => lookA r x := by
  induction l with
  | nil => rfl
  | cons a l ih =>
    obtain ⟨k, v⟩ := a
    simp only [List.cons_append, lookA]
    split
    · rfl
    · exact ih

/-- what a map's laws need of a kind of keys -/
structure KeyT {α : Type} [DecidableEq α] (P : Program) (k : TypeId) (enc : α → Value) : Prop where
  check : ∀ (w : World) (em : Bool) (x : α), (Instr.checkKey em 10000 k (enc x)).run P w = .ok () w
  find : ∀ (w : World) (x : α) (es : List MapEntry) (l : List (α × Value)), es.map (fun e => (e.key, e.val)) = l.map (fun p => (enc p.1, p.2)) →
    ∃ r, (Instr.findKey k (enc x) es).run P w = .ok r w ∧ r.map (·.2) = lookA l x

theorem key_int {P : Program} {k : TypeId} {q : IntKind} (hk : P.underlying k = some (.int q)) : KeyT (α := Int) P k (fun x => .int q x) := by
  have ck : ∀ (D : Nat) (w : World) (em : Bool) (x : Int), (Instr.checkKey em (D + 1) k (.int q x)).run P w = .ok () w := fun D w em x => by simp [Instr.checkKey, run_underlying hk]
  refine ⟨fun w em x => ck 9999 w em x, fun w x es l he => ?_⟩
  have key : ∀ (es : List MapEntry) (l : List (Int × Value)) (i : Nat), es.map (fun e => (e.key, e.val)) = l.map (fun p => (Value.int q p.1, p.2)) →
      ∃ r, Instr.findNow (.int q) (.int q x) es i = some r ∧ r.map (·.2) = lookA l x := by
    intro es
    induction es with
    | nil =>
      intro l i he
      cases l with
      | nil => exact ⟨none, rfl, rfl⟩
      | cons => simp at he
    | cons e es ih =>
      intro l i he
      cases l with
      | nil => simp at he
      | cons p l =>
        obtain ⟨k', v⟩ := p
        simp only [List.map_cons, List.cons.injEq, Prod.mk.injEq] at he
        obtain ⟨⟨h1, h2⟩, h3⟩ := he
        simp only [Instr.findNow, h1, Instr.sameNow, if_true, lookA]
        by_cases hx : x = k'
        · subst hx
          simp [h2]
        · have h4 : (x == k') = false := by simp [hx]
          rw [h4, if_neg (fun e => hx e.symm)]
          exact ih l (i + 1) h3
  obtain ⟨r, hr, hm⟩ := key es l 0 he
  exact ⟨r, by simp [Instr.findKey, run_underlying hk, hr], hm⟩

/-- pairs of numbers, as arrays -/
def pairV (p : Int × Int) : Value := .agg #[.int .i64 p.1, .int .i64 p.2]
structure Arr2 (P : Program) (t e : TypeId) : Prop where
  und : P.underlying t = some (.array 2 e)
  int : P.underlying e = some (.int .i64)
  flat : flatB P e = true
  size : sizeIs P e 1 = true
  guard : P.eqGuardType P.depth t = false
theorem run_eqlArr2 {P : Program} {t e : TypeId} (h : Arr2 P t e) (w : World) (a b c d : Int) :
    (Op.equal t (.agg #[.int .i64 a, .int .i64 b]) (.agg #[.int .i64 c, .int .i64 d])).run P w = .ok (decide (a = c) && decide (b = d)) w := by
  have hs := h.size
  unfold sizeIs at hs
  cases hi : P.info? e with
  | none => simp [hi] at hs
  | some i =>
    rw [hi] at hs
    have hs1 : i.size = 1 := by simpa using hs
    have h1 := run_equalIn_array (P := P) (w := w) 9999 #[.int .i64 a, .int .i64 b] #[.int .i64 c, .int .i64 d] h.und hi
    have h2 : (Op.equal t (.agg #[.int .i64 a, .int .i64 b]) (.agg #[.int .i64 c, .int .i64 d])).run P w = (Op.equalIn (9999 + 1) t (.agg #[.int .i64 a, .int .i64 b]) (.agg #[.int .i64 c, .int .i64 d])).run P w := rfl
    have hc : P.cellsOf e = 1 := by simp [Program.cellsOf, hi, hs1]
    rw [h2, h1, hc]
    have e0 := run_isAgg_flat (P := P) (w := w) h.flat
    have q1 : ∀ (D : Nat) (x y : Int), (Op.equalIn (D + 1) e (.int .i64 x) (.int .i64 y)).run P w = .ok (x == y) w := fun D x y => by simp [Op.equalIn, run_underlying h.int]
    have q0 : ∀ x y : Int, (Op.equalIn 9999 e (.int .i64 x) (.int .i64 y)).run P w = .ok (x == y) w := fun x y => q1 9998 x y
    generalize (9999 : Nat) = D at q0
    cases ha : (a == c) <;> cases hb : (b == d) <;> rw [show decide (a = c) = (a == c) from rfl, show decide (b = d) = (b == d) from rfl, ha, hb] <;>
      simp [List.range_succ, Op.eqItems, part, e0, q0, ha, hb]
theorem key_pair {P : Program} {t e : TypeId} (h : Arr2 P t e) : KeyT (α := Int × Int) P t pairV := by
  have hc : ∀ (w : World) (em : Bool) (v : Value), v.oneCell' = true → True := fun _ _ _ _ => trivial
  refine ⟨fun w em x => ?_, fun w x es l he => ?_⟩
  · have hs := h.size
    unfold sizeIs at hs
    cases hi : P.info? e with
    | none => simp [hi] at hs
    | some i =>
      rw [hi] at hs
      have hs1 : i.size = 1 := by simpa using hs
      have e0 := run_isAgg_flat (P := P) (w := w) h.flat
      have hsz := run_sizeOf (P := P) (w := w) h.size
      have q1 : ∀ (D : Nat) (y : Int), (Instr.checkKey em (D + 1) e (.int .i64 y)).run P w = .ok () w := fun D y => by simp [Instr.checkKey, run_underlying h.int]
      have q0 : ∀ y : Int, (Instr.checkKey em 9999 e (.int .i64 y)).run P w = .ok () w := fun y => q1 9998 y
      show (Instr.checkKey em (9999 + 1) t (pairV x)).run P w = _
      generalize (9999 : Nat) = D at q0 ⊢
      simp only [Instr.checkKey, pairV, Sem.run_bind, run_underlying h.und, Result.andThen_ok]
      simp only [Std.Legacy.Range.forIn_eq_forIn_range', Std.Legacy.Range.size, Nat.sub_zero, Nat.add_one_sub_one, Nat.div_one]
      simp [List.range'_succ, hsz, part, e0, q0]
  · have key : ∀ (es : List MapEntry) (l : List ((Int × Int) × Value)) (i : Nat), es.map (fun e => (e.key, e.val)) = l.map (fun p => (pairV p.1, p.2)) →
        ∃ r, (Instr.findAsking t (pairV x) es i).run P w = .ok r w ∧ r.map (·.2) = lookA l x := by
      intro es
      induction es with
      | nil =>
        intro l i he
        cases l with
        | nil => exact ⟨none, by simp [Instr.findAsking], rfl⟩
        | cons => simp at he
      | cons e' es ih =>
        intro l i he
        cases l with
        | nil => simp at he
        | cons p l =>
          obtain ⟨k', v⟩ := p
          simp only [List.map_cons, List.cons.injEq, Prod.mk.injEq] at he
          obtain ⟨⟨h1, h2⟩, h3⟩ := he
          have hq := run_eqlArr2 h w x.1 x.2 k'.1 k'.2
          simp only [Instr.findAsking, h1, lookA]
          by_cases hx : k' = x
          · subst hx
            refine ⟨some (i, e'.val), ?_, by simp [h2]⟩
            simp [pairV] at hq ⊢
            simp [hq]
          · obtain ⟨r, hr, hm⟩ := ih l (i + 1) h3
            refine ⟨r, ?_, by rw [if_neg hx]; exact hm⟩
            have hd : (decide (x.1 = k'.1) && decide (x.2 = k'.2)) = false := by
              rw [Bool.and_eq_false_iff]
              by_cases h0 : x.1 = k'.1
              · right
                simp only [decide_eq_false_iff_not]
                exact fun e => hx (Prod.ext h0.symm e.symm)
              · left; simpa using h0
            rw [hd] at hq
            simp only [pairV, Sem.run_bind] at hq hr ⊢
            rw [hq]
            simpa using hr
    obtain ⟨r, hr, hm⟩ := key es l 0 he
    cases es with
    | nil => exact ⟨r, by simp only [Instr.findKey, Sem.run_bind, run_underlying h.und, Result.andThen_ok, Instr.findNow]; simpa [Instr.findAsking] using hr, hm⟩
    | cons e' es =>
      refine ⟨r, ?_, hm⟩
      have hn : Instr.sameNow (.array 2 e) (pairV x) e'.key = none := by
        cases e'.key <;> rfl
      simp only [Instr.findKey, Sem.run_bind, run_underlying h.und, Result.andThen_ok, Instr.findNow, hn]
      exact hr

section
variable {α : Type} [DecidableEq α] {P : Program} {ρ : Operand → Value} {o : Oper} {w : World} {x y z : Operand} {t k e : TypeId} {enc : α → Value} {b : Nat} {l : List (α × Value)}
theorem run_look {a : α} {zv : Value} {c : Bool} {r : Option Value} (K : KeyT P k enc) (hb : MapB w b (l.map fun p => (enc p.1, p.2))) (ht : P.underlying t = some (.map k e)) (hz : zeroOf P e = some zv) (hr : lookA l a = r) :
    (Instr.lookup t (.map (some b)) (enc a) c).run P w = .ok (if c then .tuple #[r.getD zv, .bool r.isSome] else r.getD zv) w := by
  obtain ⟨es, clock, hb, he⟩ := hb
  obtain ⟨q, hq, hm⟩ := K.find w a es.toList l he
  subst hr
  cases q with
  | none =>
    have h0 : lookA l a = none := by rw [← hm]; rfl
    rw [h0]
    simp [Instr.lookup, run_underlying ht, MapKept.run_getObj_map hb, K.check, hq, run_zeroValue hz, Result.andThen]
  | some p =>
    have h0 : lookA l a = some p.2 := by rw [← hm]; rfl
    rw [h0]
    simp [Instr.lookup, run_underlying ht, MapKept.run_getObj_map hb, K.check, hq, Result.andThen]
theorem r_lookupOk {a : α} {zv : Value} {r : Option Value} (K : KeyT P k enc) (hb : MapB w b (l.map fun p => (enc p.1, p.2))) (hr : lookA l a = r) (ho : o.op = .lookup t x y true) (hx : ρ x = .map (some b)) (hy : ρ y = enc a) (ht : P.underlying t = some (.map k e)) (hz : zeroOf P e = some zv) :
    (execOp ρ o).run P w = .ok (.value (.tuple #[r.getD zv, .bool r.isSome])) w := by
  have := run_look (c := true) K hb ht hz hr
  simp [execOp, ho, hx, hy, this]
theorem r_lookup {a : α} {zv : Value} {r : Option Value} (K : KeyT P k enc) (hb : MapB w b (l.map fun p => (enc p.1, p.2))) (hr : lookA l a = r) (ho : o.op = .lookup t x y false) (hx : ρ x = .map (some b)) (hy : ρ y = enc a) (ht : P.underlying t = some (.map k e)) (hz : zeroOf P e = some zv) :
    (execOp ρ o).run P w = .ok (.value (r.getD zv)) w := by
  have := run_look (c := false) K hb ht hz hr
  simp [execOp, ho, hx, hy, this]
/-- the values named beforehand -/
theorem r_lookupV {a : α} {zv v : Value} {ok : Bool} (K : KeyT P k enc) (hb : MapB w b (l.map fun p => (enc p.1, p.2))) (hv : (lookA l a).getD zv = v) (hs : (lookA l a).isSome = ok) (ho : o.op = .lookup t x y true) (hx : ρ x = .map (some b)) (hy : ρ y = enc a) (ht : P.underlying t = some (.map k e)) (hz : zeroOf P e = some zv) :
    (execOp ρ o).run P w = .ok (.value (.tuple #[v, .bool ok])) w := by
  subst hv hs
  exact r_lookupOk K hb rfl ho hx hy ht hz
theorem r_lookupW {a : α} {zv v : Value} (K : KeyT P k enc) (hb : MapB w b (l.map fun p => (enc p.1, p.2))) (hv : (lookA l a).getD zv = v) (ho : o.op = .lookup t x y false) (hx : ρ x = .map (some b)) (hy : ρ y = enc a) (ht : P.underlying t = some (.map k e)) (hz : zeroOf P e = some zv) :
    (execOp ρ o).run P w = .ok (.value v) w := by
  subst hv
  exact r_lookup K hb rfl ho hx hy ht hz
end
theorem Upd.setObj (w : World) (b : Nat) (o : Obj) : Upd (At b) w { w with heap := w.heap.setIfInBounds b o } :=
  ⟨rfl, rfl, rfl, by simp, fun k _ hn => by
    have : b ≠ k := fun e => hn e.symm
    simp [Array.getElem?_setIfInBounds_ne this]⟩
section
variable {α : Type} [DecidableEq α] {P : Program} {N : Nat} {ops : Array Oper} {Q : Exit → Act → World → Prop} {o : Oper} {E : Env} {w : World} {d : Nat} {v : Value} {K : Env → World → Prop} {x y z : Operand} {t k e : TypeId} {enc : α → Value} {b : Nat} {l : List (α × Value)}
theorem SO.mapNew {a : α} (KT : KeyT P k enc) (hb : MapB w b (l.map fun p => (enc p.1, p.2))) (hr : lookA l a = none) (hop : o.op = .mapUpdate t x y z) (hx : Env.ev E x = .map (some b)) (hy : Env.ev E y = enc a) (hz : Env.ev E z = v) (ht : P.underlying t = some (.map k e))
    (hd : o.dst = none) (ho : opsOK E o = true) (hw : wantedE ops E o = some true)
    (kk : ∀ w', Upd (At b) w w' → MapB w' b ((l ++ [(a, v)]).map fun p => (enc p.1, p.2)) → w'.heap.size = w.heap.size → K E w') : SO P N ops Q o K E w := by
  have hlt := hb.lt
  obtain ⟨es, clock, hb, he⟩ := hb
  obtain ⟨q, hq, hm⟩ := KT.find w a es.toList l he
  have hq0 : q = none := by
    cases q with
    | none => rfl
    | some p => rw [hr] at hm; cases hm
  subst hq0
  refine SO.eff (w' := ChangeMaps.setBlock w b (.map (es.push ⟨enc a, v, clock⟩) (clock + 1))) hd ho hw ?_ (kk _ ?_ ?_ ?_)
  · simp [execOp, hop, hx, hy, hz, Instr.mapUpdate, run_underlying ht, MapKept.run_getObj_map hb, KT.check, hq, MapKept.run_setObj_map _ hb, Result.andThen, ChangeMaps.setBlock]
  · exact ⟨rfl, rfl, rfl, by simp [ChangeMaps.setBlock], fun i _ hn => ChangeMaps.heap_setBlock_other hb _ (fun e => hn (by rw [e]; rfl))⟩
  · exact ⟨_, _, ChangeMaps.heap_setBlock_same hb _, by simp [he]⟩
  · simp [ChangeMaps.setBlock]
theorem SO.makeMap (hop : o.op = .makeMap t none) (hd : o.dst = some d) (hN : Nat.blt d N = true) (ho : opsOK E o = true) (hw : wantedE ops E o = some true)
    (kk : ∀ w', Upd No w w' → MapB w' w.heap.size [] → w'.heap.size = w.heap.size + 1 → K ((d, .map (some w.heap.size)) :: E) w') : SO P N ops Q o K E w := by
  refine SO.val (w' := w.alloc (.map #[] 0)) hd hN ho hw ?_ (kk _ (Upd.alloc _ _ _) ⟨#[], 0, heap_alloc_new w _, rfl⟩ (World.size_alloc _ _))
  simp [execOp, hop, Instr.makeMap]
end
end Go.Proofs.Ytncakfcafkfmfaa
