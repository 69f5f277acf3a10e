/-
  Upd facts as tracked facts; rows copied into places; appended zeros.
-/
import Derived.Test.YtomkdhkkggbioaaGreatDoorFq
import Derived.Lib.AppendZerosOnto
import Derived.Lib.Overlaps
namespace Go.Proofs.YtomkdhkkggbioaaGreatDoor
open Go
set_option linter.unusedSimpArgs false
set_option linter.unusedVariables false

theorem Upd.upd {S S' : Nat → Prop} {w w1 w2 : World} (h : Upd S w w1) (h' : Upd S' w1 w2) (hs : ∀ k, k < w.heap.size → S' k → S k) : Upd S w w2 := h.trans h' hs
theorem Upd.updA {S S' : Nat → Prop} {w w1 w2 : World} (h : Upd S w w1) (h' : Upd S' w1 w2) (hs : ∀ k, k < w.heap.size → S' k → S k := by first | exact (fun _ _ h => h) | exact (fun _ _ h => h.elim) | (intro k hl hk; (try simp only [At, New, Grow, From, No] at hk ⊢); omega)) : Upd S w w2 := h.trans h' hs

section
variable {P : Program} {o : Oper} {w : World} {x y : Operand} {t : TypeId} {N : Nat} {ops : Array Oper} {Q : Exit → Act → World → Prop} {K : Env → World → Prop} {E : Env}

theorem run_copy_at (w : World) (dT sT ty elem : TypeId) (g o dLen dCap sz : Nat) (a : Addr) (sLen sCap : Nat) (cur : Array Value) (t : TypeId) (cs : List Value)
    (hu : P.underlying dT = some (.slice elem)) (hs : sizeIs P elem sz = true) (hm : Nat) (hmn : hm = Nat.min sLen dLen)
    (hg : w.heap[g]? = some (.cells cur t (0, 0))) (hn : cs.length = hm * sz)
    (hsrc : ∀ j v, cs[j]? = some v → w.cell? (a.add j) = some v) (hfit : o + cs.length ≤ cur.size) (h1 : ∀ v ∈ cs, v.oneCell' = true) :
    (Builtin.copy_ #[dT, sT] ty #[.slice (some ⟨g, o, none⟩) dLen dCap, .slice (some a) sLen sCap]).run P w =
      .ok (goInt hm) (w.setRow g (cur.toList.take o ++ cs ++ cur.toList.drop (o + cs.length)).toArray) := by
  have hl := run_loadCells_list (P := P) w a cs hsrc
  have hst := run_storeCells_at P g o t cs 0 cur w hg (by simpa using hfit) h1
  cases hq : P.info? elem with
  | none => simp [sizeIs, hq] at hs
  | some i =>
    have hi : i.size = sz := by simpa [sizeIs, hq] using hs
    rw [hn] at hl
    simp [Builtin.copy_, run_underlying hu, Builtin.lenOf, Builtin.firstCells, sizeOf, typeInfo, hq, hi, ← hmn, hl, hst]

/-- some elements copied into a row -/
theorem SO.copyAt {d : Nat} {t2 e : TypeId} {g off n c m c2 b2 off2 sz k : Nat} {cur : Array Value} {T : TypeId} {xs : List Value} (hk : k = Nat.min m n) (hb : Blk w g cur T) (hl : xs.length = k * sz) (hsrc : ∀ j u, xs[j]? = some u → w.cell? ⟨b2, off2 + j, none⟩ = some u)
    (h1 : ∀ u ∈ xs, u.oneCell' = true) (hfit : off + xs.length ≤ cur.size) (hu : sliceElem P t = some e) (hs : sizeIs P e sz = true)
    (hop : o.op = .call { callee := .builtin .copy, args := #[x, y], argTypes := #[t, t2] }) (hx : Env.ev E x = .slice (some ⟨g, off, none⟩) n c) (hy : Env.ev E y = .slice (some ⟨b2, off2, none⟩) m c2)
    (hd : o.dst = some d) (hN : Nat.blt d N = true) (ho : opsOK E o = true) (hw : wantedE ops E o = some true)
    (kk : ∀ w', Upd (At g) w w' → Blk w' g (cur.toList.take off ++ xs ++ cur.toList.drop (off + xs.length)).toArray T → w'.heap.size = w.heap.size → K ((d, .int .i64 (k : Int)) :: E) w') : SO P N ops Q o K E w := by
  have hrun := run_copy_at (P := P) w t t2 o.type e g off n c sz ⟨b2, off2, none⟩ m c2 cur T xs (sliceElem_und hu) hs k hk hb hl (fun j u hj => by rw [Addr.add_lit]; exact hsrc j u hj) hfit h1
  refine SO.val (v := .int .i64 (k : Int)) hd hN ho hw ?_ (kk _ (Upd.setRow _ _ _) (setRow_heap w g cur _ T _ hb) (by simp [World.setRow]))
  unfold execOp
  simp only [hop, resolve, invoke, builtin, Sem.run_bind, Sem.run_pure, Result.andThen_ok, List.map_toArray, List.map_cons, List.map_nil, hx, hy, hrun]
  rfl
/-- what a slice holds, and as many zeros more: a new row -/
theorem SO.appendZeros {d : Nat} {tn e : TypeId} {by_ sz n c k : Nat} {z : Value} {A : Option Addr} {xs : List Value} {F : Nat → Prop} {kq kn : IntKind} (hr : Rd w F (.slice A n c) n sz xs) (ht : RowT P t e sz by_ z) (htn : P.underlying tn = some (.int kn))
    (h0 : 0 < k) (hg : c < n + k) (hb : (n + k) * by_ ≤ 140737488355328) (hm : n + k ≤ 140737488355328) (hp : 0 < by_)
    (hop : o.op = .call { callee := .builtin .append, args := #[x, y], argTypes := #[t, tn] }) (hx : Env.ev E x = .slice A n c) (hy : Env.ev E y = .int kq (k : Int))
    (hd : o.dst = some d) (hN : Nat.blt d N = true) (ho : opsOK E o = true) (hw : wantedE ops E o = some true)
    (kk : ∀ (w' : World) (C : Nat) (cs : Array Value), Upd No w w' → Blk w' w.heap.size cs e → n + k ≤ C → C ≤ maxLen → cs.size = C * sz → cs.toList.take (n * sz) = xs → w'.heap.size = w.heap.size + 1 → K ((d, .slice (some ⟨w.heap.size, 0, none⟩) (n + k) C) :: E) w') : SO P N ops Q o K E w := by
  obtain ⟨i, hi, hz, hsz, hby⟩ := ht.parts
  have hold : (Builtin.firstCells i.size n (.slice A n c)).run P w.drew = .ok xs.toArray w.drew := by
    rw [hsz]
    rcases hr.src ht.pos with ⟨h, hxs, A', c', e9⟩ | ⟨ad, c', e9, hc⟩
    · subst h
      subst hxs
      cases A with
      | none => simp [Builtin.firstCells, loadCells, loadCellsFrom]
      | some a => simp [Builtin.firstCells, loadCells, loadCellsFrom]
    · injection e9 with e1 e2 e3
      subst e1 e3
      exact run_firstCells_some w.drew sz n ad n c xs hr.len (fun j u hj => hc j u hj)
  have hfit : Builtin.nextslicecap (n + k) c * i.bytes ≤ 281474976710656 := by rw [hby]; exact growslice_fits hg hb
  have hrun := Lib.run_append_grow_zeros (P := P) w t tn o.type e i z kq kn ht.und htn hi hz A n c xs hold k h0 (by rw [hsz]; exact ht.pos) hg (by omega) (by
    rw [hby]
    have : k * by_ ≤ (n + k) * by_ := Nat.mul_le_mul_right _ (by omega)
    omega) hfit
  have hC1 : n + k ≤ grownCap w (n + k) c e := grownCap_ge _ _ _ _
  have hC2 : grownCap w (n + k) c e ≤ maxLen := grownCap_le_maxLen _ _ _ _ (le_maxLen hm)
  have hzc : ∀ m, (Builtin.zeroCells z.cells m).size = m * sz := fun m => by simp [Builtin.zeroCells, ht.cells]
  refine SO.val hd hN ho hw (v := .slice (some ⟨w.heap.size, 0, none⟩) (n + k) (grownCap w (n + k) c e)) (w' := w.drew.alloc (.cells (xs.toArray ++ Builtin.zeroCells z.cells k ++ Builtin.zeroCells z.cells (grownCap w (n + k) c e - (n + k))) e)) ?_
    (kk _ _ (xs.toArray ++ Builtin.zeroCells z.cells k ++ Builtin.zeroCells z.cells (grownCap w (n + k) c e - (n + k))) ?_ (Blk.alloc_new w.drew _ _) hC1 hC2 ?_ ?_ ?_)
  · unfold execOp
    simp only [hop, resolve, invoke, builtin, Sem.run_bind, Sem.run_pure, Result.andThen_ok, List.map_toArray, List.map_cons, List.map_nil, hx, hy, hrun]
  · exact (Upd.drew No w).trans_same (Upd.alloc No _ _)
  · rw [Array.size_append, Array.size_append, hzc, hzc, List.size_toArray, hr.len, ← Nat.add_mul, ← Nat.add_mul]
    congr 1
    omega
  · rw [Array.toList_append, Array.toList_append, List.append_assoc, List.take_left' hr.len]
  · simp

theorem r_capSlice {ρ : Operand → Value} {e : TypeId} {A : Option Addr} {len cap : Nat} {ts : Array TypeId} (ho : o.op = .call { callee := .builtin .cap, args := #[x], argTypes := #[t] }) (hx : ρ x = .slice A len cap) (hu : sliceElem P t = some e) :
    (execOp ρ o).run P w = .ok (.value (.int .i64 cap)) w := by
  unfold sliceElem at hu
  cases hd : P.underlying t with
  | none => simp [hd] at hu
  | some d =>
    rw [hd] at hu
    cases d <;> simp at hu
    simp [execOp, ho, resolve, invoke, builtin, hx, Builtin.cap_, run_underlying hd, goInt]

theorem cutA_lt {g off c l sz : Nat} (h : l < c) : cutA (some ⟨g, off, none⟩) c l sz = some ⟨g, off + l * sz, none⟩ := by
  unfold cutA
  rw [if_neg (by omega)]
  simp [Addr.add_lit]
theorem cutA_zero {A : Option Addr} {c sz : Nat} : cutA A c 0 sz = A := by
  unfold cutA
  split
  · rfl
  · cases A with
    | none => rfl
    | some a => simp [Addr.add_zero']

/-- a call of what the model gives itself -/
theorem SO.extern {d : Nat} {f : FuncId} {fn : Func} {ext : Array Value → Sem Value} {xs : List Operand} {ts : Array TypeId} {vs : List Value} {v : Value} {w' : World} (hf : P.funcs[f]? = some fn) (hname : (fn.name == "runtime.NumGoroutine") = false)
    (hb : fn.body.isNone = true) (hn : Extern.findNext fn = none) (he : Extern.find fn = some ext) (hrun : (ext vs.toArray).run P w = .ok v w')
    (hop : o.op = .call { callee := .value (.func f), args := xs.toArray, argTypes := ts }) (hvs : evs E xs vs)
    (hd : o.dst = some d) (hN : Nat.blt d N = true) (ho : opsOK E o = true) (hw : wantedE ops E o = some true) (k : K ((d, v) :: E) w') : SO P N ops Q o K E w := by
  have e1 := evs_map hvs
  have h2 := run_callFunc_extern (P := P) hf hname hb hn he vs.toArray w
  rw [hrun] at h2
  refine SO.val hd hN ho hw ?_ k
  simp [execOp, hop, resolve, Deferred.ofValue, Env.ev, invoke, e1, h2, Result.andThen]

theorem SO.overlaps {d : Nat} {f : FuncId} {fn : Func} {ts : Array TypeId} {tR e : TypeId} {ga oa gb ob la ca lb cb sz : Nat} {csA csB : Array Value} {TA TB : TypeId} (hf : P.funcs[f]? = some fn) (hname : (fn.name == "runtime.NumGoroutine") = false)
    (hb : fn.body.isNone = true) (hn : Extern.findNext fn = none) (he : Extern.find fn = some (Extern.SlicesOverlaps.overlaps #[t, t] #[tR])) (hu : sliceElem P t = some e) (hs : sizeIs P e sz = true)
    (hA : Blk w ga csA TA) (hB : Blk w gb csB TB) (hne : ga ≠ gb) (h0 : csB.size ≠ 0)
    (hop : o.op = .call { callee := .value (.func f), args := #[x, y], argTypes := ts }) (hx : Env.ev E x = .slice (some ⟨ga, oa, none⟩) la ca) (hy : Env.ev E y = .slice (some ⟨gb, ob, none⟩) lb cb)
    (hd : o.dst = some d) (hN : Nat.blt d N = true) (ho : opsOK E o = true) (hw : wantedE ops E o = some true) (k : K ((d, .bool false) :: E) w) : SO P N ops Q o K E w := by
  have hrun := Lib.run_overlaps_apart (P := P) w t tR e (sliceElem_und hu) sz (fun w => run_sizeOf hs) ⟨ga, oa, none⟩ ⟨gb, ob, none⟩ la ca lb cb hne TA TB csA.size csB.size (by
    unfold Blk at hA; simp [World.shape?, hA]) (by unfold Blk at hB; simp [World.shape?, hB]) h0 (hA.free _) (hA.free _)
  exact SO.extern (xs := [x, y]) (vs := [_, _]) hf hname hb hn he hrun hop ⟨hx, hy, trivial⟩ hd hN ho hw k

/-- a slice up to its capacity -/
theorem r_sliceC {ρ : Operand → Value} {e : TypeId} {A : Option Addr} {n c l h sz : Nat} {lo hi : Option Operand} (ho : o.op = .slice t x lo hi none) (hx : ρ x = .slice A n c) (hu : sliceElem P t = some e) (hz : sizeIs P e sz = true)
    (hlo : bnd ρ lo 0 l) (hhi : bnd ρ hi n h) (h1 : l ≤ h) (h2 : h ≤ c) : (execOp ρ o).run P w = .ok (.value (.slice (cutA A c l sz) (h - l) (c - l))) w := by
  unfold sliceElem at hu
  cases hd : P.underlying t with
  | none => simp [hd] at hu
  | some d =>
    rw [hd] at hu
    cases d <;> simp at hu
    subst hu
    have hsz := run_sizeOf (P := P) (w := w) hz
    unfold cutA
    rcases hlo with ⟨rfl, rfl⟩ | ⟨y1, k1, b1, rfl, hy1, hb1⟩ <;> rcases hhi with ⟨rfl, rfl⟩ | ⟨y2, k2, b2, rfl, hy2, hb2⟩
    · simp [execOp, ho, hx, Instr.sliceAt, Instr.slice, run_underlying hd, Instr.sliceBounds, hsz]
    · simp [execOp, ho, hx, hy2, Instr.sliceAt, Instr.slice, run_underlying hd, Instr.sliceBounds, hsz, run_sliceBound_in hb2 h2]
    · simp [execOp, ho, hx, hy1, Instr.sliceAt, Instr.slice, run_underlying hd, Instr.sliceBounds, hsz, run_sliceBound_in hb1 h1]
    · simp [execOp, ho, hx, hy1, hy2, Instr.sliceAt, Instr.slice, run_underlying hd, Instr.sliceBounds, hsz, run_sliceBound_in hb1 h1, run_sliceBound_in hb2 h2]
end

theorem ins_grow {cs rc xs : List Value} {a s N M : Nat} (ha : a ≤ N) (hx : xs.length = N) (hrc : rc.length = s) (hc : N + s ≤ cs.length) (h : cs.take a = xs.take a) (hM : M = a + s + (N - a)) :
    ((cs.take a ++ rc ++ cs.drop (a + s)).take (a + s) ++ xs.drop a ++ (cs.take a ++ rc ++ cs.drop (a + s)).drop M).take (N + s) = xs.take a ++ rc ++ xs.drop a := by
  have e1 : (cs.take a ++ rc ++ cs.drop (a + s)).take (a + s) = xs.take a ++ rc := by
    rw [List.take_left' (by simp only [List.length_append, List.length_take, hrc]; omega), h]
  rw [e1, List.take_left' (by simp only [List.length_append, List.length_take, List.length_drop, hrc, hx]; omega)]
theorem ins_shift {cur rc xs : List Value} {a s N M : Nat} (ha : a ≤ N) (hx : cur.take N = xs) (hrc : rc.length = s) (hc : N + s ≤ cur.length) (hM : M = a + s + (N - a)) :
    ((cur.take (a + s) ++ xs.drop a ++ cur.drop M).take a ++ rc ++ (cur.take (a + s) ++ xs.drop a ++ cur.drop M).drop (a + s)).take (N + s) = xs.take a ++ rc ++ xs.drop a := by
  subst hM
  have hxl : xs.length = N := by rw [← hx, List.length_take]; omega
  have e1 : (cur.take (a + s) ++ xs.drop a ++ cur.drop (a + s + (N - a))).take a = xs.take a := by
    rw [List.append_assoc, List.take_append_of_le_length (by rw [List.length_take]; omega), List.take_take, ← hx, List.take_take]
    congr 1
    omega
  have e2 : (cur.take (a + s) ++ xs.drop a ++ cur.drop (a + s + (N - a))).drop (a + s) = xs.drop a ++ cur.drop (a + s + (N - a)) := by
    rw [List.append_assoc, List.drop_left' (by rw [List.length_take]; omega)]
  rw [e1, e2, ← List.append_assoc, List.take_left' (by simp only [List.length_append, List.length_take, List.length_drop, hrc, hxl]; omega)]

/-- a condition whose temporary is asked again -/
theorem WC.condT {P : Program} {N : Nat} {Q : Exit → Act → World → Prop} {x y : Code} {E : Env} {w : World} {t : Nat} {b : Bool} (hb : Env.get E t = some (.bool b)) (k1 : b = true → WC P N Q x ((t, .bool true) :: E) w) (k2 : b = false → WC P N Q y ((t, .bool false) :: E) w) : WC P N Q (.cond (.tmp t) x y) E w := by
  have hsub : ∀ c : Bool, b = c → ∀ a, Sat N E a → Sat N ((t, .bool c) :: E) a := fun c e a h => ⟨h.size, h.defers, fun s v hs => by
    simp only [Env.get] at hs
    split at hs
    · rename_i hq
      have := Nat.eq_of_beq_eq_true hq
      subst this
      injection hs with hs
      subst hs
      rw [← e]
      exact h.vals _ _ hb
    · exact h.vals s v hs⟩
  refine WC.cond (b := b) (by simp [Env.has, hb]) (by simp [Env.ev, hb]) (fun e => ?_) (fun e => ?_)
  · exact fun a h => k1 e a (hsub true e a h)
  · exact fun a h => k2 e a (hsub false e a h)
end Go.Proofs.YtomkdhkkggbioaaGreatDoor
