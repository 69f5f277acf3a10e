/-
  heap: what collecting does, plain; append with room.
-/
import Derived.Test.YtdpnnclkkbfihaaDoorHem
import Derived.Test.YtdpnnclkkbfihaaDoorFq
import Derived.Laws.BitsAllLaws
namespace Go.Proofs.YtdpnnclkkbfihaaDoor
open Go
set_option linter.unusedSimpArgs false
set_option linter.unusedVariables false

theorem and_even (k : Nat) (h : 2 * k + 1 < 18446744073709551616) : (2 * k + 1) &&& 18446744073709551614 = 2 * k := by
  apply Nat.eq_of_testBit_eq
  intro i
  rw [Nat.testBit_and]
  cases i with
  | zero =>
    have h1 : Nat.testBit 18446744073709551614 0 = false := by decide
    rw [h1, Bool.and_false]
    simp [Nat.testBit_zero]
  | succ i =>
    rw [Nat.testBit_succ, Nat.testBit_succ, Nat.testBit_succ]
    have e1 : (2 * k + 1) / 2 = k := by omega
    have e2 : 18446744073709551614 / 2 = 2 ^ 63 - 1 := by decide
    have e3 : 2 * k / 2 = k := by omega
    rw [e1, e2, e3, Nat.testBit_two_pow_sub_one]
    by_cases hi : i < 63
    · simp [hi]
    · have : k.testBit i = false := Nat.testBit_lt_two_pow (Nat.lt_of_lt_of_le (show k < 2 ^ 63 by omega) (Nat.pow_le_pow_right (by decide) (by omega)))
      simp [hi, this]
theorem andNot_odd (k : Nat) (h : 2 * k + 1 < 18446744073709551616) : bits .andNot .u64 ((2 * k + 1 : Nat) : Int) 1 = ((2 * k : Nat) : Int) := by
  have := u64_andNot_nat (2 * k + 1) 1 h (by decide)
  rw [show ((1 : Nat) : Int) = 1 from rfl] at this
  rw [this, and_even k h]

/-! ### the collector's step -/
def szO (x : Nat) : Nat := if x % 256 = 3 then 1 + (x / 256 + 7) / 8 else 1 + x / 256
theorem szO_pos (x : Nat) : 1 ≤ szO x := by unfold szO; split <;> omega
def szAt (old : List Nat) (a : Nat) : Nat := szO (old.getD a 0)
theorem szAt_pos (old : List Nat) (a : Nat) : 1 ≤ szAt old a := szO_pos _
def objAt (old : List Nat) (a : Nat) : List Nat := (old.drop a).take (szAt old a)
theorem objAt_len {old : List Nat} {a : Nat} (h : a + szAt old a ≤ old.length) : (objAt old a).length = szAt old a := by
  unfold objAt; rw [List.length_take, List.length_drop]; omega
def isR (old : List Nat) (x : Nat) : Prop := x % 2 = 0 ∧ x / 2 < old.length
instance (old : List Nat) (x : Nat) : Decidable (isR old x) := by unfold isR; infer_instance
def mvTo (old to mv : List Nat) (x : Nat) : List Nat := if isR old x ∧ mv.getD (x / 2) 0 = 0 then to ++ objAt old (x / 2) else to
def mvMv (old to mv : List Nat) (x : Nat) : List Nat := if isR old x ∧ mv.getD (x / 2) 0 = 0 then mv.set (x / 2) (2 * to.length + 1) else mv
def mvY (old to mv : List Nat) (x : Nat) : Nat := if isR old x then (if mv.getD (x / 2) 0 = 0 then 2 * to.length else mv.getD (x / 2) 0 - 1) else x

section
variable {P : Program} {N : Nat} {ops : Array Oper} {Q : Exit → Act → World → Prop} {o : Oper} {E : Env} {w : World} {d : Nat} {v2 : Value} {K : Env → World → Prop} {F2 : Nat → Prop} {g n m cap : Nat} {cur : Array Value} {news : List Value}
theorem SO.appendRoom {x y : Operand} {t e : TypeId} {by_ : Nat} {z : Value} (hb : Blk w g cur e) (hsrc : Rd w F2 v2 m 1 news) (ht : RowT P t e 1 by_ z) (h1 : ∀ u ∈ news, u.oneCell' = true) (hroom : n + m ≤ cap) (hcs : cur.size = cap) (hm : 0 < m)
    (hop : o.op = .call { callee := .builtin .append, args := #[x, y], argTypes := #[t, t] }) (hx : Env.ev E x = .slice (some ⟨g, 0, none⟩) n cap) (hy : Env.ev E y = v2)
    (hd : o.dst = some d) (hN : Nat.blt d N = true) (ho : opsOK E o = true) (hw : wantedE ops E o = some true)
    (k : ∀ w', Upd (At g) w w' → Blk w' g (cur.toList.take n ++ news ++ cur.toList.drop (n + m)).toArray e → w'.heap.size = w.heap.size → K ((d, .slice (some ⟨g, 0, none⟩) (n + m) cap) :: E) w') : SO P N ops Q o K E w := by
  obtain ⟨i, hi, hz, hs, hby⟩ := ht.parts
  have hl := hsrc.len
  rcases hsrc.src ht.pos with ⟨rfl, _⟩ | ⟨ad, c, rfl, hcells⟩
  · omega
  · have hr := run_append_room (P := P) w t o.type e i ht.und hi g n cap cur hb ad m c news (by rw [hs]; exact hl) hcells h1 hroom (by rw [hs]; omega)
    rw [hs, Nat.mul_one, hl, Nat.mul_one] at hr
    refine SO.val hd hN ho hw ?_ (k (w.setRow g (cur.toList.take n ++ news ++ cur.toList.drop (n + m)).toArray) ⟨rfl, rfl, rfl, by simp [World.setRow], fun j _ hn => setRow_other _ _ _ _ hn⟩ (setRow_heap _ _ _ _ _ _ hb) (by simp [World.setRow]))
    unfold execOp
    simp only [hop, resolve, invoke, builtin, Sem.run_bind, Sem.run_pure, Result.andThen_ok, List.map_toArray, List.map_cons, List.map_nil, hx, hy, hr]
end

/-- the collector's memory: the old words, the new ones, where they were moved to -/
structure CS (w : World) (D : Nat → Prop) (co cm ct bm bt : Nat) (vo : Value) (old to mv : List Nat) : Prop where
  ho : Blk w co #[vo] 30
  hm : Blk w cm #[.slice (some ⟨bm, 0, none⟩) old.length old.length] 30
  ht : Blk w ct #[.slice (some ⟨bt, 0, none⟩) to.length old.length] 30
  ro : Rd w D vo old.length 1 (old.map Wd)
  rm : Blk w bm (mv.map Wd).toArray tWord
  rt : ∃ cur : Array Value, Blk w bt cur tWord ∧ cur.size = old.length ∧ cur.toList.take to.length = to.map Wd
  ne : co ≠ ct ∧ cm ≠ ct ∧ bm ≠ bt
  nD : ¬ D ct ∧ ¬ D bm ∧ ¬ D bt
  lm : mv.length = old.length
  le : to.length ≤ old.length ∧ old.length ≤ 1048576
theorem CS.upd {w w' : World} {D S : Nat → Prop} {co cm ct bm bt : Nat} {vo : Value} {old to mv : List Nat} (h : CS w D co cm ct bm bt vo old to mv) (hu : Upd S w w')
    (hn : ∀ k, (k = co ∨ k = cm ∨ k = ct ∨ k = bm ∨ k = bt ∨ D k) → k < w.heap.size → ¬ S k) : CS w' D co cm ct bm bt vo old to mv := by
  obtain ⟨cur, h1, h2, h3⟩ := h.rt
  exact ⟨h.ho.upd hu (hn _ (by simp) h.ho.lt), h.hm.upd hu (hn _ (by simp) h.hm.lt), h.ht.upd hu (hn _ (by simp) h.ht.lt), h.ro.upd hu (fun k hk hl => hn k (by simp [hk]) hl), h.rm.upd hu (hn _ (by simp) h.rm.lt), ⟨cur, h1.upd hu (hn _ (by simp) h1.lt), h2, h3⟩, h.ne, h.nD, h.lm, h.le⟩
end Go.Proofs.YtdpnnclkkbfihaaDoor
