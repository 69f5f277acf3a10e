/-
  Structs of numbers and strings, held against one another.
-/
import Derived.Test.YtipabhbnljadfaaDoorFr
import Derived.Laws.StructEq
namespace Go.Proofs.YtipabhbnljadfaaDoor
open Go
set_option linter.unusedSimpArgs false
set_option linter.unusedVariables false

/-- the kinds of a struct's fields (none: a string), one cell each, one behind the other -/
def kindK (P : Program) (t : TypeId) : Option IntKind → Bool
  | some k => match P.underlying t with | some (.int k') => decide (k = k') | _ => false
  | none => match P.underlying t with | some .string => true | _ => false
def fieldsK (P : Program) : List Field → Nat → List (Option IntKind) → Bool
  | [], _, [] => true
  | f :: fs, i, k :: ks => f.name != "_" && f.offset == i && kindK P f.type k && fieldsK P fs (i + 1) ks
  | _, _, _ => false
/-- values of these kinds -/
def ofK : Option IntKind → Value → Prop
  | some k, v => ∃ n, v = .int k n
  | none, v => ∃ s : List UInt8, v = .string ⟨s.toArray⟩
def confK : List (Option IntKind) → List Value → Prop
  | [], [] => True
  | k :: ks, v :: vs => ofK k v ∧ confK ks vs
  | _, _ => False
def sameV : Value → Value → Bool
  | .int _ a, .int _ b => decide (a = b)
  | .string a, .string b => decide (a.toList = b.toList)
  | _, _ => false
def sameL : List Value → List Value → Bool
  | [], [] => true
  | a :: as, b :: bs => sameV a b && sameL as bs
  | _, _ => false

section
variable {P : Program}
theorem kindK_some {t : TypeId} {k : IntKind} (h : kindK P t (some k) = true) : P.underlying t = some (.int k) := by
  unfold kindK at h
  simp only at h
  split at h
  · rename_i k' hu
    rw [hu, of_decide_eq_true h]
  · cases h
theorem kindK_none {t : TypeId} (h : kindK P t none = true) : P.underlying t = some .string := by
  unfold kindK at h
  simp only at h
  split at h
  · rename_i hu; exact hu
  · cases h
theorem kindK_flat {t : TypeId} {k : Option IntKind} (h : kindK P t k = true) : flatB P t = true := by
  unfold flatB
  cases k with
  | some k => rw [kindK_some h]
  | none => rw [kindK_none h]
theorem run_equalIn_K (d : Nat) {t : TypeId} {k : Option IntKind} {a b : Value} (h : kindK P t k = true) (ha : ofK k a) (hb : ofK k b) (w : World) : (Op.equalIn (d + 1) t a b).run P w = .ok (sameV a b) w := by
  cases k with
  | some k =>
    obtain ⟨n, rfl⟩ := ha
    obtain ⟨m, rfl⟩ := hb
    rw [run_equalIn_int (P := P) w d t k k n m (kindK_some h)]
    congr 1
  | none =>
    obtain ⟨s, rfl⟩ := ha
    obtain ⟨r, rfl⟩ := hb
    rw [run_equalIn_string (P := P) w d t _ _ (kindK_none h)]
    congr 1
    simp only [sameV]
    rw [Bool.eq_iff_iff]
    simp
theorem run_part_flat {t : TypeId} {cs : Array Value} {off : Nat} {v : Value} (h : flatB P t = true) (hv : cs[off]? = some v) (w : World) : (part t cs off).run P w = .ok v w := by
  simp [part, run_isAgg_flat h, hv]
theorem run_eqFields_K (d : Nat) (w : World) : ∀ (fs : List Field) (i : Nat) (ks : List (Option IntKind)) (xs ys px py : List Value), fieldsK P fs i ks = true → confK ks xs → confK ks ys → px.length = i → py.length = i →
    (Op.eqFields (d + 1) (px ++ xs).toArray (py ++ ys).toArray fs).run P w = .ok (sameL xs ys) w
  | [], i, [], [], [], px, py, _, _, _, _, _ => by simp [Op.eqFields, sameL]
  | f :: fs, i, k :: ks, a :: xs, b :: ys, px, py, hf, hx, hy, hpx, hpy => by
    simp only [fieldsK, Bool.and_eq_true, bne_iff_ne, ne_eq, beq_iff_eq] at hf
    obtain ⟨⟨⟨h1, h2⟩, h3⟩, h4⟩ := hf
    have hfl := kindK_flat h3
    have ga : (px ++ a :: xs).toArray[f.offset]? = some a := by
      rw [h2, List.getElem?_toArray, List.getElem?_append_right (by omega), hpx, Nat.sub_self]; rfl
    have gb : (py ++ b :: ys).toArray[f.offset]? = some b := by
      rw [h2, List.getElem?_toArray, List.getElem?_append_right (by omega), hpy, Nat.sub_self]; rfl
    have e1 := run_part_flat (w := w) hfl ga
    have e2 := run_part_flat (w := w) hfl gb
    have e3 := run_equalIn_K d h3 hx.1 hy.1 w
    have ih := run_eqFields_K d w fs (i + 1) ks xs ys (px ++ [a]) (py ++ [b]) h4 hx.2 hy.2 (by simp [hpx]) (by simp [hpy])
    simp only [List.append_assoc, List.singleton_append] at ih
    simp only [Op.eqFields, ne_eq, h1, not_false_eq_true, if_true, Sem.run_bind, e1, e2, e3, Result.andThen_ok, sameL]
    cases hs : sameV a b
    · simp
    · simp [ih]
  | [], _, _ :: _, _, _, _, _, h, _, _, _, _ => by simp [fieldsK] at h
  | _ :: _, _, [], _, _, _, _, h, _, _, _, _ => by simp [fieldsK] at h
  | [], _, [], _ :: _, _, _, _, _, h, _, _, _ => h.elim
  | [], _, [], [], _ :: _, _, _, _, _, h, _, _ => h.elim
  | _ :: _, _, _ :: _, [], _, _, _, _, h, _, _, _ => h.elim
  | _ :: _, _, _ :: _, _ :: _, [], _, _, _, _, h, _, _ => h.elim

/-- a struct type of these kinds -/
structure StructK (P : Program) (t : TypeId) (ks : List (Option IntKind)) : Prop where
  und : P.underlying t = some (.struct (P.fieldsOf t))
  held : P.stoodInHeld t = false
  guard : P.eqGuardType P.depth t = false
  fields : fieldsK P (P.fieldsOf t).toList 0 ks = true

variable {ρ : Operand → Value} {o : Oper} {w : World} {x y : Operand} {t u : TypeId} {ks : List (Option IntKind)} {xs ys : List Value}
theorem r_neqStruct (ho : o.op = .binOp .neq t x y u) (hx : ρ x = .agg xs.toArray) (hy : ρ y = .agg ys.toArray) (hk : StructK P t ks) (h1 : confK ks xs) (h2 : confK ks ys) : (execOp ρ o).run P w = .ok (.value (.bool (!sameL xs ys))) w := by
  have e1 := run_eqFields_K (P := P) 9998 w (P.fieldsOf t).toList 0 ks xs ys [] [] hk.fields h1 h2 rfl rfl
  simp only [List.nil_append] at e1
  have e2 := run_equalIn_agg (P := P) w 9999 t xs.toArray ys.toArray hk.und hk.held
  rw [e1] at e2
  have e3 := run_neq_struct (P := P) w t xs.toArray ys.toArray
  rw [e2] at e3
  have e4 := run_eqGuard_agg (P := P) w .neq t x y xs.toArray ys.toArray hk.guard
  simp only [execOp, ho, hx, hy, Sem.run_bind, e4, e3, Result.andThen_ok, Sem.run_pure]
theorem r_eqlStruct (ho : o.op = .binOp .eql t x y u) (hx : ρ x = .agg xs.toArray) (hy : ρ y = .agg ys.toArray) (hk : StructK P t ks) (h1 : confK ks xs) (h2 : confK ks ys) : (execOp ρ o).run P w = .ok (.value (.bool (sameL xs ys))) w := by
  have e1 := run_eqFields_K (P := P) 9998 w (P.fieldsOf t).toList 0 ks xs ys [] [] hk.fields h1 h2 rfl rfl
  simp only [List.nil_append] at e1
  have e2 := run_equalIn_agg (P := P) w 9999 t xs.toArray ys.toArray hk.und hk.held
  rw [e1] at e2
  have e3 := run_eql_struct (P := P) w t xs.toArray ys.toArray
  rw [e2] at e3
  have e4 := run_eqGuard_agg (P := P) w .eql t x y xs.toArray ys.toArray hk.guard
  simp only [execOp, ho, hx, hy, Sem.run_bind, e4, e3, Result.andThen_ok, Sem.run_pure]
end
end Go.Proofs.YtipabhbnljadfaaDoor
