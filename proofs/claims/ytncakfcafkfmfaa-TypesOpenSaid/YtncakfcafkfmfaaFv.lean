/-
  One element of an owned row, written over.
-/
import Derived.Test.YtncakfcafkfmfaaFo
namespace Go.Proofs.Ytncakfcafkfmfaa
open Go
set_option linter.unusedSimpArgs false
set_option linter.unusedVariables false

theorem take_put {cur us : List Value} {q s m : Nat} (hus : us.length = s) (h1 : q + s ≤ m) (h2 : m ≤ cur.length) : (cur.take q ++ us ++ cur.drop (q + s)).take m = (cur.take m).take q ++ us ++ (cur.take m).drop (q + s) := by
  have hl : (cur.take q ++ us).length = q + s := by rw [List.length_append, List.length_take, hus]; omega
  rw [List.take_append, List.take_of_length_le (by omega), hl, List.take_take, Nat.min_eq_left (by omega), List.drop_take]
section
variable {P : Program} {o : Oper} {w : World} {x y : Operand} {t : TypeId} {N : Nat} {ops : Array Oper} {Q : Exit → Act → World → Prop} {K : Env → World → Prop} {E : Env}
theorem SO.ownSet {F : Nat → Prop} {T : TypeId} {sz n i c g q : Nat} {A : Option Addr} {xs us : List Value} (h : Own w F T sz (.slice A n c) n xs) (hA : A = some ⟨g, 0, none⟩) (hi : i < n) (hq : q = i * sz) (hus : us.length = sz) (hop : o.op = .store t x y) (hx : Env.ev E x = .pointer (some ⟨g, q, none⟩)) (hy : Env.ev E y = .agg us.toArray) (hz : sizeIs P t us.length = true) (h1 : us.all Value.oneCell' = true)
    (hd : o.dst = none) (ho : opsOK E o = true) (hw : wantedE ops E o = some true)
    (k : ∀ w', Upd F w w' → Own w' F T sz (.slice A n c) n (xs.take q ++ us ++ xs.drop (q + sz)) → w'.heap.size = w.heap.size → K E w') : SO P N ops Q o K E w := by
  obtain ⟨g', cap, cur, e, hb, hF, hnc, hcm, hcs, htake⟩ := h.open (by omega)
  subst hA hq
  injection e with e1 e2 e3
  injection e1 with e1
  injection e1 with e1 _
  subst e1 e3
  have hle : i * sz + sz ≤ n * sz := by
    rw [← Nat.succ_mul]
    exact Nat.mul_le_mul_right _ hi
  have hle2 : n * sz ≤ c * sz := Nat.mul_le_mul_right _ hnc
  refine SO.storeN hop hx hy hz hb (by omega) h1 hd ho hw fun w' hu hb' hs => k w' (hu.mono fun k _ hk => by simp only [At] at hk; subst hk; exact hF) ?_ hs
  have h2 := Own.shut (sz := sz) (n := n) hb' hF hnc hcm (by simp only [List.size_toArray, List.length_append, List.length_take, List.length_drop, Array.length_toList]; omega)
  have h3 := take_put (cur := cur.toList) (q := i * sz) (m := n * sz) hus hle (by simp only [Array.length_toList]; omega)
  rw [htake] at h3
  rw [hus] at h2
  simp only at h2
  rw [h3] at h2
  exact h2
end
end Go.Proofs.Ytncakfcafkfmfaa
