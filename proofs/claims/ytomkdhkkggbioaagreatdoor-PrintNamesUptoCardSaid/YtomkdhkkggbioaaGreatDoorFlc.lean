/-
  From a walk to the statement of a row that lists variables: the table of powers of ten (law 05).
-/
import Derived.Test.YtomkdhkkggbioaaGreatDoorFrame
import Derived.Test.YtomkdhkkggbioaaGreatDoorTie
import Derived.Test.YtomkdhkkggbioaaGreatDoorCards
import Derived.Test.YtomkdhkkggbioaaGreatDoorPrS
import Derived.LaidMore
import Derived.LaidHandle
import Derived.MakeChecks
import Derived.Stop.Joined
namespace Go.Proofs.YtomkdhkkggbioaaGreatDoor
open Go Go.ChangeShapes Go.WideShapes Go.ChangeAt Go.RowKit
set_option linter.unusedSimpArgs false
set_option linter.unusedVariables false

abbrev laidL : List (String × DataW Unit) := [("math/bits.deBruijn32tab", Rows.laid_math_bits_deBruijn32tab), ("math/bits.deBruijn64tab", Rows.laid_math_bits_deBruijn64tab), ("internal/strconv.uint64pow10", Rows.laid_internal_strconv_uint64pow10)]

theorem trod_ints {P : Program} {w : World} {fuel n : Nat} {e t : TypeId} {k : IntKind} {cs : List Value} {p : List MemPlace} {l : List Int} (ht : P.underlying t = some (.array n e)) (he : P.underlying e = some (.int k)) (hc : P.cellsOf e = 1) (hct : P.cellsOf t = n) (hl : l.length = n)
    (h : DataW.trod (fun _ => ()) P w 0 (fun _ => true) false fuel t cs = some (.agg (l.map fun i => .lit (.int k i)), p)) : cs = l.map (Value.int k) := by
  obtain ⟨xs, m, rfl, hx, hlen, hxs, hel⟩ := DataW.trod_array ht h
  simp only [Prod.mk.injEq, DataW.agg.injEq] at hx
  apply List.ext_getElem?
  intro i
  rcases Nat.lt_or_ge i n with hi | hi
  · have h1 := hel i hi
    rw [hc] at h1
    have hxi : xs[i]? = some xs[i] := List.getElem?_eq_getElem (by omega)
    rw [hxi] at h1
    obtain ⟨z, e1, e2, _⟩ := DataW.trod_int he h1
    have h2 : (xs.map (·.1))[i]? = (l.map fun i => (DataW.lit (.int k i) : DataW Unit))[i]? := by rw [← hx.1]
    rw [List.getElem?_map, List.getElem?_map, hxi, e2, List.getElem?_eq_getElem (by omega)] at h2
    simp only [Option.map_some, Option.some.injEq, DataW.lit.injEq, Lit.int.injEq, true_and] at h2
    have h3 : cs[i]? = some (.int k z) := by
      have h4 : ((cs.drop (i * 1)).take 1)[0]? = some (.int k z) := by rw [e1]; rfl
      rw [List.getElem?_take_of_lt (by omega), List.getElem?_drop, Nat.mul_one, Nat.add_zero] at h4
      exact h4
    rw [h3, List.getElem?_map, List.getElem?_eq_getElem (by omega), h2]
    rfl
  · rw [List.getElem?_eq_none (by omega), List.getElem?_eq_none (by rw [List.length_map]; omega)]

theorem gTab : Tryz.prog.globalNamed "internal/strconv.uint64pow10" = some 0 := by kernel_rfl
theorem tTab : (Tryz.prog.globals[0]?).map (·.type) = some 154 := by kernel_rfl
theorem datTab : (Rows.laid_internal_strconv_uint64pow10 : DataW Unit) = .agg (Lib.pow10Tab.map fun i => .lit (.int .u64 i)) := by kernel_rfl

theorem pow_of_laid {W : World} (h : laidMetH Tryz.prog laidL W) : Pow10 W := by
  rw [MakeChecks.laidMetH_plain _ _ _ (by kernel_rfl)] at h
  obtain ⟨ps, ⟨g0, t0, cs0, f0, p0, q0, hg0, ht0, hv0, hd0, ⟨g1, t1, cs1, f1, p1, q1, hg1, ht1, hv1, hd1, ⟨g2, t2, cs2, f2, p2, q2, hg2, ht2, hv2, hd2, _, _⟩, _⟩, _⟩, _, _⟩ := h
  obtain rfl := Option.some.inj (gTab.symm.trans hg2)
  obtain rfl := Option.some.inj (tTab.symm.trans ht2)
  rw [datTab] at hd2
  have e2 := trod_ints (l := Lib.pow10Tab) Tryz.underlying154 Tryz.underlying103 (by kernel_rfl) (by kernel_rfl) Lib.pow10Tab_length hd2
  unfold Pow10 Lib.TabIs
  rw [hv2]
  congr 1
  exact Array.ext' e2

/-- The door's own heap meets the condition. -/
theorem door_met (os : Os) (args : Array Value) : laidMetH Tryz.prog laidL ((World.doorLaid Tryz.prog 24 os).forCall (fun _ _ => 0) ⟨#[], args, []⟩).memory :=
  laidMetH_of_parts3 (fuel := 8) (laidMet_of_run' 8 (by kernel_rfl) (by kernel_rfl)) (by kernel_rfl) (by kernel_rfl)

set_option maxRecDepth 100000 in
theorem law_returns_laid {H : Type} {enc : TypeId × Value → H} {os : Os} {f : FuncId} {fn : Func} {s : ChangeSpec} {tb : TypeId} {conds : List PathCond} (started : os.Started)
    (hfn : Tryz.prog.funcs[f]? = some fn) (noInit : Tryz.prog.inits.idxOf? f = none) (hv : s.vars = [])
    (hspec : ∀ ds : List (DataW H), ds.length = fn.params.toList.length → s.fn H ds = { results := [.lit (.bool true)], args := ds })
    (hres : fn.resultTypes = #[tb]) (htb : Tryz.prog.underlying tb = some .bool)
    (hrd : (fn.params.toList.all fun t => Tryz.prog.readableRec t && decide (t < Tryz.prog.types.size)) = true)
    (witness : ∃ (w : World) (tape : Tape) (i : Input), w.os = os ∧ (w.forCall tape i).Shaped Tryz.checked.prog ∧ i.vars = [] ∧ Input.okWide Tryz.checked.prog (w.forCall tape i) .any w.heap.size f i ∧
      ((s.pre enc Tryz.checked.prog fn conds false (w.forCall tape i).memory i.args ∧ laidMetH Tryz.prog laidL (w.forCall tape i).memory) ∧ sizedMet enc Tryz.checked.prog fn (OpenSpec.ofChange s) false (w.forCall tape i).memory i.args) ∧ ({} : Assume).holds Tryz.checked.prog (lone (Frame.enter Tryz.checked.prog f i.args .normal) [] (w.forCall tape i)))
    (walk : ∀ (W : World) (base : Nat) (args : Array Value) (ds : List (DataW H)) (ps : List MemPlace), Pow10 W →
      (∀ (j : Nat) t v, fn.params[j]? = some t → args[j]? = some v → Value.okWide Tryz.prog W .any base t v) →
      DataW.TrodAll enc Tryz.prog W 0 (fun _ => true) true fn.params.toList args.toList ds ps →
      conds.all (PathCond.test Tryz.prog ⟨fn.params.toList, ds, [], []⟩) = true →
      (DataW.weightsEach Tryz.prog fn.params.toList ds).all (· ≤ reachBytes) = true →
      Ret Tryz.prog f args W fun v W' => v = .bool true ∧ Upd No W W') :
    ReturnsInHanded {} Tryz.checked os f .any (fun w args => (s.pre enc Tryz.prog fn conds false w args ∧ laidMetH Tryz.prog laidL w) ∧ sizedMet enc Tryz.prog fn (OpenSpec.ofChange s) false w args) (s.post enc Tryz.prog fn false true false false) := by
  refine returnsInHanded_of_change_and (C := Tryz.checked) (X := fun w _ => laidMetH Tryz.prog laidL w) (fun _ _ _ hh h => h.of_heap hh) own_none started noInit hfn witness ?_
  intro W base args ds gs before hval hW hcnd hwt hL _
  have hW' := hW
  obtain ⟨p, q, hA, hV, rfl, hz, hnd⟩ := hW
  have hvt : s.plain.varTypes Tryz.checked.prog = [] := by simp [ChangeSpec.plain, DataSpec.varTypes, hv]
  have hV0 := hV
  rw [hv] at hV
  obtain ⟨rfl, rfl⟩ := trodVars_none hV
  simp only [hvt, List.append_nil] at hwt hcnd hW' hz
  have hA' : DataW.TrodAll enc Tryz.prog W 0 (fun _ => true) true fn.params.toList args.toList ds p := hA
  refine Calls.mono (walk W base args ds p (pow_of_laid hL) hval hA' hcnd hwt) ?_
  rintro e W' ⟨v, rfl, rfl, hu⟩
  have hb : Below W.heap.size W W' := hu.below (Nat.le_refl _) (fun _ h => h.elim)
  have hlt : ∀ x ∈ p, x.block < W.heap.size := hA'.lt
  have hsf := hspec ds (trodAll_length hA')
  have harg : ∀ sp : Nat → Bool, (∀ x ∈ p, sp x.block = true) → DataW.TrodAll enc Tryz.prog W' 0 sp true fn.params.toList args.toList ds p := fun sp hs => trodAll_below laid_out hb hrd hA' hlt hs
  have hr1 : ∀ (b : Nat) (sp : Nat → Bool) (hd : Bool), DataW.TrodAll enc Tryz.prog W' b sp hd fn.resultTypes.toList ((Value.bool true).resultList fn.resultTypes.size) [.lit (.bool true)] [] := fun b sp hd => by
    rw [hres]
    exact trodAll_cons_mk (p' := []) (shut_bool htb _) trodAll_mk0
  have hvars : ∀ sp : Nat → Bool, DataW.TrodVars enc Tryz.prog W' sp s.vars [] [] := fun sp => by
    rw [hv]; exact rfl
  refine ⟨_, rfl, ds, [], p, [], p, [], hW', ?_, ?_, ?_, World.keptBut_mono (fun _ f => f.elim) (hb.frame fun _ => False), fun h => by cases h⟩
  · rw [List.append_nil, hsf]; exact hr1 _ _ _
  · rw [List.append_nil, hsf]; exact harg _ (fun x hx => by simpa using hlt x hx)
  · rw [List.append_nil, hsf]; exact hvars _
end Go.Proofs.YtomkdhkkggbioaaGreatDoor
