/-
  Several texts put together: Coa, Fla, Fopen, Frep, CoO, CoQ, Cob.
-/
import Derived.Test.YtipabhbnljadfaaDoorTie
import Derived.Test.YtipabhbnljadfaaDoorCards
import Derived.LaidMore
import Derived.LaidHandle
import Derived.MakeChecks
import Derived.Stop.Joined
import Derived.Test.YtipabhbnljadfaaDoorZb
/-
  code: what an instruction asks, and what it leaves.
-/
namespace Go.Proofs.YtipabhbnljadfaaDoor
open Go
set_option linter.unusedSimpArgs false
set_option linter.unusedVariables false

abbrev I64 (n : Int) : Value := .int .i64 n
/-- the two tables -/
def Tk (w : World) : Prop := Rd w (fun _ => True) (.slice (some ⟨0, 0, none⟩) 27 27) 27 1 (takesT.map I64) ∧ Rd w (fun _ => True) (.slice (some ⟨1, 0, none⟩) 27 27) 27 1 (leavesT.map I64)
theorem Tk.upd {w w' : World} (h : Tk w) (hu : Upd No w w') : Tk w' := ⟨h.1.upd hu (fun _ _ _ h => h), h.2.upd hu (fun _ _ _ h => h)⟩
theorem Tk.upd2 {w w' : World} {S : Nat → Prop} (h : Tk w) (hu : Upd S w w') (h0 : ¬ S 0) (h1 : ¬ S 1) : Tk w' := by
  obtain ⟨⟨A, c, e1, a1, a2, a3, a4⟩, ⟨B, d, e2, b1, b2, b3, b4⟩⟩ := h
  refine ⟨⟨A, c, e1, a1, a2, a3, fun hn => ?_⟩, ⟨B, d, e2, b1, b2, b3, fun hn => ?_⟩⟩
  · obtain ⟨x, y, hA, h3, h4, h5⟩ := a4 hn
    injection e1 with e1
    rw [← e1] at hA
    injection hA with hA
    injection hA with hA1 hA2
    subst hA1
    exact ⟨0, y, by rw [← e1, hA2], h3, by have := hu.size; omega, fun j u hj => (cell?_of_eq (hu.block 0 h4 h0) _ _).trans (h5 j u hj)⟩
  · obtain ⟨x, y, hA, h3, h4, h5⟩ := b4 hn
    injection e2 with e2
    rw [← e2] at hA
    injection hA with hA
    injection hA with hA1 hA2
    subst hA1
    exact ⟨1, y, by rw [← e2, hA2], h3, by have := hu.size; omega, fun j u hj => (cell?_of_eq (hu.block 1 h4 h1) _ _).trans (h5 j u hj)⟩
theorem tkT_cell {op : Nat} (h : op < 27) : (takesT.map I64)[op]? = some (I64 (tkT op)) := by
  have key : ∀ q : Fin 27, takesT[q.1]? = some (tkT q.1) := by decide
  rw [List.getElem?_map, key ⟨op, h⟩]
  rfl
theorem lvT_cell {op : Nat} (h : op < 27) : (leavesT.map I64)[op]? = some (I64 (lvT op)) := by
  have key : ∀ q : Fin 27, leavesT[q.1]? = some (lvT q.1) := by decide
  rw [List.getElem?_map, key ⟨op, h⟩]
  rfl

/-- a function as it stands in a row: how many it captures; the slice of its instructions -/
structure FnV where
  f : Fn
  v : Value
def FnV.cells (x : FnV) : List Value := [.int .i64 x.f.caps, x.v]
theorem FnV.cells_len (x : FnV) : x.cells.length = 2 := rfl
/-- functions in memory, of whatever types -/
def IsFs (w : World) (H : Nat → Prop) (v : Value) (l : List Fn) : Prop := ∃ V : List FnV, Rd w H v V.length 2 (V.flatMap FnV.cells) ∧ (∀ x ∈ V, Rd w H x.v x.f.code.length 4 (x.f.code.flatMap insC)) ∧ V.map FnV.f = l
theorem IsFs.upd {w w' : World} {H S : Nat → Prop} {v : Value} {l : List Fn} (h : IsFs w H v l) (hu : Upd S w w') (hn : ∀ k, H k → k < w.heap.size → ¬ S k) : IsFs w' H v l := by
  obtain ⟨V, h1, h2, h3⟩ := h
  exact ⟨V, h1.upd hu hn, fun x hx => (h2 x hx).upd hu hn, h3⟩
theorem IsFs.mono {w : World} {H H' : Nat → Prop} {v : Value} {l : List Fn} (h : IsFs w H v l) (hn : ∀ k, H k → H' k) : IsFs w H' v l := by
  obtain ⟨V, h1, h2, h3⟩ := h
  exact ⟨V, h1.mono hn, fun x hx => (h2 x hx).mono hn, h3⟩
/-- instructions and functions that the machine holds -/
def OKs (l : List Fn) : Prop := ∀ f ∈ l, inK .i64 f.caps ∧ ∀ i ∈ f.code, i.ok

theorem wrap_inK (k : IntKind) (n : Int) : inK k (k.wrap n) := by
  cases k <;> simp only [inK, IntKind.wrap, IntKind.signed, IntKind.bits, Bool.true_and, Bool.false_and, Bool.false_eq_true, if_false] <;>
    first
    | omega
    | (split <;> (rename_i h'; simp only [ge_iff_le, decide_eq_true_eq] at h'; omega))

set_option maxHeartbeats 4000000 in
theorem fine_ok {w : World} {F : Fn} {A : Option Addr} {n c : Nat} {i : In} {d t globs : Int} {H : Nat → Prop} {allv : Value} {all : List Fn} (hT : Tk w) (hall : IsFs w H allv all) (hi : i.ok) (hd : inK .i64 d) (ht : inK .i64 t) (hF : inK .i64 F.caps) :
    Ret Tryd.prog 35 #[.agg #[.int .i64 F.caps, .slice A n c], .agg (insC i).toArray, .int .i64 d, .int .i64 t, allv, .int .i64 globs] w fun u w' => (∃ b, u = .bool b ∧ (b = true → i.op < 27) ∧ (1 ≤ d → b = fineB F i d t all globs)) ∧ Upd No w w' := by
  obtain ⟨V, hV, hVc, hVl⟩ := hall
  obtain ⟨Aa, ca, rfl, hca⟩ := hV.slice_form
  have hVm := hV.le
  have hVn : V.length = all.length := by rw [← hVl, List.length_map]
  obtain ⟨h1, h2, h3, h4⟩ := hi
  simp only [inK] at h2 h3 hd ht hF
  obtain ⟨op, In_, Ia, Is⟩ := i
  simp only at h1 h2 h3 h4
  unfold insC
  unfold fineB
  simp only
  refine enterRet (vs := [_, _, _, _, _, _]) (N := 160) Tryd.func35 rfl rfl rfl ?_
  have hU := Upd.refl No w
  refine WC.keep [(0, _), (1, _), (2, _), (3, _), (4, _), (5, _)] ⟨rfl, rfl, rfl, rfl, rfl, rfl, trivial⟩ ?_
  refine WC.seq ?_
  refine WC.region ?_
  refine WL.cons (SO.alloc rfl rfl rfl rfl (r_boxAgg rfl (ev_t rfl)) ?_)
  intro w1 hu1 hB1 hz1
  have hs1 := hu1.size
  replace hU := hU.transA hu1
  refine WL.cons (SO.alloc rfl rfl rfl rfl (r_boxAgg rfl (ev_t rfl)) ?_)
  intro w2 hu2 hB2 hz2
  have hs2 := hu2.size
  replace hU := hU.transA hu2
  replace hB1 := hB1.updA hu2
  refine WL.val rfl rfl rfl rfl (r_assign rfl ev_c) ?_
  refine WL.nil ?_
  refine WX.keep [(2, _), (3, _), (4, _), (5, _), (6, _), (7, _)] ⟨rfl, rfl, rfl, rfl, rfl, rfl, trivial⟩ ?_
  refine WX.next ?_
  refine WC.seq ?_
  refine WC.seq ?_
  refine WC.region ?_
  first | refine WL.val rfl rfl rfl rfl (r_field0 rfl (ev_t rfl) fld_44_0) ?_ | refine WL.val rfl rfl rfl rfl (r_fieldAt rfl (ev_t rfl) fld_44_0) ?_
  first | refine WL.val rfl rfl rfl rfl (r_load rfl (ev_t rfl) flat_5 (Blk.cell hB1 rfl)) ?_ | refine WL.val rfl rfl rfl rfl (r_load rfl (ev_t rfl) flat_5 (Blk.cell hB2 rfl)) ?_
  first | refine WL.val rfl rfl rfl rfl (r_convN rfl (ev_t rfl) some_5 int_3 (by simp only [inK]; omega)) ?_ | refine WL.val rfl rfl rfl rfl (r_conv rfl (ev_t rfl) some_5 int_3) ?_
  refine WL.val rfl rfl rfl rfl (r_geq rfl (ev_t rfl) ev_c) ?_
  refine WL.nil ?_
  refine WX.keep [(2, _), (3, _), (4, _), (5, _), (6, _), (7, _), (17, _)] ⟨rfl, rfl, rfl, rfl, rfl, rfl, rfl, trivial⟩ ?_
  refine WX.next ?_
  refine WC.cond rfl (ev_t rfl) (fun hc1 => ?_) (fun hc1 => ?_)
  · try (exfalso; first | (simp at hc1; done) | (simp only [decide_eq_true_eq, decide_eq_false_iff_not, Bool.not_eq_true', Bool.not_eq_false', Bool.not_eq_true, Bool.not_eq_false] at hc1; omega) | omega)
    all_goals
     try simp only [decide_eq_true_eq, decide_eq_false_iff_not, Bool.not_eq_true', Bool.not_eq_false', Bool.not_eq_true, Bool.not_eq_false, Option.isNone_none, Option.isNone_some, Option.isSome_none, Option.isSome_some, ne_eq, Decidable.not_not] at hc1
     refine WC.seq ?_
     refine WC.region ?_
     refine WL.val rfl rfl rfl rfl (r_assign rfl ev_c) ?_
     refine WL.nil ?_
     refine WX.keep [(12, _)] ⟨rfl, trivial⟩ ?_
     refine WX.next ?_
     refine WC.ret ?_
     refine WX.thenRet ?_
     refine WX.retE1 rfl rfl ?_
     exact ⟨⟨_, rfl, (fun h => by cases h), fun _ => by rw [if_pos (by omega)]⟩, hU⟩
  · try (exfalso; first | (simp at hc1; done) | (simp only [decide_eq_true_eq, decide_eq_false_iff_not, Bool.not_eq_true', Bool.not_eq_false', Bool.not_eq_true, Bool.not_eq_false] at hc1; omega) | omega)
    all_goals
     try simp only [decide_eq_true_eq, decide_eq_false_iff_not, Bool.not_eq_true', Bool.not_eq_false', Bool.not_eq_true, Bool.not_eq_false, Option.isNone_none, Option.isNone_some, Option.isSome_none, Option.isSome_some, ne_eq, Decidable.not_not] at hc1
     refine WC.skip ?_
     refine WX.next ?_
     refine WC.seq ?_
     refine WC.region ?_
     refine WL.val rfl rfl rfl rfl (r_move rfl (ev_t rfl)) ?_
     refine WL.val rfl rfl rfl rfl (r_assign rfl (ev_t rfl)) ?_
     refine WL.nil ?_
     refine WX.keep [(2, _), (3, _), (4, _), (5, _), (6, _), (7, _), (13, _)] ⟨rfl, rfl, rfl, rfl, rfl, rfl, rfl, trivial⟩ ?_
     refine WX.next ?_
     refine WC.seq ?_
     refine WC.seq ?_
     refine WC.region ?_
     first | refine WL.val rfl rfl rfl rfl (r_field0 rfl (ev_t rfl) fld_44_0) ?_ | refine WL.val rfl rfl rfl rfl (r_fieldAt rfl (ev_t rfl) fld_44_0) ?_
     first | refine WL.val rfl rfl rfl rfl (r_load rfl (ev_t rfl) flat_5 (Blk.cell hB1 rfl)) ?_ | refine WL.val rfl rfl rfl rfl (r_load rfl (ev_t rfl) flat_5 (Blk.cell hB2 rfl)) ?_
     refine WL.nil ?_
     refine WX.keep [(2, _), (3, _), (4, _), (5, _), (6, _), (7, _), (13, _), (20, _)] ⟨rfl, rfl, rfl, rfl, rfl, rfl, rfl, rfl, trivial⟩ ?_
     refine WX.next ?_
     refine WC.block ?_
     refine WC.seq ?_
     refine WC.region ?_
     refine WL.val rfl rfl rfl rfl (r_eql rfl (ev_t rfl) ev_c) ?_
     refine WL.val rfl rfl rfl rfl (r_assign rfl (ev_t rfl)) ?_
     refine WL.nil ?_
     refine WX.keep [(2, _), (3, _), (4, _), (5, _), (6, _), (7, _), (13, _), (20, _), (21, _)] ⟨rfl, rfl, rfl, rfl, rfl, rfl, rfl, rfl, rfl, trivial⟩ ?_
     refine WX.next ?_
     refine WC.cond rfl (ev_t rfl) (fun hc5 => ?_) (fun hc5 => ?_)
     · try (exfalso; first | (simp at hc5; done) | (simp only [decide_eq_true_eq, decide_eq_false_iff_not, Bool.not_eq_true', Bool.not_eq_false', Bool.not_eq_true, Bool.not_eq_false] at hc5; omega) | omega)
       all_goals
        try simp only [decide_eq_true_eq, decide_eq_false_iff_not, Bool.not_eq_true', Bool.not_eq_false', Bool.not_eq_true, Bool.not_eq_false, Option.isNone_none, Option.isNone_some, Option.isSome_none, Option.isSome_some, ne_eq, Decidable.not_not] at hc5
        refine WC.seq ?_
        refine WC.region ?_
        first | refine WL.val rfl rfl rfl rfl (r_field0 rfl (ev_t rfl) fld_44_1) ?_ | refine WL.val rfl rfl rfl rfl (r_fieldAt rfl (ev_t rfl) fld_44_1) ?_
        first | refine WL.val rfl rfl rfl rfl (r_load rfl (ev_t rfl) flat_2 (Blk.cell hB1 rfl)) ?_ | refine WL.val rfl rfl rfl rfl (r_load rfl (ev_t rfl) flat_2 (Blk.cell hB2 rfl)) ?_
        refine WL.val rfl rfl rfl rfl (r_geq rfl (ev_t rfl) ev_c) ?_
        refine WL.val rfl rfl rfl rfl (r_move rfl (ev_t rfl)) ?_
        refine WL.cases 26 rfl (fun hb6_3 => ?_) (fun hb6_3 => ?_)
        · try (exfalso; first | (simp at hb6_3; done) | (simp only [decide_eq_true_eq, decide_eq_false_iff_not, Bool.not_eq_true', Bool.not_eq_false', Bool.not_eq_true, Bool.not_eq_false] at hb6_3; omega) | omega)
          all_goals
           try simp only [decide_eq_true_eq, decide_eq_false_iff_not, Bool.not_eq_true', Bool.not_eq_false', Bool.not_eq_true, Bool.not_eq_false, Option.isNone_none, Option.isNone_some, Option.isSome_none, Option.isSome_some, ne_eq, Decidable.not_not] at hb6_3
           first | refine WL.val rfl rfl rfl rfl (r_field0 rfl (ev_t rfl) fld_44_1) ?_ | refine WL.val rfl rfl rfl rfl (r_fieldAt rfl (ev_t rfl) fld_44_1) ?_
           first | refine WL.val rfl rfl rfl rfl (r_load rfl (ev_t rfl) flat_2 (Blk.cell hB1 rfl)) ?_ | refine WL.val rfl rfl rfl rfl (r_load rfl (ev_t rfl) flat_2 (Blk.cell hB2 rfl)) ?_
           refine WL.val rfl rfl rfl rfl (r_move rfl (ev_t rfl)) ?_
           refine WL.val rfl rfl rfl rfl (r_lss rfl (ev_t rfl) (ev_t rfl)) ?_
           refine WL.val rfl rfl rfl rfl (r_pickT rfl (ev_t rfl) (ev_t rfl)) ?_
           refine WL.val rfl rfl rfl rfl (r_assign rfl (ev_t rfl)) ?_
           refine WL.nil ?_
           refine WX.keep [(12, _)] ⟨rfl, trivial⟩ ?_
           refine WX.next ?_
           refine WC.ret ?_
           refine WX.blockRet ?_
           refine WX.thenRet ?_
           refine WX.retE1 rfl rfl ?_
           refine ⟨⟨_, rfl, (fun _ => by omega), fun _ => ?_⟩, hU⟩
           simp (disch := omega) only [if_pos, if_neg]
           try rw [Bool.eq_iff_iff]
           try rw [wrap_i64_in (by omega) (by omega)]
           try simp only [Bool.and_eq_true, decide_eq_true_eq, Bool.false_eq_true, false_iff]
           try omega
        · try (exfalso; first | (simp at hb6_3; done) | (simp only [decide_eq_true_eq, decide_eq_false_iff_not, Bool.not_eq_true', Bool.not_eq_false', Bool.not_eq_true, Bool.not_eq_false] at hb6_3; omega) | omega)
          all_goals
           try simp only [decide_eq_true_eq, decide_eq_false_iff_not, Bool.not_eq_true', Bool.not_eq_false', Bool.not_eq_true, Bool.not_eq_false, Option.isNone_none, Option.isNone_some, Option.isSome_none, Option.isSome_some, ne_eq, Decidable.not_not] at hb6_3
           refine WL.skip rfl rfl rfl ?_
           refine WL.skip rfl rfl rfl ?_
           refine WL.skip rfl rfl rfl ?_
           refine WL.skip rfl rfl rfl ?_
           refine WL.val rfl rfl rfl rfl (r_pickF rfl (ev_t rfl) ev_c) ?_
           refine WL.val rfl rfl rfl rfl (r_assign rfl (ev_t rfl)) ?_
           refine WL.nil ?_
           refine WX.keep [(12, _)] ⟨rfl, trivial⟩ ?_
           refine WX.next ?_
           refine WC.ret ?_
           refine WX.blockRet ?_
           refine WX.thenRet ?_
           refine WX.retE1 rfl rfl ?_
           refine ⟨⟨_, rfl, (fun _ => by omega), fun _ => ?_⟩, hU⟩
           simp (disch := omega) only [if_pos, if_neg]
           try rw [Bool.eq_iff_iff]
           try rw [wrap_i64_in (by omega) (by omega)]
           try simp only [Bool.and_eq_true, decide_eq_true_eq, Bool.false_eq_true, false_iff]
           try omega
     · try (exfalso; first | (simp at hc5; done) | (simp only [decide_eq_true_eq, decide_eq_false_iff_not, Bool.not_eq_true', Bool.not_eq_false', Bool.not_eq_true, Bool.not_eq_false] at hc5; omega) | omega)
       all_goals
        try simp only [decide_eq_true_eq, decide_eq_false_iff_not, Bool.not_eq_true', Bool.not_eq_false', Bool.not_eq_true, Bool.not_eq_false, Option.isNone_none, Option.isNone_some, Option.isSome_none, Option.isSome_some, ne_eq, Decidable.not_not] at hc5
        refine WC.seq ?_
        refine WC.region ?_
        refine WL.val rfl rfl rfl rfl (r_eql rfl (ev_t rfl) ev_c) ?_
        refine WL.val rfl rfl rfl rfl (r_assign rfl (ev_t rfl)) ?_
        refine WL.nil ?_
        refine WX.keep [(2, _), (3, _), (4, _), (5, _), (6, _), (7, _), (13, _), (20, _), (32, _)] ⟨rfl, rfl, rfl, rfl, rfl, rfl, rfl, rfl, rfl, trivial⟩ ?_
        refine WX.next ?_
        refine WC.cond rfl (ev_t rfl) (fun hc7 => ?_) (fun hc7 => ?_)
        · try (exfalso; first | (simp at hc7; done) | (simp only [decide_eq_true_eq, decide_eq_false_iff_not, Bool.not_eq_true', Bool.not_eq_false', Bool.not_eq_true, Bool.not_eq_false] at hc7; omega) | omega)
          all_goals
           try simp only [decide_eq_true_eq, decide_eq_false_iff_not, Bool.not_eq_true', Bool.not_eq_false', Bool.not_eq_true, Bool.not_eq_false, Option.isNone_none, Option.isNone_some, Option.isSome_none, Option.isSome_some, ne_eq, Decidable.not_not] at hc7
           refine WC.seq ?_
           refine WC.region ?_
           first | refine WL.val rfl rfl rfl rfl (r_field0 rfl (ev_t rfl) fld_44_1) ?_ | refine WL.val rfl rfl rfl rfl (r_fieldAt rfl (ev_t rfl) fld_44_1) ?_
           first | refine WL.val rfl rfl rfl rfl (r_load rfl (ev_t rfl) flat_2 (Blk.cell hB1 rfl)) ?_ | refine WL.val rfl rfl rfl rfl (r_load rfl (ev_t rfl) flat_2 (Blk.cell hB2 rfl)) ?_
           refine WL.val rfl rfl rfl rfl (r_geq rfl (ev_t rfl) ev_c) ?_
           refine WL.val rfl rfl rfl rfl (r_move rfl (ev_t rfl)) ?_
           refine WL.cases 37 rfl (fun hb8_3 => ?_) (fun hb8_3 => ?_)
           · try (exfalso; first | (simp at hb8_3; done) | (simp only [decide_eq_true_eq, decide_eq_false_iff_not, Bool.not_eq_true', Bool.not_eq_false', Bool.not_eq_true, Bool.not_eq_false] at hb8_3; omega) | omega)
             all_goals
              try simp only [decide_eq_true_eq, decide_eq_false_iff_not, Bool.not_eq_true', Bool.not_eq_false', Bool.not_eq_true, Bool.not_eq_false, Option.isNone_none, Option.isNone_some, Option.isSome_none, Option.isSome_some, ne_eq, Decidable.not_not] at hb8_3
              first | refine WL.val rfl rfl rfl rfl (r_field0 rfl (ev_t rfl) fld_44_1) ?_ | refine WL.val rfl rfl rfl rfl (r_fieldAt rfl (ev_t rfl) fld_44_1) ?_
              first | refine WL.val rfl rfl rfl rfl (r_load rfl (ev_t rfl) flat_2 (Blk.cell hB1 rfl)) ?_ | refine WL.val rfl rfl rfl rfl (r_load rfl (ev_t rfl) flat_2 (Blk.cell hB2 rfl)) ?_
              first | refine WL.val rfl rfl rfl rfl (r_field0 rfl (ev_t rfl) fld_42_0) ?_ | refine WL.val rfl rfl rfl rfl (r_fieldAt rfl (ev_t rfl) fld_42_0) ?_
              first | refine WL.val rfl rfl rfl rfl (r_load rfl (ev_t rfl) flat_3 (Blk.cell hB1 rfl)) ?_ | refine WL.val rfl rfl rfl rfl (r_load rfl (ev_t rfl) flat_3 (Blk.cell hB2 rfl)) ?_
              refine WL.val rfl rfl rfl rfl (r_lss rfl (ev_t rfl) (ev_t rfl)) ?_
              refine WL.val rfl rfl rfl rfl (r_pickT rfl (ev_t rfl) (ev_t rfl)) ?_
              refine WL.val rfl rfl rfl rfl (r_assign rfl (ev_t rfl)) ?_
              refine WL.nil ?_
              refine WX.keep [(12, _)] ⟨rfl, trivial⟩ ?_
              refine WX.next ?_
              refine WC.ret ?_
              refine WX.blockRet ?_
              refine WX.thenRet ?_
              refine WX.retE1 rfl rfl ?_
              refine ⟨⟨_, rfl, (fun _ => by omega), fun _ => ?_⟩, hU⟩
              simp (disch := omega) only [if_pos, if_neg]
              try rw [Bool.eq_iff_iff]
              try rw [wrap_i64_in (by omega) (by omega)]
              try simp only [Bool.and_eq_true, decide_eq_true_eq, Bool.false_eq_true, false_iff]
              try omega
           · try (exfalso; first | (simp at hb8_3; done) | (simp only [decide_eq_true_eq, decide_eq_false_iff_not, Bool.not_eq_true', Bool.not_eq_false', Bool.not_eq_true, Bool.not_eq_false] at hb8_3; omega) | omega)
             all_goals
              try simp only [decide_eq_true_eq, decide_eq_false_iff_not, Bool.not_eq_true', Bool.not_eq_false', Bool.not_eq_true, Bool.not_eq_false, Option.isNone_none, Option.isNone_some, Option.isSome_none, Option.isSome_some, ne_eq, Decidable.not_not] at hb8_3
              refine WL.skip rfl rfl rfl ?_
              refine WL.skip rfl rfl rfl ?_
              refine WL.skip rfl rfl rfl ?_
              refine WL.skip rfl rfl rfl ?_
              refine WL.skip rfl rfl rfl ?_
              refine WL.val rfl rfl rfl rfl (r_pickF rfl (ev_t rfl) ev_c) ?_
              refine WL.val rfl rfl rfl rfl (r_assign rfl (ev_t rfl)) ?_
              refine WL.nil ?_
              refine WX.keep [(12, _)] ⟨rfl, trivial⟩ ?_
              refine WX.next ?_
              refine WC.ret ?_
              refine WX.blockRet ?_
              refine WX.thenRet ?_
              refine WX.retE1 rfl rfl ?_
              refine ⟨⟨_, rfl, (fun _ => by omega), fun _ => ?_⟩, hU⟩
              simp (disch := omega) only [if_pos, if_neg]
              try rw [Bool.eq_iff_iff]
              try rw [wrap_i64_in (by omega) (by omega)]
              try simp only [Bool.and_eq_true, decide_eq_true_eq, Bool.false_eq_true, false_iff]
              try omega
        · try (exfalso; first | (simp at hc7; done) | (simp only [decide_eq_true_eq, decide_eq_false_iff_not, Bool.not_eq_true', Bool.not_eq_false', Bool.not_eq_true, Bool.not_eq_false] at hc7; omega) | omega)
          all_goals
           try simp only [decide_eq_true_eq, decide_eq_false_iff_not, Bool.not_eq_true', Bool.not_eq_false', Bool.not_eq_true, Bool.not_eq_false, Option.isNone_none, Option.isNone_some, Option.isSome_none, Option.isSome_some, ne_eq, Decidable.not_not] at hc7
           refine WC.seq ?_
           refine WC.region ?_
           refine WL.val rfl rfl rfl rfl (r_eql rfl (ev_t rfl) ev_c) ?_
           refine WL.val rfl rfl rfl rfl (r_assign rfl (ev_t rfl)) ?_
           refine WL.nil ?_
           refine WX.keep [(2, _), (3, _), (4, _), (5, _), (7, _), (13, _), (20, _), (44, _)] ⟨rfl, rfl, rfl, rfl, rfl, rfl, rfl, rfl, trivial⟩ ?_
           refine WX.next ?_
           refine WC.cond rfl (ev_t rfl) (fun hc9 => ?_) (fun hc9 => ?_)
           · try (exfalso; first | (simp at hc9; done) | (simp only [decide_eq_true_eq, decide_eq_false_iff_not, Bool.not_eq_true', Bool.not_eq_false', Bool.not_eq_true, Bool.not_eq_false] at hc9; omega) | omega)
             all_goals
              try simp only [decide_eq_true_eq, decide_eq_false_iff_not, Bool.not_eq_true', Bool.not_eq_false', Bool.not_eq_true, Bool.not_eq_false, Option.isNone_none, Option.isNone_some, Option.isSome_none, Option.isSome_some, ne_eq, Decidable.not_not] at hc9
              refine WC.seq ?_
              refine WC.region ?_
              first | refine WL.val rfl rfl rfl rfl (r_field0 rfl (ev_t rfl) fld_44_1) ?_ | refine WL.val rfl rfl rfl rfl (r_fieldAt rfl (ev_t rfl) fld_44_1) ?_
              first | refine WL.val rfl rfl rfl rfl (r_load rfl (ev_t rfl) flat_2 (Blk.cell hB1 rfl)) ?_ | refine WL.val rfl rfl rfl rfl (r_load rfl (ev_t rfl) flat_2 (Blk.cell hB2 rfl)) ?_
              refine WL.val rfl rfl rfl rfl (r_geq rfl (ev_t rfl) ev_c) ?_
              refine WL.val rfl rfl rfl rfl (r_move rfl (ev_t rfl)) ?_
              refine WL.cases 49 rfl (fun hb10_3 => ?_) (fun hb10_3 => ?_)
              · try (exfalso; first | (simp at hb10_3; done) | (simp only [decide_eq_true_eq, decide_eq_false_iff_not, Bool.not_eq_true', Bool.not_eq_false', Bool.not_eq_true, Bool.not_eq_false] at hb10_3; omega) | omega)
                all_goals
                 try simp only [decide_eq_true_eq, decide_eq_false_iff_not, Bool.not_eq_true', Bool.not_eq_false', Bool.not_eq_true, Bool.not_eq_false, Option.isNone_none, Option.isNone_some, Option.isSome_none, Option.isSome_some, ne_eq, Decidable.not_not] at hb10_3
                 first | refine WL.val rfl rfl rfl rfl (r_field0 rfl (ev_t rfl) fld_44_1) ?_ | refine WL.val rfl rfl rfl rfl (r_fieldAt rfl (ev_t rfl) fld_44_1) ?_
                 first | refine WL.val rfl rfl rfl rfl (r_load rfl (ev_t rfl) flat_2 (Blk.cell hB1 rfl)) ?_ | refine WL.val rfl rfl rfl rfl (r_load rfl (ev_t rfl) flat_2 (Blk.cell hB2 rfl)) ?_
                 refine WL.val rfl rfl rfl rfl (r_move rfl (ev_t rfl)) ?_
                 refine WL.val rfl rfl rfl rfl (r_lss rfl (ev_t rfl) (ev_t rfl)) ?_
                 refine WL.val rfl rfl rfl rfl (r_pickT rfl (ev_t rfl) (ev_t rfl)) ?_
                 refine WL.val rfl rfl rfl rfl (r_assign rfl (ev_t rfl)) ?_
                 refine WL.nil ?_
                 refine WX.keep [(12, _)] ⟨rfl, trivial⟩ ?_
                 refine WX.next ?_
                 refine WC.ret ?_
                 refine WX.blockRet ?_
                 refine WX.thenRet ?_
                 refine WX.retE1 rfl rfl ?_
                 refine ⟨⟨_, rfl, (fun _ => by omega), fun _ => ?_⟩, hU⟩
                 simp (disch := omega) only [if_pos, if_neg]
                 try rw [Bool.eq_iff_iff]
                 try rw [wrap_i64_in (by omega) (by omega)]
                 try simp only [Bool.and_eq_true, decide_eq_true_eq, Bool.false_eq_true, false_iff]
                 try omega
              · try (exfalso; first | (simp at hb10_3; done) | (simp only [decide_eq_true_eq, decide_eq_false_iff_not, Bool.not_eq_true', Bool.not_eq_false', Bool.not_eq_true, Bool.not_eq_false] at hb10_3; omega) | omega)
                all_goals
                 try simp only [decide_eq_true_eq, decide_eq_false_iff_not, Bool.not_eq_true', Bool.not_eq_false', Bool.not_eq_true, Bool.not_eq_false, Option.isNone_none, Option.isNone_some, Option.isSome_none, Option.isSome_some, ne_eq, Decidable.not_not] at hb10_3
                 refine WL.skip rfl rfl rfl ?_
                 refine WL.skip rfl rfl rfl ?_
                 refine WL.skip rfl rfl rfl ?_
                 refine WL.skip rfl rfl rfl ?_
                 refine WL.val rfl rfl rfl rfl (r_pickF rfl (ev_t rfl) ev_c) ?_
                 refine WL.val rfl rfl rfl rfl (r_assign rfl (ev_t rfl)) ?_
                 refine WL.nil ?_
                 refine WX.keep [(12, _)] ⟨rfl, trivial⟩ ?_
                 refine WX.next ?_
                 refine WC.ret ?_
                 refine WX.blockRet ?_
                 refine WX.thenRet ?_
                 refine WX.retE1 rfl rfl ?_
                 refine ⟨⟨_, rfl, (fun _ => by omega), fun _ => ?_⟩, hU⟩
                 simp (disch := omega) only [if_pos, if_neg]
                 try rw [Bool.eq_iff_iff]
                 try rw [wrap_i64_in (by omega) (by omega)]
                 try simp only [Bool.and_eq_true, decide_eq_true_eq, Bool.false_eq_true, false_iff]
                 try omega
           · try (exfalso; first | (simp at hc9; done) | (simp only [decide_eq_true_eq, decide_eq_false_iff_not, Bool.not_eq_true', Bool.not_eq_false', Bool.not_eq_true, Bool.not_eq_false] at hc9; omega) | omega)
             all_goals
              try simp only [decide_eq_true_eq, decide_eq_false_iff_not, Bool.not_eq_true', Bool.not_eq_false', Bool.not_eq_true, Bool.not_eq_false, Option.isNone_none, Option.isNone_some, Option.isSome_none, Option.isSome_some, ne_eq, Decidable.not_not] at hc9
              refine WC.seq ?_
              refine WC.region ?_
              refine WL.val rfl rfl rfl rfl (r_eql rfl (ev_t rfl) ev_c) ?_
              refine WL.val rfl rfl rfl rfl (r_assign rfl (ev_t rfl)) ?_
              refine WL.nil ?_
              refine WX.keep [(2, _), (3, _), (4, _), (7, _), (13, _), (20, _), (55, _)] ⟨rfl, rfl, rfl, rfl, rfl, rfl, rfl, trivial⟩ ?_
              refine WX.next ?_
              refine WC.cond rfl (ev_t rfl) (fun hc11 => ?_) (fun hc11 => ?_)
              · try (exfalso; first | (simp at hc11; done) | (simp only [decide_eq_true_eq, decide_eq_false_iff_not, Bool.not_eq_true', Bool.not_eq_false', Bool.not_eq_true, Bool.not_eq_false] at hc11; omega) | omega)
                all_goals
                 try simp only [decide_eq_true_eq, decide_eq_false_iff_not, Bool.not_eq_true', Bool.not_eq_false', Bool.not_eq_true, Bool.not_eq_false, Option.isNone_none, Option.isNone_some, Option.isSome_none, Option.isSome_some, ne_eq, Decidable.not_not] at hc11
                 refine WC.seq ?_
                 refine WC.draws' (fun u0_ u1_ => Upd No u0_ u1_) (fun j => [0, 1, 0, 0, 0, 1, 0, 0, 0, 0, 0, 0, 0, 0, 0, 0, 0, 0, 1, 0, 0, 0, 0, 2, 0, 0, 0, 0].getD j 0) (.calm 0 (.one 1 (.calm 2 (.calm 3 (.calm 4 (.calm 6 (.calm 7 (.one 5 (.calm 8 (.calm 9 (.calm 10 (.calm 11 (.calm 12 (.calm 17 (.held 13 (.calm 14 (.calm 15 (.held 16 (.one 18 (.calm 19 (.calm 20 (.calm 21 (.calm 22 (.calm 24 (.one 23 (.calm 25 (.calm 26 (.calm 27 (.done))))))))))))))))))))))))))))) mixed (by kernel_rfl) (by repeat (first | with_reducible exact Deaf.body | with_reducible apply Deaf.then | with_reducible apply Deaf.block)) ?_
                 intro w3 hu3
                 have hz3 := congrArg Array.size hu3.2.2.2
                 replace hu3 := Upd.of_draw hu3
                 have hs3 := hu3.size
                 replace hU := hU.transA hu3
                 replace hB1 := hB1.updA hu3
                 replace hB2 := hB2.updA hu3
                 have hS12 := Upd.refl No w3
                 first | refine WN.calm _ rfl rfl rfl rfl rfl (fun _ => r_field0 rfl (ev_t rfl) fld_44_1) ?_ | refine WN.calm _ rfl rfl rfl rfl rfl (fun _ => r_fieldAt rfl (ev_t rfl) fld_44_1) ?_
                 first | refine WN.step _ rfl (SO.val rfl rfl rfl rfl (r_load rfl (ev_t rfl) flat_2 (Blk.cell hB1 rfl)) ?_) | refine WN.step _ rfl (SO.val rfl rfl rfl rfl (r_load rfl (ev_t rfl) flat_2 (Blk.cell hB2 rfl)) ?_)
                 refine ⟨hS12, ?_⟩
                 refine WN.calm _ rfl rfl rfl rfl rfl (fun _ => r_geq rfl (ev_t rfl) ev_c) ?_
                 refine WN.calm _ rfl rfl rfl rfl rfl (fun _ => r_move rfl (ev_t rfl)) ?_
                 refine WN.cases 60 rfl (fun hb12_3 => ?_) (fun hb12_3 => ?_)
                 · try (exfalso; first | (simp at hb12_3; done) | (simp only [decide_eq_true_eq, decide_eq_false_iff_not, Bool.not_eq_true', Bool.not_eq_false', Bool.not_eq_true, Bool.not_eq_false] at hb12_3; omega) | omega)
                   all_goals
                    try simp only [decide_eq_true_eq, decide_eq_false_iff_not, Bool.not_eq_true', Bool.not_eq_false', Bool.not_eq_true, Bool.not_eq_false, Option.isNone_none, Option.isNone_some, Option.isSome_none, Option.isSome_some, ne_eq, Decidable.not_not] at hb12_3
                    first | refine WN.calm _ rfl rfl rfl rfl rfl (fun _ => r_field0 rfl (ev_t rfl) fld_44_1) ?_ | refine WN.calm _ rfl rfl rfl rfl rfl (fun _ => r_fieldAt rfl (ev_t rfl) fld_44_1) ?_
                    refine WN.calm _ rfl rfl rfl rfl rfl (fun _ => r_move rfl (ev_t rfl)) ?_
                    refine WN.calm _ rfl rfl rfl rfl rfl (fun _ => r_lenSlice (ts := #[]) rfl (ev_t rfl) elem_22) ?_
                    first | refine WN.step _ rfl (SO.val rfl rfl rfl rfl (r_load rfl (ev_t rfl) flat_2 (Blk.cell hB1 rfl)) ?_) | refine WN.step _ rfl (SO.val rfl rfl rfl rfl (r_load rfl (ev_t rfl) flat_2 (Blk.cell hB2 rfl)) ?_)
                    refine ⟨hS12, ?_⟩
                    refine WN.calm _ rfl rfl rfl rfl rfl (fun _ => r_lss rfl (ev_t rfl) (ev_t rfl)) ?_
                    refine WN.calm _ rfl rfl rfl rfl rfl (fun _ => r_pickT rfl (ev_t rfl) (ev_t rfl)) ?_
                    refine WN.calm _ rfl rfl rfl rfl rfl (fun _ => r_move rfl (ev_t rfl)) ?_
                    refine WN.cases 67 rfl (fun hb12_10 => ?_) (fun hb12_10 => ?_)
                    · try (exfalso; first | (simp at hb12_10; done) | (simp only [decide_eq_true_eq, decide_eq_false_iff_not, Bool.not_eq_true', Bool.not_eq_false', Bool.not_eq_true, Bool.not_eq_false] at hb12_10; omega) | omega)
                      all_goals
                       try simp only [decide_eq_true_eq, decide_eq_false_iff_not, Bool.not_eq_true', Bool.not_eq_false', Bool.not_eq_true, Bool.not_eq_false, Option.isNone_none, Option.isNone_some, Option.isSome_none, Option.isSome_some, ne_eq, Decidable.not_not] at hb12_10
                       obtain ⟨x, hx⟩ : ∃ x, V[In_.toNat]? = some x := ⟨_, List.getElem?_eq_getElem (by omega)⟩
                       have hcell := flatMap_get FnV.cells_len hx
                       have hxa : (all[In_.toNat]?).map (·.caps) = some x.f.caps := by rw [← hVl, List.getElem?_map, hx]; rfl
                       obtain ⟨ba, oa, rfl, _⟩ := hV.open (by omega)
                       refine WN.calm _ rfl rfl rfl rfl rfl (fun _ => r_move rfl (ev_t rfl)) ?_
                       first | refine WN.calm _ rfl rfl rfl rfl rfl (fun _ => r_field0 rfl (ev_t rfl) fld_44_1) ?_ | refine WN.calm _ rfl rfl rfl rfl rfl (fun _ => r_fieldAt rfl (ev_t rfl) fld_44_1) ?_
                       first | refine WN.calm _ rfl rfl rfl rfl rfl (fun _ => r_field0 rfl (ev_t rfl) fld_44_2) ?_ | refine WN.calm _ rfl rfl rfl rfl rfl (fun _ => r_fieldAt rfl (ev_t rfl) fld_44_2) ?_
                       first | refine WN.held _ rfl rfl rfl rfl rfl hS12 (fun w' hS => r_load rfl (ev_t rfl) flat_2 (Blk.cell (hB1.upd hS (fun h => h)) rfl)) ?_ | refine WN.held _ rfl rfl rfl rfl rfl hS12 (fun w' hS => r_load rfl (ev_t rfl) flat_2 (Blk.cell (hB2.upd hS (fun h => h)) rfl)) ?_
                       refine WN.calm _ rfl rfl rfl rfl rfl (fun _ => r_indexAddr rfl (ev_t rfl) (ev_t rfl) elem_22 size_42 (by omega) (by omega)) ?_
                       first | refine WN.calm _ rfl rfl rfl rfl rfl (fun _ => r_field0 rfl (ev_t rfl) fld_42_0) ?_ | refine WN.calm _ rfl rfl rfl rfl rfl (fun _ => r_fieldAt rfl (ev_t rfl) fld_42_0) ?_
                       refine WN.held _ rfl rfl rfl rfl rfl hS12 (fun w' hS => r_load rfl (ev_t rfl) flat_3 (Rd.cell ((hV.upd hU (fun _ _ _ h => h)).upd hS (fun _ _ _ h => h)) (j := In_.toNat * 2) (by omega) (hcell 0 _ rfl))) ?_
                       first | refine WN.step _ rfl (SO.val rfl rfl rfl rfl (r_load rfl (ev_t rfl) flat_3 (Blk.cell hB1 rfl)) ?_) | refine WN.step _ rfl (SO.val rfl rfl rfl rfl (r_load rfl (ev_t rfl) flat_3 (Blk.cell hB2 rfl)) ?_)
                       refine ⟨hS12, ?_⟩
                       refine WN.calm _ rfl rfl rfl rfl rfl (fun _ => r_eql rfl (ev_t rfl) (ev_t rfl)) ?_
                       refine WN.calm _ rfl rfl rfl rfl rfl (fun _ => r_pickT rfl (ev_t rfl) (ev_t rfl)) ?_
                       refine WN.calm _ rfl rfl rfl rfl rfl (fun _ => r_move rfl (ev_t rfl)) ?_
                       refine WN.cases 78 rfl (fun hb12_21 => ?_) (fun hb12_21 => ?_)
                       · try (exfalso; first | (simp at hb12_21; done) | (simp only [decide_eq_true_eq, decide_eq_false_iff_not, Bool.not_eq_true', Bool.not_eq_false', Bool.not_eq_true, Bool.not_eq_false] at hb12_21; omega) | omega)
                         all_goals
                          try simp only [decide_eq_true_eq, decide_eq_false_iff_not, Bool.not_eq_true', Bool.not_eq_false', Bool.not_eq_true, Bool.not_eq_false, Option.isNone_none, Option.isNone_some, Option.isSome_none, Option.isSome_some, ne_eq, Decidable.not_not] at hb12_21
                          first | refine WN.calm _ rfl rfl rfl rfl rfl (fun _ => r_field0 rfl (ev_t rfl) fld_44_2) ?_ | refine WN.calm _ rfl rfl rfl rfl rfl (fun _ => r_fieldAt rfl (ev_t rfl) fld_44_2) ?_
                          refine WN.calm _ rfl rfl rfl rfl rfl (fun _ => r_move rfl (ev_t rfl)) ?_
                          first | refine WN.step _ rfl (SO.val rfl rfl rfl rfl (r_load rfl (ev_t rfl) flat_3 (Blk.cell hB1 rfl)) ?_) | refine WN.step _ rfl (SO.val rfl rfl rfl rfl (r_load rfl (ev_t rfl) flat_3 (Blk.cell hB2 rfl)) ?_)
                          refine ⟨trivial, ?_⟩
                          refine WN.calm _ rfl rfl rfl rfl rfl (fun _ => r_lss rfl (ev_t rfl) (ev_t rfl)) ?_
                          refine WN.calm _ rfl rfl rfl rfl rfl (fun _ => r_pickT rfl (ev_t rfl) (ev_t rfl)) ?_
                          refine WN.calm _ rfl rfl rfl rfl rfl (fun _ => r_assign rfl (ev_t rfl)) ?_
                          refine WN.done ?_
                          refine WX.keep [(12, _)] ⟨rfl, trivial⟩ ?_
                          refine WX.next ?_
                          refine WC.ret ?_
                          refine WX.blockRet ?_
                          refine WX.thenRet ?_
                          refine WX.retE1 rfl rfl ?_
                          refine ⟨⟨_, rfl, (fun _ => by omega), fun _ => ?_⟩, hU⟩
                          simp (disch := omega) only [if_pos, if_neg]
                          rw [Bool.eq_iff_iff]
                          first
                            | (rw [hxa]; simp only [Bool.and_eq_true, decide_eq_true_eq, Bool.false_eq_true, Option.some.injEq, false_iff]; omega)
                            | (simp only [Bool.and_eq_true, decide_eq_true_eq, Bool.false_eq_true, false_iff]; rintro ⟨⟨⟨a1, a2⟩, _⟩, a4⟩; omega)
                       · try (exfalso; first | (simp at hb12_21; done) | (simp only [decide_eq_true_eq, decide_eq_false_iff_not, Bool.not_eq_true', Bool.not_eq_false', Bool.not_eq_true, Bool.not_eq_false] at hb12_21; omega) | omega)
                         all_goals
                          try simp only [decide_eq_true_eq, decide_eq_false_iff_not, Bool.not_eq_true', Bool.not_eq_false', Bool.not_eq_true, Bool.not_eq_false, Option.isNone_none, Option.isNone_some, Option.isSome_none, Option.isSome_some, ne_eq, Decidable.not_not] at hb12_21
                          refine WN.skip _ rfl rfl rfl rfl ?_
                          refine WN.skip _ rfl rfl rfl rfl ?_
                          refine WN.step _ rfl (SO.skip rfl rfl rfl ?_)
                          refine ⟨trivial, ?_⟩
                          refine WN.skip _ rfl rfl rfl rfl ?_
                          refine WN.calm _ rfl rfl rfl rfl rfl (fun _ => r_pickF rfl (ev_t rfl) ev_c) ?_
                          refine WN.calm _ rfl rfl rfl rfl rfl (fun _ => r_assign rfl (ev_t rfl)) ?_
                          refine WN.done ?_
                          refine WX.keep [(12, _)] ⟨rfl, trivial⟩ ?_
                          refine WX.next ?_
                          refine WC.ret ?_
                          refine WX.blockRet ?_
                          refine WX.thenRet ?_
                          refine WX.retE1 rfl rfl ?_
                          refine ⟨⟨_, rfl, (fun _ => by omega), fun _ => ?_⟩, hU⟩
                          simp (disch := omega) only [if_pos, if_neg]
                          rw [Bool.eq_iff_iff]
                          first
                            | (rw [hxa]; simp only [Bool.and_eq_true, decide_eq_true_eq, Bool.false_eq_true, Option.some.injEq, false_iff]; omega)
                            | (simp only [Bool.and_eq_true, decide_eq_true_eq, Bool.false_eq_true, false_iff]; rintro ⟨⟨⟨a1, a2⟩, _⟩, a4⟩; omega)
                    · try (exfalso; first | (simp at hb12_10; done) | (simp only [decide_eq_true_eq, decide_eq_false_iff_not, Bool.not_eq_true', Bool.not_eq_false', Bool.not_eq_true, Bool.not_eq_false] at hb12_10; omega) | omega)
                      all_goals
                       try simp only [decide_eq_true_eq, decide_eq_false_iff_not, Bool.not_eq_true', Bool.not_eq_false', Bool.not_eq_true, Bool.not_eq_false, Option.isNone_none, Option.isNone_some, Option.isSome_none, Option.isSome_some, ne_eq, Decidable.not_not] at hb12_10
                       refine WN.skip _ rfl rfl rfl rfl ?_
                       refine WN.skip _ rfl rfl rfl rfl ?_
                       refine WN.skip _ rfl rfl rfl rfl ?_
                       refine WN.heldSkip _ rfl rfl rfl rfl hS12 ?_
                       refine WN.skip _ rfl rfl rfl rfl ?_
                       refine WN.skip _ rfl rfl rfl rfl ?_
                       refine WN.heldSkip _ rfl rfl rfl rfl hS12 ?_
                       refine WN.step _ rfl (SO.skip rfl rfl rfl ?_)
                       refine ⟨hS12, ?_⟩
                       refine WN.skip _ rfl rfl rfl rfl ?_
                       refine WN.calm _ rfl rfl rfl rfl rfl (fun _ => r_pickF rfl (ev_t rfl) ev_c) ?_
                       refine WN.calm _ rfl rfl rfl rfl rfl (fun _ => r_move rfl (ev_t rfl)) ?_
                       refine WN.skip _ rfl rfl rfl rfl ?_
                       refine WN.skip _ rfl rfl rfl rfl ?_
                       refine WN.step _ rfl (SO.skip rfl rfl rfl ?_)
                       refine ⟨trivial, ?_⟩
                       refine WN.skip _ rfl rfl rfl rfl ?_
                       refine WN.calm _ rfl rfl rfl rfl rfl (fun _ => r_pickF rfl (ev_t rfl) ev_c) ?_
                       refine WN.calm _ rfl rfl rfl rfl rfl (fun _ => r_assign rfl (ev_t rfl)) ?_
                       refine WN.done ?_
                       refine WX.keep [(12, _)] ⟨rfl, trivial⟩ ?_
                       refine WX.next ?_
                       refine WC.ret ?_
                       refine WX.blockRet ?_
                       refine WX.thenRet ?_
                       refine WX.retE1 rfl rfl ?_
                       refine ⟨⟨_, rfl, (fun _ => by omega), fun _ => ?_⟩, hU⟩
                       simp (disch := omega) only [if_pos, if_neg]
                       rw [Bool.eq_iff_iff]
                       first
                         | (rw [hxa]; simp only [Bool.and_eq_true, decide_eq_true_eq, Bool.false_eq_true, Option.some.injEq, false_iff]; omega)
                         | (simp only [Bool.and_eq_true, decide_eq_true_eq, Bool.false_eq_true, false_iff]; rintro ⟨⟨⟨a1, a2⟩, _⟩, a4⟩; omega)
                 · try (exfalso; first | (simp at hb12_3; done) | (simp only [decide_eq_true_eq, decide_eq_false_iff_not, Bool.not_eq_true', Bool.not_eq_false', Bool.not_eq_true, Bool.not_eq_false] at hb12_3; omega) | omega)
                   all_goals
                    try simp only [decide_eq_true_eq, decide_eq_false_iff_not, Bool.not_eq_true', Bool.not_eq_false', Bool.not_eq_true, Bool.not_eq_false, Option.isNone_none, Option.isNone_some, Option.isSome_none, Option.isSome_some, ne_eq, Decidable.not_not] at hb12_3
                    refine WN.skip _ rfl rfl rfl rfl ?_
                    refine WN.skip _ rfl rfl rfl rfl ?_
                    refine WN.skip _ rfl rfl rfl rfl ?_
                    refine WN.step _ rfl (SO.skip rfl rfl rfl ?_)
                    refine ⟨hS12, ?_⟩
                    refine WN.skip _ rfl rfl rfl rfl ?_
                    refine WN.calm _ rfl rfl rfl rfl rfl (fun _ => r_pickF rfl (ev_t rfl) ev_c) ?_
                    refine WN.calm _ rfl rfl rfl rfl rfl (fun _ => r_move rfl (ev_t rfl)) ?_
                    refine WN.skip _ rfl rfl rfl rfl ?_
                    refine WN.skip _ rfl rfl rfl rfl ?_
                    refine WN.skip _ rfl rfl rfl rfl ?_
                    refine WN.heldSkip _ rfl rfl rfl rfl hS12 ?_
                    refine WN.skip _ rfl rfl rfl rfl ?_
                    refine WN.skip _ rfl rfl rfl rfl ?_
                    refine WN.heldSkip _ rfl rfl rfl rfl hS12 ?_
                    refine WN.step _ rfl (SO.skip rfl rfl rfl ?_)
                    refine ⟨hS12, ?_⟩
                    refine WN.skip _ rfl rfl rfl rfl ?_
                    refine WN.calm _ rfl rfl rfl rfl rfl (fun _ => r_pickF rfl (ev_t rfl) ev_c) ?_
                    refine WN.calm _ rfl rfl rfl rfl rfl (fun _ => r_move rfl (ev_t rfl)) ?_
                    refine WN.skip _ rfl rfl rfl rfl ?_
                    refine WN.skip _ rfl rfl rfl rfl ?_
                    refine WN.step _ rfl (SO.skip rfl rfl rfl ?_)
                    refine ⟨trivial, ?_⟩
                    refine WN.skip _ rfl rfl rfl rfl ?_
                    refine WN.calm _ rfl rfl rfl rfl rfl (fun _ => r_pickF rfl (ev_t rfl) ev_c) ?_
                    refine WN.calm _ rfl rfl rfl rfl rfl (fun _ => r_assign rfl (ev_t rfl)) ?_
                    refine WN.done ?_
                    refine WX.keep [(12, _)] ⟨rfl, trivial⟩ ?_
                    refine WX.next ?_
                    refine WC.ret ?_
                    refine WX.blockRet ?_
                    refine WX.thenRet ?_
                    refine WX.retE1 rfl rfl ?_
                    refine ⟨⟨_, rfl, (fun _ => by omega), fun _ => ?_⟩, hU⟩
                    simp (disch := omega) only [if_pos, if_neg]
                    rw [Bool.eq_iff_iff]
                    first
                      | (rw [hxa]; simp only [Bool.and_eq_true, decide_eq_true_eq, Bool.false_eq_true, Option.some.injEq, false_iff]; omega)
                      | (simp only [Bool.and_eq_true, decide_eq_true_eq, Bool.false_eq_true, false_iff]; rintro ⟨⟨⟨a1, a2⟩, _⟩, a4⟩; omega)
              · try (exfalso; first | (simp at hc11; done) | (simp only [decide_eq_true_eq, decide_eq_false_iff_not, Bool.not_eq_true', Bool.not_eq_false', Bool.not_eq_true, Bool.not_eq_false] at hc11; omega) | omega)
                all_goals
                 try simp only [decide_eq_true_eq, decide_eq_false_iff_not, Bool.not_eq_true', Bool.not_eq_false', Bool.not_eq_true, Bool.not_eq_false, Option.isNone_none, Option.isNone_some, Option.isSome_none, Option.isSome_some, ne_eq, Decidable.not_not] at hc11
                 refine WC.seq ?_
                 refine WC.region ?_
                 refine WL.val rfl rfl rfl rfl (r_eql rfl (ev_t rfl) ev_c) ?_
                 refine WL.val rfl rfl rfl rfl (r_assign rfl (ev_t rfl)) ?_
                 refine WL.nil ?_
                 refine WX.keep [(2, _), (3, _), (7, _), (13, _), (20, _), (84, _)] ⟨rfl, rfl, rfl, rfl, rfl, rfl, trivial⟩ ?_
                 refine WX.next ?_
                 refine WC.cond rfl (ev_t rfl) (fun hc13 => ?_) (fun hc13 => ?_)
                 · try (exfalso; first | (simp at hc13; done) | (simp only [decide_eq_true_eq, decide_eq_false_iff_not, Bool.not_eq_true', Bool.not_eq_false', Bool.not_eq_true, Bool.not_eq_false] at hc13; omega) | omega)
                   all_goals
                    try simp only [decide_eq_true_eq, decide_eq_false_iff_not, Bool.not_eq_true', Bool.not_eq_false', Bool.not_eq_true, Bool.not_eq_false, Option.isNone_none, Option.isNone_some, Option.isSome_none, Option.isSome_some, ne_eq, Decidable.not_not] at hc13
                    refine WC.seq ?_
                    refine WC.region ?_
                    first | refine WL.val rfl rfl rfl rfl (r_field0 rfl (ev_t rfl) fld_44_1) ?_ | refine WL.val rfl rfl rfl rfl (r_fieldAt rfl (ev_t rfl) fld_44_1) ?_
                    first | refine WL.val rfl rfl rfl rfl (r_load rfl (ev_t rfl) flat_2 (Blk.cell hB1 rfl)) ?_ | refine WL.val rfl rfl rfl rfl (r_load rfl (ev_t rfl) flat_2 (Blk.cell hB2 rfl)) ?_
                    refine WL.val rfl rfl rfl rfl (r_geq rfl (ev_t rfl) ev_c) ?_
                    refine WL.val rfl rfl rfl rfl (r_move rfl (ev_t rfl)) ?_
                    refine WL.cases 89 rfl (fun hb14_3 => ?_) (fun hb14_3 => ?_)
                    · try (exfalso; first | (simp at hb14_3; done) | (simp only [decide_eq_true_eq, decide_eq_false_iff_not, Bool.not_eq_true', Bool.not_eq_false', Bool.not_eq_true, Bool.not_eq_false] at hb14_3; omega) | omega)
                      all_goals
                       try simp only [decide_eq_true_eq, decide_eq_false_iff_not, Bool.not_eq_true', Bool.not_eq_false', Bool.not_eq_true, Bool.not_eq_false, Option.isNone_none, Option.isNone_some, Option.isSome_none, Option.isSome_some, ne_eq, Decidable.not_not] at hb14_3
                       first | refine WL.val rfl rfl rfl rfl (r_field0 rfl (ev_t rfl) fld_44_1) ?_ | refine WL.val rfl rfl rfl rfl (r_fieldAt rfl (ev_t rfl) fld_44_1) ?_
                       first | refine WL.val rfl rfl rfl rfl (r_load rfl (ev_t rfl) flat_2 (Blk.cell hB1 rfl)) ?_ | refine WL.val rfl rfl rfl rfl (r_load rfl (ev_t rfl) flat_2 (Blk.cell hB2 rfl)) ?_
                       refine WL.val rfl rfl rfl rfl (r_move rfl (ev_t rfl)) ?_
                       refine WL.val rfl rfl rfl rfl (r_lss rfl (ev_t rfl) (ev_t rfl)) ?_
                       refine WL.val rfl rfl rfl rfl (r_pickT rfl (ev_t rfl) (ev_t rfl)) ?_
                       refine WL.val rfl rfl rfl rfl (r_move rfl (ev_t rfl)) ?_
                       refine WL.cases 95 rfl (fun hb14_9 => ?_) (fun hb14_9 => ?_)
                       · try (exfalso; first | (simp at hb14_9; done) | (simp only [decide_eq_true_eq, decide_eq_false_iff_not, Bool.not_eq_true', Bool.not_eq_false', Bool.not_eq_true, Bool.not_eq_false] at hb14_9; omega) | omega)
                         all_goals
                          try simp only [decide_eq_true_eq, decide_eq_false_iff_not, Bool.not_eq_true', Bool.not_eq_false', Bool.not_eq_true, Bool.not_eq_false, Option.isNone_none, Option.isNone_some, Option.isSome_none, Option.isSome_some, ne_eq, Decidable.not_not] at hb14_9
                          first | refine WL.val rfl rfl rfl rfl (r_field0 rfl (ev_t rfl) fld_44_1) ?_ | refine WL.val rfl rfl rfl rfl (r_fieldAt rfl (ev_t rfl) fld_44_1) ?_
                          first | refine WL.val rfl rfl rfl rfl (r_load rfl (ev_t rfl) flat_2 (Blk.cell hB1 rfl)) ?_ | refine WL.val rfl rfl rfl rfl (r_load rfl (ev_t rfl) flat_2 (Blk.cell hB2 rfl)) ?_
                          refine WL.val rfl rfl rfl rfl (r_leq rfl (ev_t rfl) ev_c) ?_
                          refine WL.val rfl rfl rfl rfl (r_pickT rfl (ev_t rfl) (ev_t rfl)) ?_
                          refine WL.val rfl rfl rfl rfl (r_assign rfl (ev_t rfl)) ?_
                          refine WL.nil ?_
                          refine WX.keep [(12, _)] ⟨rfl, trivial⟩ ?_
                          refine WX.next ?_
                          refine WC.ret ?_
                          refine WX.blockRet ?_
                          refine WX.thenRet ?_
                          refine WX.retE1 rfl rfl ?_
                          refine ⟨⟨_, rfl, (fun _ => by omega), fun _ => ?_⟩, hU⟩
                          simp (disch := omega) only [if_pos, if_neg]
                          try rw [Bool.eq_iff_iff]
                          try rw [wrap_i64_in (by omega) (by omega)]
                          try simp only [Bool.and_eq_true, decide_eq_true_eq, Bool.false_eq_true, false_iff]
                          try omega
                       · try (exfalso; first | (simp at hb14_9; done) | (simp only [decide_eq_true_eq, decide_eq_false_iff_not, Bool.not_eq_true', Bool.not_eq_false', Bool.not_eq_true, Bool.not_eq_false] at hb14_9; omega) | omega)
                         all_goals
                          try simp only [decide_eq_true_eq, decide_eq_false_iff_not, Bool.not_eq_true', Bool.not_eq_false', Bool.not_eq_true, Bool.not_eq_false, Option.isNone_none, Option.isNone_some, Option.isSome_none, Option.isSome_some, ne_eq, Decidable.not_not] at hb14_9
                          refine WL.skip rfl rfl rfl ?_
                          refine WL.skip rfl rfl rfl ?_
                          refine WL.skip rfl rfl rfl ?_
                          refine WL.val rfl rfl rfl rfl (r_pickF rfl (ev_t rfl) ev_c) ?_
                          refine WL.val rfl rfl rfl rfl (r_assign rfl (ev_t rfl)) ?_
                          refine WL.nil ?_
                          refine WX.keep [(12, _)] ⟨rfl, trivial⟩ ?_
                          refine WX.next ?_
                          refine WC.ret ?_
                          refine WX.blockRet ?_
                          refine WX.thenRet ?_
                          refine WX.retE1 rfl rfl ?_
                          refine ⟨⟨_, rfl, (fun _ => by omega), fun _ => ?_⟩, hU⟩
                          simp (disch := omega) only [if_pos, if_neg]
                          try rw [Bool.eq_iff_iff]
                          try rw [wrap_i64_in (by omega) (by omega)]
                          try simp only [Bool.and_eq_true, decide_eq_true_eq, Bool.false_eq_true, false_iff]
                          try omega
                    · try (exfalso; first | (simp at hb14_3; done) | (simp only [decide_eq_true_eq, decide_eq_false_iff_not, Bool.not_eq_true', Bool.not_eq_false', Bool.not_eq_true, Bool.not_eq_false] at hb14_3; omega) | omega)
                      all_goals
                       try simp only [decide_eq_true_eq, decide_eq_false_iff_not, Bool.not_eq_true', Bool.not_eq_false', Bool.not_eq_true, Bool.not_eq_false, Option.isNone_none, Option.isNone_some, Option.isSome_none, Option.isSome_some, ne_eq, Decidable.not_not] at hb14_3
                       refine WL.skip rfl rfl rfl ?_
                       refine WL.skip rfl rfl rfl ?_
                       refine WL.skip rfl rfl rfl ?_
                       refine WL.skip rfl rfl rfl ?_
                       refine WL.val rfl rfl rfl rfl (r_pickF rfl (ev_t rfl) ev_c) ?_
                       refine WL.val rfl rfl rfl rfl (r_move rfl (ev_t rfl)) ?_
                       refine WL.skip rfl rfl rfl ?_
                       refine WL.skip rfl rfl rfl ?_
                       refine WL.skip rfl rfl rfl ?_
                       refine WL.val rfl rfl rfl rfl (r_pickF rfl (ev_t rfl) ev_c) ?_
                       refine WL.val rfl rfl rfl rfl (r_assign rfl (ev_t rfl)) ?_
                       refine WL.nil ?_
                       refine WX.keep [(12, _)] ⟨rfl, trivial⟩ ?_
                       refine WX.next ?_
                       refine WC.ret ?_
                       refine WX.blockRet ?_
                       refine WX.thenRet ?_
                       refine WX.retE1 rfl rfl ?_
                       refine ⟨⟨_, rfl, (fun _ => by omega), fun _ => ?_⟩, hU⟩
                       simp (disch := omega) only [if_pos, if_neg]
                       try rw [Bool.eq_iff_iff]
                       try rw [wrap_i64_in (by omega) (by omega)]
                       try simp only [Bool.and_eq_true, decide_eq_true_eq, Bool.false_eq_true, false_iff]
                       try omega
                 · try (exfalso; first | (simp at hc13; done) | (simp only [decide_eq_true_eq, decide_eq_false_iff_not, Bool.not_eq_true', Bool.not_eq_false', Bool.not_eq_true, Bool.not_eq_false] at hc13; omega) | omega)
                   all_goals
                    try simp only [decide_eq_true_eq, decide_eq_false_iff_not, Bool.not_eq_true', Bool.not_eq_false', Bool.not_eq_true, Bool.not_eq_false, Option.isNone_none, Option.isNone_some, Option.isSome_none, Option.isSome_some, ne_eq, Decidable.not_not] at hc13
                    refine WC.seq ?_
                    refine WC.region ?_
                    refine WL.val rfl rfl rfl rfl (r_eql rfl (ev_t rfl) ev_c) ?_
                    refine WL.val rfl rfl rfl rfl (r_assign rfl (ev_t rfl)) ?_
                    refine WL.nil ?_
                    refine WX.keep [(2, _), (3, _), (7, _), (13, _), (20, _), (100, _)] ⟨rfl, rfl, rfl, rfl, rfl, rfl, trivial⟩ ?_
                    refine WX.next ?_
                    refine WC.cond rfl (ev_t rfl) (fun hc15 => ?_) (fun hc15 => ?_)
                    · try (exfalso; first | (simp at hc15; done) | (simp only [decide_eq_true_eq, decide_eq_false_iff_not, Bool.not_eq_true', Bool.not_eq_false', Bool.not_eq_true, Bool.not_eq_false] at hc15; omega) | omega)
                      all_goals
                       try simp only [decide_eq_true_eq, decide_eq_false_iff_not, Bool.not_eq_true', Bool.not_eq_false', Bool.not_eq_true, Bool.not_eq_false, Option.isNone_none, Option.isNone_some, Option.isSome_none, Option.isSome_some, ne_eq, Decidable.not_not] at hc15
                       refine WC.seq ?_
                       refine WC.region ?_
                       first | refine WL.val rfl rfl rfl rfl (r_field0 rfl (ev_t rfl) fld_44_1) ?_ | refine WL.val rfl rfl rfl rfl (r_fieldAt rfl (ev_t rfl) fld_44_1) ?_
                       first | refine WL.val rfl rfl rfl rfl (r_load rfl (ev_t rfl) flat_2 (Blk.cell hB1 rfl)) ?_ | refine WL.val rfl rfl rfl rfl (r_load rfl (ev_t rfl) flat_2 (Blk.cell hB2 rfl)) ?_
                       refine WL.val rfl rfl rfl rfl (r_geq rfl (ev_t rfl) ev_c) ?_
                       refine WL.val rfl rfl rfl rfl (r_move rfl (ev_t rfl)) ?_
                       refine WL.cases 105 rfl (fun hb16_3 => ?_) (fun hb16_3 => ?_)
                       · try (exfalso; first | (simp at hb16_3; done) | (simp only [decide_eq_true_eq, decide_eq_false_iff_not, Bool.not_eq_true', Bool.not_eq_false', Bool.not_eq_true, Bool.not_eq_false] at hb16_3; omega) | omega)
                         all_goals
                          try simp only [decide_eq_true_eq, decide_eq_false_iff_not, Bool.not_eq_true', Bool.not_eq_false', Bool.not_eq_true, Bool.not_eq_false, Option.isNone_none, Option.isNone_some, Option.isSome_none, Option.isSome_some, ne_eq, Decidable.not_not] at hb16_3
                          first | refine WL.val rfl rfl rfl rfl (r_field0 rfl (ev_t rfl) fld_44_1) ?_ | refine WL.val rfl rfl rfl rfl (r_fieldAt rfl (ev_t rfl) fld_44_1) ?_
                          first | refine WL.val rfl rfl rfl rfl (r_load rfl (ev_t rfl) flat_2 (Blk.cell hB1 rfl)) ?_ | refine WL.val rfl rfl rfl rfl (r_load rfl (ev_t rfl) flat_2 (Blk.cell hB2 rfl)) ?_
                          refine WL.val rfl rfl rfl rfl (r_move rfl (ev_t rfl)) ?_
                          first | refine WL.val rfl rfl rfl rfl (r_subN rfl (ev_t rfl) ev_c (by simp only [inK]; omega)) ?_ | refine WL.val rfl rfl rfl rfl (r_sub rfl (ev_t rfl) ev_c) ?_
                          refine WL.val rfl rfl rfl rfl (r_lss rfl (ev_t rfl) (ev_t rfl)) ?_
                          refine WL.val rfl rfl rfl rfl (r_pickT rfl (ev_t rfl) (ev_t rfl)) ?_
                          refine WL.val rfl rfl rfl rfl (r_assign rfl (ev_t rfl)) ?_
                          refine WL.nil ?_
                          refine WX.keep [(12, _)] ⟨rfl, trivial⟩ ?_
                          refine WX.next ?_
                          refine WC.ret ?_
                          refine WX.blockRet ?_
                          refine WX.thenRet ?_
                          refine WX.retE1 rfl rfl ?_
                          refine ⟨⟨_, rfl, (fun _ => by omega), fun _ => ?_⟩, hU⟩
                          simp (disch := omega) only [if_pos, if_neg]
                          try rw [Bool.eq_iff_iff]
                          try rw [wrap_i64_in (by omega) (by omega)]
                          try simp only [Bool.and_eq_true, decide_eq_true_eq, Bool.false_eq_true, false_iff]
                          try omega
                       · try (exfalso; first | (simp at hb16_3; done) | (simp only [decide_eq_true_eq, decide_eq_false_iff_not, Bool.not_eq_true', Bool.not_eq_false', Bool.not_eq_true, Bool.not_eq_false] at hb16_3; omega) | omega)
                         all_goals
                          try simp only [decide_eq_true_eq, decide_eq_false_iff_not, Bool.not_eq_true', Bool.not_eq_false', Bool.not_eq_true, Bool.not_eq_false, Option.isNone_none, Option.isNone_some, Option.isSome_none, Option.isSome_some, ne_eq, Decidable.not_not] at hb16_3
                          refine WL.skip rfl rfl rfl ?_
                          refine WL.skip rfl rfl rfl ?_
                          refine WL.skip rfl rfl rfl ?_
                          refine WL.skip rfl rfl rfl ?_
                          refine WL.skip rfl rfl rfl ?_
                          refine WL.val rfl rfl rfl rfl (r_pickF rfl (ev_t rfl) ev_c) ?_
                          refine WL.val rfl rfl rfl rfl (r_assign rfl (ev_t rfl)) ?_
                          refine WL.nil ?_
                          refine WX.keep [(12, _)] ⟨rfl, trivial⟩ ?_
                          refine WX.next ?_
                          refine WC.ret ?_
                          refine WX.blockRet ?_
                          refine WX.thenRet ?_
                          refine WX.retE1 rfl rfl ?_
                          refine ⟨⟨_, rfl, (fun _ => by omega), fun _ => ?_⟩, hU⟩
                          simp (disch := omega) only [if_pos, if_neg]
                          try rw [Bool.eq_iff_iff]
                          try rw [wrap_i64_in (by omega) (by omega)]
                          try simp only [Bool.and_eq_true, decide_eq_true_eq, Bool.false_eq_true, false_iff]
                          try omega
                    · try (exfalso; first | (simp at hc15; done) | (simp only [decide_eq_true_eq, decide_eq_false_iff_not, Bool.not_eq_true', Bool.not_eq_false', Bool.not_eq_true, Bool.not_eq_false] at hc15; omega) | omega)
                      all_goals
                       try simp only [decide_eq_true_eq, decide_eq_false_iff_not, Bool.not_eq_true', Bool.not_eq_false', Bool.not_eq_true, Bool.not_eq_false, Option.isNone_none, Option.isNone_some, Option.isSome_none, Option.isSome_some, ne_eq, Decidable.not_not] at hc15
                       refine WC.seq ?_
                       refine WC.region ?_
                       refine WL.val rfl rfl rfl rfl (r_eql rfl (ev_t rfl) ev_c) ?_
                       refine WL.val rfl rfl rfl rfl (r_assign rfl (ev_t rfl)) ?_
                       refine WL.nil ?_
                       refine WX.keep [(2, _), (3, _), (7, _), (20, _), (112, _)] ⟨rfl, rfl, rfl, rfl, rfl, trivial⟩ ?_
                       refine WX.next ?_
                       refine WC.cond rfl (ev_t rfl) (fun hc17 => ?_) (fun hc17 => ?_)
                       · try (exfalso; first | (simp at hc17; done) | (simp only [decide_eq_true_eq, decide_eq_false_iff_not, Bool.not_eq_true', Bool.not_eq_false', Bool.not_eq_true, Bool.not_eq_false] at hc17; omega) | omega)
                         all_goals
                          try simp only [decide_eq_true_eq, decide_eq_false_iff_not, Bool.not_eq_true', Bool.not_eq_false', Bool.not_eq_true, Bool.not_eq_false, Option.isNone_none, Option.isNone_some, Option.isSome_none, Option.isSome_some, ne_eq, Decidable.not_not] at hc17
                          refine WC.seq ?_
                          refine WC.region ?_
                          first | refine WL.val rfl rfl rfl rfl (r_field0 rfl (ev_t rfl) fld_44_1) ?_ | refine WL.val rfl rfl rfl rfl (r_fieldAt rfl (ev_t rfl) fld_44_1) ?_
                          first | refine WL.val rfl rfl rfl rfl (r_load rfl (ev_t rfl) flat_2 (Blk.cell hB1 rfl)) ?_ | refine WL.val rfl rfl rfl rfl (r_load rfl (ev_t rfl) flat_2 (Blk.cell hB2 rfl)) ?_
                          refine WL.val rfl rfl rfl rfl (r_geq rfl (ev_t rfl) ev_c) ?_
                          refine WL.val rfl rfl rfl rfl (r_move rfl (ev_t rfl)) ?_
                          refine WL.cases 117 rfl (fun hb18_3 => ?_) (fun hb18_3 => ?_)
                          · try (exfalso; first | (simp at hb18_3; done) | (simp only [decide_eq_true_eq, decide_eq_false_iff_not, Bool.not_eq_true', Bool.not_eq_false', Bool.not_eq_true, Bool.not_eq_false] at hb18_3; omega) | omega)
                            all_goals
                             try simp only [decide_eq_true_eq, decide_eq_false_iff_not, Bool.not_eq_true', Bool.not_eq_false', Bool.not_eq_true, Bool.not_eq_false, Option.isNone_none, Option.isNone_some, Option.isSome_none, Option.isSome_some, ne_eq, Decidable.not_not] at hb18_3
                             first | refine WL.val rfl rfl rfl rfl (r_field0 rfl (ev_t rfl) fld_44_1) ?_ | refine WL.val rfl rfl rfl rfl (r_fieldAt rfl (ev_t rfl) fld_44_1) ?_
                             first | refine WL.val rfl rfl rfl rfl (r_load rfl (ev_t rfl) flat_2 (Blk.cell hB1 rfl)) ?_ | refine WL.val rfl rfl rfl rfl (r_load rfl (ev_t rfl) flat_2 (Blk.cell hB2 rfl)) ?_
                             refine WL.val rfl rfl rfl rfl (r_leq rfl (ev_t rfl) ev_c) ?_
                             refine WL.val rfl rfl rfl rfl (r_pickT rfl (ev_t rfl) (ev_t rfl)) ?_
                             refine WL.val rfl rfl rfl rfl (r_move rfl (ev_t rfl)) ?_
                             refine WL.cases 122 rfl (fun hb18_8 => ?_) (fun hb18_8 => ?_)
                             · try (exfalso; first | (simp at hb18_8; done) | (simp only [decide_eq_true_eq, decide_eq_false_iff_not, Bool.not_eq_true', Bool.not_eq_false', Bool.not_eq_true, Bool.not_eq_false] at hb18_8; omega) | omega)
                               all_goals
                                try simp only [decide_eq_true_eq, decide_eq_false_iff_not, Bool.not_eq_true', Bool.not_eq_false', Bool.not_eq_true, Bool.not_eq_false, Option.isNone_none, Option.isNone_some, Option.isSome_none, Option.isSome_some, ne_eq, Decidable.not_not] at hb18_8
                                refine WL.val rfl rfl rfl rfl (r_move rfl (ev_t rfl)) ?_
                                refine WL.val rfl rfl rfl rfl (r_gtr rfl (ev_t rfl) ev_c) ?_
                                refine WL.val rfl rfl rfl rfl (r_pickT rfl (ev_t rfl) (ev_t rfl)) ?_
                                refine WL.val rfl rfl rfl rfl (r_assign rfl (ev_t rfl)) ?_
                                refine WL.nil ?_
                                refine WX.keep [(12, _)] ⟨rfl, trivial⟩ ?_
                                refine WX.next ?_
                                refine WC.ret ?_
                                refine WX.blockRet ?_
                                refine WX.thenRet ?_
                                refine WX.retE1 rfl rfl ?_
                                refine ⟨⟨_, rfl, (fun _ => by omega), fun _ => ?_⟩, hU⟩
                                simp (disch := omega) only [if_pos, if_neg]
                                try rw [Bool.eq_iff_iff]
                                try rw [wrap_i64_in (by omega) (by omega)]
                                try simp only [Bool.and_eq_true, decide_eq_true_eq, Bool.false_eq_true, false_iff]
                                try omega
                             · try (exfalso; first | (simp at hb18_8; done) | (simp only [decide_eq_true_eq, decide_eq_false_iff_not, Bool.not_eq_true', Bool.not_eq_false', Bool.not_eq_true, Bool.not_eq_false] at hb18_8; omega) | omega)
                               all_goals
                                try simp only [decide_eq_true_eq, decide_eq_false_iff_not, Bool.not_eq_true', Bool.not_eq_false', Bool.not_eq_true, Bool.not_eq_false, Option.isNone_none, Option.isNone_some, Option.isSome_none, Option.isSome_some, ne_eq, Decidable.not_not] at hb18_8
                                refine WL.skip rfl rfl rfl ?_
                                refine WL.skip rfl rfl rfl ?_
                                refine WL.val rfl rfl rfl rfl (r_pickF rfl (ev_t rfl) ev_c) ?_
                                refine WL.val rfl rfl rfl rfl (r_assign rfl (ev_t rfl)) ?_
                                refine WL.nil ?_
                                refine WX.keep [(12, _)] ⟨rfl, trivial⟩ ?_
                                refine WX.next ?_
                                refine WC.ret ?_
                                refine WX.blockRet ?_
                                refine WX.thenRet ?_
                                refine WX.retE1 rfl rfl ?_
                                refine ⟨⟨_, rfl, (fun _ => by omega), fun _ => ?_⟩, hU⟩
                                simp (disch := omega) only [if_pos, if_neg]
                                try rw [Bool.eq_iff_iff]
                                try rw [wrap_i64_in (by omega) (by omega)]
                                try simp only [Bool.and_eq_true, decide_eq_true_eq, Bool.false_eq_true, false_iff]
                                try omega
                          · try (exfalso; first | (simp at hb18_3; done) | (simp only [decide_eq_true_eq, decide_eq_false_iff_not, Bool.not_eq_true', Bool.not_eq_false', Bool.not_eq_true, Bool.not_eq_false] at hb18_3; omega) | omega)
                            all_goals
                             try simp only [decide_eq_true_eq, decide_eq_false_iff_not, Bool.not_eq_true', Bool.not_eq_false', Bool.not_eq_true, Bool.not_eq_false, Option.isNone_none, Option.isNone_some, Option.isSome_none, Option.isSome_some, ne_eq, Decidable.not_not] at hb18_3
                             refine WL.skip rfl rfl rfl ?_
                             refine WL.skip rfl rfl rfl ?_
                             refine WL.skip rfl rfl rfl ?_
                             refine WL.val rfl rfl rfl rfl (r_pickF rfl (ev_t rfl) ev_c) ?_
                             refine WL.val rfl rfl rfl rfl (r_move rfl (ev_t rfl)) ?_
                             refine WL.skip rfl rfl rfl ?_
                             refine WL.skip rfl rfl rfl ?_
                             refine WL.val rfl rfl rfl rfl (r_pickF rfl (ev_t rfl) ev_c) ?_
                             refine WL.val rfl rfl rfl rfl (r_assign rfl (ev_t rfl)) ?_
                             refine WL.nil ?_
                             refine WX.keep [(12, _)] ⟨rfl, trivial⟩ ?_
                             refine WX.next ?_
                             refine WC.ret ?_
                             refine WX.blockRet ?_
                             refine WX.thenRet ?_
                             refine WX.retE1 rfl rfl ?_
                             refine ⟨⟨_, rfl, (fun _ => by omega), fun _ => ?_⟩, hU⟩
                             simp (disch := omega) only [if_pos, if_neg]
                             try rw [Bool.eq_iff_iff]
                             try rw [wrap_i64_in (by omega) (by omega)]
                             try simp only [Bool.and_eq_true, decide_eq_true_eq, Bool.false_eq_true, false_iff]
                             try omega
                       · try (exfalso; first | (simp at hc17; done) | (simp only [decide_eq_true_eq, decide_eq_false_iff_not, Bool.not_eq_true', Bool.not_eq_false', Bool.not_eq_true, Bool.not_eq_false] at hc17; omega) | omega)
                         all_goals
                          try simp only [decide_eq_true_eq, decide_eq_false_iff_not, Bool.not_eq_true', Bool.not_eq_false', Bool.not_eq_true, Bool.not_eq_false, Option.isNone_none, Option.isNone_some, Option.isSome_none, Option.isSome_some, ne_eq, Decidable.not_not] at hc17
                          refine WC.seq ?_
                          refine WC.region ?_
                          refine WL.val rfl rfl rfl rfl (r_eql rfl (ev_t rfl) ev_c) ?_
                          refine WL.val rfl rfl rfl rfl (r_assign rfl (ev_t rfl)) ?_
                          refine WL.nil ?_
                          refine WX.keep [(2, _), (3, _), (7, _), (20, _), (126, _)] ⟨rfl, rfl, rfl, rfl, rfl, trivial⟩ ?_
                          refine WX.next ?_
                          refine WC.cond rfl (ev_t rfl) (fun hc19 => ?_) (fun hc19 => ?_)
                          · try (exfalso; first | (simp at hc19; done) | (simp only [decide_eq_true_eq, decide_eq_false_iff_not, Bool.not_eq_true', Bool.not_eq_false', Bool.not_eq_true, Bool.not_eq_false] at hc19; omega) | omega)
                            all_goals
                             try simp only [decide_eq_true_eq, decide_eq_false_iff_not, Bool.not_eq_true', Bool.not_eq_false', Bool.not_eq_true, Bool.not_eq_false, Option.isNone_none, Option.isNone_some, Option.isSome_none, Option.isSome_some, ne_eq, Decidable.not_not] at hc19
                             refine WC.seq ?_
                             refine WC.region ?_
                             refine WL.val rfl rfl rfl rfl (r_move rfl (ev_t rfl)) ?_
                             refine WL.val rfl rfl rfl rfl (r_gtr rfl (ev_t rfl) ev_c) ?_
                             refine WL.val rfl rfl rfl rfl (r_assign rfl (ev_t rfl)) ?_
                             refine WL.nil ?_
                             refine WX.keep [(12, _)] ⟨rfl, trivial⟩ ?_
                             refine WX.next ?_
                             refine WC.ret ?_
                             refine WX.blockRet ?_
                             refine WX.thenRet ?_
                             refine WX.retE1 rfl rfl ?_
                             refine ⟨⟨_, rfl, (fun _ => by omega), fun _ => ?_⟩, hU⟩
                             simp (disch := omega) only [if_pos, if_neg]
                             try rw [Bool.eq_iff_iff]
                             try rw [wrap_i64_in (by omega) (by omega)]
                             try simp only [Bool.and_eq_true, decide_eq_true_eq, Bool.false_eq_true, false_iff]
                             try omega
                          · try (exfalso; first | (simp at hc19; done) | (simp only [decide_eq_true_eq, decide_eq_false_iff_not, Bool.not_eq_true', Bool.not_eq_false', Bool.not_eq_true, Bool.not_eq_false] at hc19; omega) | omega)
                            all_goals
                             try simp only [decide_eq_true_eq, decide_eq_false_iff_not, Bool.not_eq_true', Bool.not_eq_false', Bool.not_eq_true, Bool.not_eq_false, Option.isNone_none, Option.isNone_some, Option.isSome_none, Option.isSome_some, ne_eq, Decidable.not_not] at hc19
                             refine WC.seq ?_
                             refine WC.region ?_
                             refine WL.val rfl rfl rfl rfl (r_eql rfl (ev_t rfl) ev_c) ?_
                             refine WL.val rfl rfl rfl rfl (r_assign rfl (ev_t rfl)) ?_
                             refine WL.nil ?_
                             refine WX.keep [(2, _), (3, _), (7, _), (20, _), (130, _)] ⟨rfl, rfl, rfl, rfl, rfl, trivial⟩ ?_
                             refine WX.next ?_
                             refine WC.cond rfl (ev_t rfl) (fun hc21 => ?_) (fun hc21 => ?_)
                             · try (exfalso; first | (simp at hc21; done) | (simp only [decide_eq_true_eq, decide_eq_false_iff_not, Bool.not_eq_true', Bool.not_eq_false', Bool.not_eq_true, Bool.not_eq_false] at hc21; omega) | omega)
                               all_goals
                                try simp only [decide_eq_true_eq, decide_eq_false_iff_not, Bool.not_eq_true', Bool.not_eq_false', Bool.not_eq_true, Bool.not_eq_false, Option.isNone_none, Option.isNone_some, Option.isSome_none, Option.isSome_some, ne_eq, Decidable.not_not] at hc21
                                refine WC.seq ?_
                                refine WC.region ?_
                                refine WL.val rfl rfl rfl rfl (r_move rfl (ev_t rfl)) ?_
                                refine WL.val rfl rfl rfl rfl (r_eql rfl (ev_t rfl) ev_c) ?_
                                refine WL.val rfl rfl rfl rfl (r_move rfl (ev_t rfl)) ?_
                                refine WL.cases 134 rfl (fun hb22_2 => ?_) (fun hb22_2 => ?_)
                                · try (exfalso; first | (simp at hb22_2; done) | (simp only [decide_eq_true_eq, decide_eq_false_iff_not, Bool.not_eq_true', Bool.not_eq_false', Bool.not_eq_true, Bool.not_eq_false] at hb22_2; omega) | omega)
                                  all_goals
                                   try simp only [decide_eq_true_eq, decide_eq_false_iff_not, Bool.not_eq_true', Bool.not_eq_false', Bool.not_eq_true, Bool.not_eq_false, Option.isNone_none, Option.isNone_some, Option.isSome_none, Option.isSome_some, ne_eq, Decidable.not_not] at hb22_2
                                   refine WL.val rfl rfl rfl rfl (r_move rfl (ev_t rfl)) ?_
                                   refine WL.val rfl rfl rfl rfl (r_eql rfl (ev_t rfl) ev_c) ?_
                                   refine WL.val rfl rfl rfl rfl (r_pickT rfl (ev_t rfl) (ev_t rfl)) ?_
                                   refine WL.val rfl rfl rfl rfl (r_assign rfl (ev_t rfl)) ?_
                                   refine WL.nil ?_
                                   refine WX.keep [(12, _)] ⟨rfl, trivial⟩ ?_
                                   refine WX.next ?_
                                   refine WC.ret ?_
                                   refine WX.blockRet ?_
                                   refine WX.thenRet ?_
                                   refine WX.retE1 rfl rfl ?_
                                   refine ⟨⟨_, rfl, (fun _ => by omega), fun _ => ?_⟩, hU⟩
                                   simp (disch := omega) only [if_pos, if_neg]
                                   try rw [Bool.eq_iff_iff]
                                   try rw [wrap_i64_in (by omega) (by omega)]
                                   try simp only [Bool.and_eq_true, decide_eq_true_eq, Bool.false_eq_true, false_iff]
                                   try omega
                                · try (exfalso; first | (simp at hb22_2; done) | (simp only [decide_eq_true_eq, decide_eq_false_iff_not, Bool.not_eq_true', Bool.not_eq_false', Bool.not_eq_true, Bool.not_eq_false] at hb22_2; omega) | omega)
                                  all_goals
                                   try simp only [decide_eq_true_eq, decide_eq_false_iff_not, Bool.not_eq_true', Bool.not_eq_false', Bool.not_eq_true, Bool.not_eq_false, Option.isNone_none, Option.isNone_some, Option.isSome_none, Option.isSome_some, ne_eq, Decidable.not_not] at hb22_2
                                   refine WL.skip rfl rfl rfl ?_
                                   refine WL.skip rfl rfl rfl ?_
                                   refine WL.val rfl rfl rfl rfl (r_pickF rfl (ev_t rfl) ev_c) ?_
                                   refine WL.val rfl rfl rfl rfl (r_assign rfl (ev_t rfl)) ?_
                                   refine WL.nil ?_
                                   refine WX.keep [(12, _)] ⟨rfl, trivial⟩ ?_
                                   refine WX.next ?_
                                   refine WC.ret ?_
                                   refine WX.blockRet ?_
                                   refine WX.thenRet ?_
                                   refine WX.retE1 rfl rfl ?_
                                   refine ⟨⟨_, rfl, (fun _ => by omega), fun _ => ?_⟩, hU⟩
                                   simp (disch := omega) only [if_pos, if_neg]
                                   try rw [Bool.eq_iff_iff]
                                   try rw [wrap_i64_in (by omega) (by omega)]
                                   try simp only [Bool.and_eq_true, decide_eq_true_eq, Bool.false_eq_true, false_iff]
                                   try omega
                             · try (exfalso; first | (simp at hc21; done) | (simp only [decide_eq_true_eq, decide_eq_false_iff_not, Bool.not_eq_true', Bool.not_eq_false', Bool.not_eq_true, Bool.not_eq_false] at hc21; omega) | omega)
                               all_goals
                                try simp only [decide_eq_true_eq, decide_eq_false_iff_not, Bool.not_eq_true', Bool.not_eq_false', Bool.not_eq_true, Bool.not_eq_false, Option.isNone_none, Option.isNone_some, Option.isSome_none, Option.isSome_some, ne_eq, Decidable.not_not] at hc21
                                refine WC.seq ?_
                                refine WC.seq ?_
                                refine WC.region ?_
                                refine WL.val rfl rfl rfl rfl (r_eql rfl (ev_t rfl) ev_c) ?_
                                refine WL.val rfl rfl rfl rfl (r_assign rfl (ev_t rfl)) ?_
                                refine WL.nil ?_
                                refine WX.keep [(2, _), (7, _), (20, _), (138, _)] ⟨rfl, rfl, rfl, rfl, trivial⟩ ?_
                                refine WX.next ?_
                                refine WC.cond rfl (ev_t rfl) (fun hc23 => ?_) (fun hc23 => ?_)
                                · try (exfalso; first | (simp at hc23; done) | (simp only [decide_eq_true_eq, decide_eq_false_iff_not, Bool.not_eq_true', Bool.not_eq_false', Bool.not_eq_true, Bool.not_eq_false] at hc23; omega) | omega)
                                  all_goals
                                   try simp only [decide_eq_true_eq, decide_eq_false_iff_not, Bool.not_eq_true', Bool.not_eq_false', Bool.not_eq_true, Bool.not_eq_false, Option.isNone_none, Option.isNone_some, Option.isSome_none, Option.isSome_some, ne_eq, Decidable.not_not] at hc23
                                   refine WC.skip ?_
                                   refine WX.next ?_
                                   refine WC.cond rfl (ev_t rfl) (fun hc23 => ?_) (fun hc23 => ?_)
                                   · try (exfalso; first | (simp at hc23; done) | (simp only [decide_eq_true_eq, decide_eq_false_iff_not, Bool.not_eq_true', Bool.not_eq_false', Bool.not_eq_true, Bool.not_eq_false] at hc23; omega) | omega)
                                     all_goals
                                      try simp only [decide_eq_true_eq, decide_eq_false_iff_not, Bool.not_eq_true', Bool.not_eq_false', Bool.not_eq_true, Bool.not_eq_false, Option.isNone_none, Option.isNone_some, Option.isSome_none, Option.isSome_some, ne_eq, Decidable.not_not] at hc23
                                      refine WC.seq ?_
                                      refine WC.region ?_
                                      first | refine WL.val rfl rfl rfl rfl (r_field0 rfl (ev_t rfl) fld_44_1) ?_ | refine WL.val rfl rfl rfl rfl (r_fieldAt rfl (ev_t rfl) fld_44_1) ?_
                                      first | refine WL.val rfl rfl rfl rfl (r_load rfl (ev_t rfl) flat_2 (Blk.cell hB1 rfl)) ?_ | refine WL.val rfl rfl rfl rfl (r_load rfl (ev_t rfl) flat_2 (Blk.cell hB2 rfl)) ?_
                                      refine WL.val rfl rfl rfl rfl (r_geq rfl (ev_t rfl) ev_c) ?_
                                      refine WL.val rfl rfl rfl rfl (r_move rfl (ev_t rfl)) ?_
                                      refine WL.cases 145 rfl (fun hb26_3 => ?_) (fun hb26_3 => ?_)
                                      · try (exfalso; first | (simp at hb26_3; done) | (simp only [decide_eq_true_eq, decide_eq_false_iff_not, Bool.not_eq_true', Bool.not_eq_false', Bool.not_eq_true, Bool.not_eq_false] at hb26_3; omega) | omega)
                                        all_goals
                                         try simp only [decide_eq_true_eq, decide_eq_false_iff_not, Bool.not_eq_true', Bool.not_eq_false', Bool.not_eq_true, Bool.not_eq_false, Option.isNone_none, Option.isNone_some, Option.isSome_none, Option.isSome_some, ne_eq, Decidable.not_not] at hb26_3
                                         first | refine WL.val rfl rfl rfl rfl (r_field0 rfl (ev_t rfl) fld_44_1) ?_ | refine WL.val rfl rfl rfl rfl (r_fieldAt rfl (ev_t rfl) fld_44_1) ?_
                                         first | refine WL.val rfl rfl rfl rfl (r_load rfl (ev_t rfl) flat_2 (Blk.cell hB1 rfl)) ?_ | refine WL.val rfl rfl rfl rfl (r_load rfl (ev_t rfl) flat_2 (Blk.cell hB2 rfl)) ?_
                                         refine WL.val rfl rfl rfl rfl (r_leq rfl (ev_t rfl) ev_c) ?_
                                         refine WL.val rfl rfl rfl rfl (r_pickT rfl (ev_t rfl) (ev_t rfl)) ?_
                                         refine WL.val rfl rfl rfl rfl (r_move rfl (ev_t rfl)) ?_
                                         refine WL.cases 150 rfl (fun hb26_8 => ?_) (fun hb26_8 => ?_)
                                         · try (exfalso; first | (simp at hb26_8; done) | (simp only [decide_eq_true_eq, decide_eq_false_iff_not, Bool.not_eq_true', Bool.not_eq_false', Bool.not_eq_true, Bool.not_eq_false] at hb26_8; omega) | omega)
                                           all_goals
                                            try simp only [decide_eq_true_eq, decide_eq_false_iff_not, Bool.not_eq_true', Bool.not_eq_false', Bool.not_eq_true, Bool.not_eq_false, Option.isNone_none, Option.isNone_some, Option.isSome_none, Option.isSome_some, ne_eq, Decidable.not_not] at hb26_8
                                            refine WL.val rfl rfl rfl rfl (r_move rfl (ev_t rfl)) ?_
                                            refine WL.val rfl rfl rfl rfl (r_gtr rfl (ev_t rfl) ev_c) ?_
                                            refine WL.val rfl rfl rfl rfl (r_pickT rfl (ev_t rfl) (ev_t rfl)) ?_
                                            refine WL.val rfl rfl rfl rfl (r_assign rfl (ev_t rfl)) ?_
                                            refine WL.nil ?_
                                            refine WX.keep [(12, _)] ⟨rfl, trivial⟩ ?_
                                            refine WX.next ?_
                                            refine WC.ret ?_
                                            refine WX.blockRet ?_
                                            refine WX.thenRet ?_
                                            refine WX.retE1 rfl rfl ?_
                                            refine ⟨⟨_, rfl, (fun _ => by omega), fun _ => ?_⟩, hU⟩
                                            simp (disch := omega) only [if_pos, if_neg]
                                            try rw [Bool.eq_iff_iff]
                                            try rw [wrap_i64_in (by omega) (by omega)]
                                            try simp only [Bool.and_eq_true, decide_eq_true_eq, Bool.false_eq_true, false_iff]
                                            try omega
                                         · try (exfalso; first | (simp at hb26_8; done) | (simp only [decide_eq_true_eq, decide_eq_false_iff_not, Bool.not_eq_true', Bool.not_eq_false', Bool.not_eq_true, Bool.not_eq_false] at hb26_8; omega) | omega)
                                           all_goals
                                            try simp only [decide_eq_true_eq, decide_eq_false_iff_not, Bool.not_eq_true', Bool.not_eq_false', Bool.not_eq_true, Bool.not_eq_false, Option.isNone_none, Option.isNone_some, Option.isSome_none, Option.isSome_some, ne_eq, Decidable.not_not] at hb26_8
                                            refine WL.skip rfl rfl rfl ?_
                                            refine WL.skip rfl rfl rfl ?_
                                            refine WL.val rfl rfl rfl rfl (r_pickF rfl (ev_t rfl) ev_c) ?_
                                            refine WL.val rfl rfl rfl rfl (r_assign rfl (ev_t rfl)) ?_
                                            refine WL.nil ?_
                                            refine WX.keep [(12, _)] ⟨rfl, trivial⟩ ?_
                                            refine WX.next ?_
                                            refine WC.ret ?_
                                            refine WX.blockRet ?_
                                            refine WX.thenRet ?_
                                            refine WX.retE1 rfl rfl ?_
                                            refine ⟨⟨_, rfl, (fun _ => by omega), fun _ => ?_⟩, hU⟩
                                            simp (disch := omega) only [if_pos, if_neg]
                                            try rw [Bool.eq_iff_iff]
                                            try rw [wrap_i64_in (by omega) (by omega)]
                                            try simp only [Bool.and_eq_true, decide_eq_true_eq, Bool.false_eq_true, false_iff]
                                            try omega
                                      · try (exfalso; first | (simp at hb26_3; done) | (simp only [decide_eq_true_eq, decide_eq_false_iff_not, Bool.not_eq_true', Bool.not_eq_false', Bool.not_eq_true, Bool.not_eq_false] at hb26_3; omega) | omega)
                                        all_goals
                                         try simp only [decide_eq_true_eq, decide_eq_false_iff_not, Bool.not_eq_true', Bool.not_eq_false', Bool.not_eq_true, Bool.not_eq_false, Option.isNone_none, Option.isNone_some, Option.isSome_none, Option.isSome_some, ne_eq, Decidable.not_not] at hb26_3
                                         refine WL.skip rfl rfl rfl ?_
                                         refine WL.skip rfl rfl rfl ?_
                                         refine WL.skip rfl rfl rfl ?_
                                         refine WL.val rfl rfl rfl rfl (r_pickF rfl (ev_t rfl) ev_c) ?_
                                         refine WL.val rfl rfl rfl rfl (r_move rfl (ev_t rfl)) ?_
                                         refine WL.skip rfl rfl rfl ?_
                                         refine WL.skip rfl rfl rfl ?_
                                         refine WL.val rfl rfl rfl rfl (r_pickF rfl (ev_t rfl) ev_c) ?_
                                         refine WL.val rfl rfl rfl rfl (r_assign rfl (ev_t rfl)) ?_
                                         refine WL.nil ?_
                                         refine WX.keep [(12, _)] ⟨rfl, trivial⟩ ?_
                                         refine WX.next ?_
                                         refine WC.ret ?_
                                         refine WX.blockRet ?_
                                         refine WX.thenRet ?_
                                         refine WX.retE1 rfl rfl ?_
                                         refine ⟨⟨_, rfl, (fun _ => by omega), fun _ => ?_⟩, hU⟩
                                         simp (disch := omega) only [if_pos, if_neg]
                                         try rw [Bool.eq_iff_iff]
                                         try rw [wrap_i64_in (by omega) (by omega)]
                                         try simp only [Bool.and_eq_true, decide_eq_true_eq, Bool.false_eq_true, false_iff]
                                         try omega
                                   · try (exfalso; first | (simp at hc23; done) | (simp only [decide_eq_true_eq, decide_eq_false_iff_not, Bool.not_eq_true', Bool.not_eq_false', Bool.not_eq_true, Bool.not_eq_false] at hc23; omega) | omega)
                                     all_goals
                                      try simp only [decide_eq_true_eq, decide_eq_false_iff_not, Bool.not_eq_true', Bool.not_eq_false', Bool.not_eq_true, Bool.not_eq_false, Option.isNone_none, Option.isNone_some, Option.isSome_none, Option.isSome_some, ne_eq, Decidable.not_not] at hc23
                                      refine WC.skip ?_
                                      refine WX.blockNormal ?_
                                      refine WX.next ?_
                                      refine WC.seq ?_
                                      refine WC.region ?_
                                      first | refine WL.val rfl rfl rfl rfl (r_field0 rfl (ev_t rfl) fld_44_0) ?_ | refine WL.val rfl rfl rfl rfl (r_fieldAt rfl (ev_t rfl) fld_44_0) ?_
                                      first | refine WL.val rfl rfl rfl rfl (r_load rfl (ev_t rfl) flat_5 (Blk.cell hB1 rfl)) ?_ | refine WL.val rfl rfl rfl rfl (r_load rfl (ev_t rfl) flat_5 (Blk.cell hB2 rfl)) ?_
                                      refine WL.val rfl rfl rfl rfl (r_indexArr rfl ev_g (ev_t rfl) arr_82 size_3 (by omega) (by omega)) ?_
                                      refine WL.val rfl rfl rfl rfl (r_load rfl (ev_t rfl) flat_3 (Rd.cell (hT.upd hU).1 (j := op) (by omega) (tkT_cell (by omega)))) ?_
                                      refine WL.val rfl rfl rfl rfl (r_move rfl (ev_t rfl)) ?_
                                      refine WL.val rfl rfl rfl rfl (r_lss rfl (ev_t rfl) (ev_t rfl)) ?_
                                      refine WL.val rfl rfl rfl rfl (r_assign rfl (ev_t rfl)) ?_
                                      refine WL.nil ?_
                                      refine WX.keep [(12, _)] ⟨rfl, trivial⟩ ?_
                                      refine WX.next ?_
                                      refine WC.ret ?_
                                      refine WX.retE1 rfl rfl ?_
                                      refine ⟨⟨_, rfl, (fun _ => by omega), fun _ => ?_⟩, hU⟩
                                      simp (disch := omega) only [if_pos, if_neg]
                                      try rw [Bool.eq_iff_iff]
                                      try rw [wrap_i64_in (by omega) (by omega)]
                                      try simp only [Bool.and_eq_true, decide_eq_true_eq, Bool.false_eq_true, false_iff]
                                      try omega
                                · try (exfalso; first | (simp at hc23; done) | (simp only [decide_eq_true_eq, decide_eq_false_iff_not, Bool.not_eq_true', Bool.not_eq_false', Bool.not_eq_true, Bool.not_eq_false] at hc23; omega) | omega)
                                  all_goals
                                   try simp only [decide_eq_true_eq, decide_eq_false_iff_not, Bool.not_eq_true', Bool.not_eq_false', Bool.not_eq_true, Bool.not_eq_false, Option.isNone_none, Option.isNone_some, Option.isSome_none, Option.isSome_some, ne_eq, Decidable.not_not] at hc23
                                   refine WC.seq ?_
                                   refine WC.region ?_
                                   refine WL.val rfl rfl rfl rfl (r_eql rfl (ev_t rfl) ev_c) ?_
                                   refine WL.val rfl rfl rfl rfl (r_assign rfl (ev_t rfl)) ?_
                                   refine WL.nil ?_
                                   refine WX.keep [(2, _), (7, _), (20, _), (138, _)] ⟨rfl, rfl, rfl, rfl, trivial⟩ ?_
                                   refine WX.next ?_
                                   refine WC.cond rfl (ev_t rfl) (fun hc24 => ?_) (fun hc24 => ?_)
                                   · try (exfalso; first | (simp at hc24; done) | (simp only [decide_eq_true_eq, decide_eq_false_iff_not, Bool.not_eq_true', Bool.not_eq_false', Bool.not_eq_true, Bool.not_eq_false] at hc24; omega) | omega)
                                     all_goals
                                      try simp only [decide_eq_true_eq, decide_eq_false_iff_not, Bool.not_eq_true', Bool.not_eq_false', Bool.not_eq_true, Bool.not_eq_false, Option.isNone_none, Option.isNone_some, Option.isSome_none, Option.isSome_some, ne_eq, Decidable.not_not] at hc24
                                      refine WC.skip ?_
                                      refine WX.next ?_
                                      refine WC.cond rfl (ev_t rfl) (fun hc24 => ?_) (fun hc24 => ?_)
                                      · try (exfalso; first | (simp at hc24; done) | (simp only [decide_eq_true_eq, decide_eq_false_iff_not, Bool.not_eq_true', Bool.not_eq_false', Bool.not_eq_true, Bool.not_eq_false] at hc24; omega) | omega)
                                        all_goals
                                         try simp only [decide_eq_true_eq, decide_eq_false_iff_not, Bool.not_eq_true', Bool.not_eq_false', Bool.not_eq_true, Bool.not_eq_false, Option.isNone_none, Option.isNone_some, Option.isSome_none, Option.isSome_some, ne_eq, Decidable.not_not] at hc24
                                         refine WC.seq ?_
                                         refine WC.region ?_
                                         first | refine WL.val rfl rfl rfl rfl (r_field0 rfl (ev_t rfl) fld_44_1) ?_ | refine WL.val rfl rfl rfl rfl (r_fieldAt rfl (ev_t rfl) fld_44_1) ?_
                                         first | refine WL.val rfl rfl rfl rfl (r_load rfl (ev_t rfl) flat_2 (Blk.cell hB1 rfl)) ?_ | refine WL.val rfl rfl rfl rfl (r_load rfl (ev_t rfl) flat_2 (Blk.cell hB2 rfl)) ?_
                                         refine WL.val rfl rfl rfl rfl (r_geq rfl (ev_t rfl) ev_c) ?_
                                         refine WL.val rfl rfl rfl rfl (r_move rfl (ev_t rfl)) ?_
                                         refine WL.cases 145 rfl (fun hb26_3 => ?_) (fun hb26_3 => ?_)
                                         · try (exfalso; first | (simp at hb26_3; done) | (simp only [decide_eq_true_eq, decide_eq_false_iff_not, Bool.not_eq_true', Bool.not_eq_false', Bool.not_eq_true, Bool.not_eq_false] at hb26_3; omega) | omega)
                                           all_goals
                                            try simp only [decide_eq_true_eq, decide_eq_false_iff_not, Bool.not_eq_true', Bool.not_eq_false', Bool.not_eq_true, Bool.not_eq_false, Option.isNone_none, Option.isNone_some, Option.isSome_none, Option.isSome_some, ne_eq, Decidable.not_not] at hb26_3
                                            first | refine WL.val rfl rfl rfl rfl (r_field0 rfl (ev_t rfl) fld_44_1) ?_ | refine WL.val rfl rfl rfl rfl (r_fieldAt rfl (ev_t rfl) fld_44_1) ?_
                                            first | refine WL.val rfl rfl rfl rfl (r_load rfl (ev_t rfl) flat_2 (Blk.cell hB1 rfl)) ?_ | refine WL.val rfl rfl rfl rfl (r_load rfl (ev_t rfl) flat_2 (Blk.cell hB2 rfl)) ?_
                                            refine WL.val rfl rfl rfl rfl (r_leq rfl (ev_t rfl) ev_c) ?_
                                            refine WL.val rfl rfl rfl rfl (r_pickT rfl (ev_t rfl) (ev_t rfl)) ?_
                                            refine WL.val rfl rfl rfl rfl (r_move rfl (ev_t rfl)) ?_
                                            refine WL.cases 150 rfl (fun hb26_8 => ?_) (fun hb26_8 => ?_)
                                            · try (exfalso; first | (simp at hb26_8; done) | (simp only [decide_eq_true_eq, decide_eq_false_iff_not, Bool.not_eq_true', Bool.not_eq_false', Bool.not_eq_true, Bool.not_eq_false] at hb26_8; omega) | omega)
                                              all_goals
                                               try simp only [decide_eq_true_eq, decide_eq_false_iff_not, Bool.not_eq_true', Bool.not_eq_false', Bool.not_eq_true, Bool.not_eq_false, Option.isNone_none, Option.isNone_some, Option.isSome_none, Option.isSome_some, ne_eq, Decidable.not_not] at hb26_8
                                               refine WL.val rfl rfl rfl rfl (r_move rfl (ev_t rfl)) ?_
                                               refine WL.val rfl rfl rfl rfl (r_gtr rfl (ev_t rfl) ev_c) ?_
                                               refine WL.val rfl rfl rfl rfl (r_pickT rfl (ev_t rfl) (ev_t rfl)) ?_
                                               refine WL.val rfl rfl rfl rfl (r_assign rfl (ev_t rfl)) ?_
                                               refine WL.nil ?_
                                               refine WX.keep [(12, _)] ⟨rfl, trivial⟩ ?_
                                               refine WX.next ?_
                                               refine WC.ret ?_
                                               refine WX.blockRet ?_
                                               refine WX.thenRet ?_
                                               refine WX.retE1 rfl rfl ?_
                                               refine ⟨⟨_, rfl, (fun _ => by omega), fun _ => ?_⟩, hU⟩
                                               simp (disch := omega) only [if_pos, if_neg]
                                               try rw [Bool.eq_iff_iff]
                                               try rw [wrap_i64_in (by omega) (by omega)]
                                               try simp only [Bool.and_eq_true, decide_eq_true_eq, Bool.false_eq_true, false_iff]
                                               try omega
                                            · try (exfalso; first | (simp at hb26_8; done) | (simp only [decide_eq_true_eq, decide_eq_false_iff_not, Bool.not_eq_true', Bool.not_eq_false', Bool.not_eq_true, Bool.not_eq_false] at hb26_8; omega) | omega)
                                              all_goals
                                               try simp only [decide_eq_true_eq, decide_eq_false_iff_not, Bool.not_eq_true', Bool.not_eq_false', Bool.not_eq_true, Bool.not_eq_false, Option.isNone_none, Option.isNone_some, Option.isSome_none, Option.isSome_some, ne_eq, Decidable.not_not] at hb26_8
                                               refine WL.skip rfl rfl rfl ?_
                                               refine WL.skip rfl rfl rfl ?_
                                               refine WL.val rfl rfl rfl rfl (r_pickF rfl (ev_t rfl) ev_c) ?_
                                               refine WL.val rfl rfl rfl rfl (r_assign rfl (ev_t rfl)) ?_
                                               refine WL.nil ?_
                                               refine WX.keep [(12, _)] ⟨rfl, trivial⟩ ?_
                                               refine WX.next ?_
                                               refine WC.ret ?_
                                               refine WX.blockRet ?_
                                               refine WX.thenRet ?_
                                               refine WX.retE1 rfl rfl ?_
                                               refine ⟨⟨_, rfl, (fun _ => by omega), fun _ => ?_⟩, hU⟩
                                               simp (disch := omega) only [if_pos, if_neg]
                                               try rw [Bool.eq_iff_iff]
                                               try rw [wrap_i64_in (by omega) (by omega)]
                                               try simp only [Bool.and_eq_true, decide_eq_true_eq, Bool.false_eq_true, false_iff]
                                               try omega
                                         · try (exfalso; first | (simp at hb26_3; done) | (simp only [decide_eq_true_eq, decide_eq_false_iff_not, Bool.not_eq_true', Bool.not_eq_false', Bool.not_eq_true, Bool.not_eq_false] at hb26_3; omega) | omega)
                                           all_goals
                                            try simp only [decide_eq_true_eq, decide_eq_false_iff_not, Bool.not_eq_true', Bool.not_eq_false', Bool.not_eq_true, Bool.not_eq_false, Option.isNone_none, Option.isNone_some, Option.isSome_none, Option.isSome_some, ne_eq, Decidable.not_not] at hb26_3
                                            refine WL.skip rfl rfl rfl ?_
                                            refine WL.skip rfl rfl rfl ?_
                                            refine WL.skip rfl rfl rfl ?_
                                            refine WL.val rfl rfl rfl rfl (r_pickF rfl (ev_t rfl) ev_c) ?_
                                            refine WL.val rfl rfl rfl rfl (r_move rfl (ev_t rfl)) ?_
                                            refine WL.skip rfl rfl rfl ?_
                                            refine WL.skip rfl rfl rfl ?_
                                            refine WL.val rfl rfl rfl rfl (r_pickF rfl (ev_t rfl) ev_c) ?_
                                            refine WL.val rfl rfl rfl rfl (r_assign rfl (ev_t rfl)) ?_
                                            refine WL.nil ?_
                                            refine WX.keep [(12, _)] ⟨rfl, trivial⟩ ?_
                                            refine WX.next ?_
                                            refine WC.ret ?_
                                            refine WX.blockRet ?_
                                            refine WX.thenRet ?_
                                            refine WX.retE1 rfl rfl ?_
                                            refine ⟨⟨_, rfl, (fun _ => by omega), fun _ => ?_⟩, hU⟩
                                            simp (disch := omega) only [if_pos, if_neg]
                                            try rw [Bool.eq_iff_iff]
                                            try rw [wrap_i64_in (by omega) (by omega)]
                                            try simp only [Bool.and_eq_true, decide_eq_true_eq, Bool.false_eq_true, false_iff]
                                            try omega
                                      · try (exfalso; first | (simp at hc24; done) | (simp only [decide_eq_true_eq, decide_eq_false_iff_not, Bool.not_eq_true', Bool.not_eq_false', Bool.not_eq_true, Bool.not_eq_false] at hc24; omega) | omega)
                                        all_goals
                                         try simp only [decide_eq_true_eq, decide_eq_false_iff_not, Bool.not_eq_true', Bool.not_eq_false', Bool.not_eq_true, Bool.not_eq_false, Option.isNone_none, Option.isNone_some, Option.isSome_none, Option.isSome_some, ne_eq, Decidable.not_not] at hc24
                                         refine WC.skip ?_
                                         refine WX.blockNormal ?_
                                         refine WX.next ?_
                                         refine WC.seq ?_
                                         refine WC.region ?_
                                         first | refine WL.val rfl rfl rfl rfl (r_field0 rfl (ev_t rfl) fld_44_0) ?_ | refine WL.val rfl rfl rfl rfl (r_fieldAt rfl (ev_t rfl) fld_44_0) ?_
                                         first | refine WL.val rfl rfl rfl rfl (r_load rfl (ev_t rfl) flat_5 (Blk.cell hB1 rfl)) ?_ | refine WL.val rfl rfl rfl rfl (r_load rfl (ev_t rfl) flat_5 (Blk.cell hB2 rfl)) ?_
                                         refine WL.val rfl rfl rfl rfl (r_indexArr rfl ev_g (ev_t rfl) arr_82 size_3 (by omega) (by omega)) ?_
                                         refine WL.val rfl rfl rfl rfl (r_load rfl (ev_t rfl) flat_3 (Rd.cell (hT.upd hU).1 (j := op) (by omega) (tkT_cell (by omega)))) ?_
                                         refine WL.val rfl rfl rfl rfl (r_move rfl (ev_t rfl)) ?_
                                         refine WL.val rfl rfl rfl rfl (r_lss rfl (ev_t rfl) (ev_t rfl)) ?_
                                         refine WL.val rfl rfl rfl rfl (r_assign rfl (ev_t rfl)) ?_
                                         refine WL.nil ?_
                                         refine WX.keep [(12, _)] ⟨rfl, trivial⟩ ?_
                                         refine WX.next ?_
                                         refine WC.ret ?_
                                         refine WX.retE1 rfl rfl ?_
                                         refine ⟨⟨_, rfl, (fun _ => by omega), fun _ => ?_⟩, hU⟩
                                         simp (disch := omega) only [if_pos, if_neg]
                                         try rw [Bool.eq_iff_iff]
                                         try rw [wrap_i64_in (by omega) (by omega)]
                                         try simp only [Bool.and_eq_true, decide_eq_true_eq, Bool.false_eq_true, false_iff]
                                         try omega
                                   · try (exfalso; first | (simp at hc24; done) | (simp only [decide_eq_true_eq, decide_eq_false_iff_not, Bool.not_eq_true', Bool.not_eq_false', Bool.not_eq_true, Bool.not_eq_false] at hc24; omega) | omega)
                                     all_goals
                                      try simp only [decide_eq_true_eq, decide_eq_false_iff_not, Bool.not_eq_true', Bool.not_eq_false', Bool.not_eq_true, Bool.not_eq_false, Option.isNone_none, Option.isNone_some, Option.isSome_none, Option.isSome_some, ne_eq, Decidable.not_not] at hc24
                                      refine WC.region ?_
                                      refine WL.val rfl rfl rfl rfl (r_eql rfl (ev_t rfl) ev_c) ?_
                                      refine WL.val rfl rfl rfl rfl (r_assign rfl (ev_t rfl)) ?_
                                      refine WL.nil ?_
                                      refine WX.keep [(2, _), (7, _), (138, _)] ⟨rfl, rfl, rfl, trivial⟩ ?_
                                      refine WX.next ?_
                                      refine WC.cond rfl (ev_t rfl) (fun hc25 => ?_) (fun hc25 => ?_)
                                      · try (exfalso; first | (simp at hc25; done) | (simp only [decide_eq_true_eq, decide_eq_false_iff_not, Bool.not_eq_true', Bool.not_eq_false', Bool.not_eq_true, Bool.not_eq_false] at hc25; omega) | omega)
                                        all_goals
                                         try simp only [decide_eq_true_eq, decide_eq_false_iff_not, Bool.not_eq_true', Bool.not_eq_false', Bool.not_eq_true, Bool.not_eq_false, Option.isNone_none, Option.isNone_some, Option.isSome_none, Option.isSome_some, ne_eq, Decidable.not_not] at hc25
                                         refine WC.seq ?_
                                         refine WC.region ?_
                                         first | refine WL.val rfl rfl rfl rfl (r_field0 rfl (ev_t rfl) fld_44_1) ?_ | refine WL.val rfl rfl rfl rfl (r_fieldAt rfl (ev_t rfl) fld_44_1) ?_
                                         first | refine WL.val rfl rfl rfl rfl (r_load rfl (ev_t rfl) flat_2 (Blk.cell hB1 rfl)) ?_ | refine WL.val rfl rfl rfl rfl (r_load rfl (ev_t rfl) flat_2 (Blk.cell hB2 rfl)) ?_
                                         refine WL.val rfl rfl rfl rfl (r_geq rfl (ev_t rfl) ev_c) ?_
                                         refine WL.val rfl rfl rfl rfl (r_move rfl (ev_t rfl)) ?_
                                         refine WL.cases 145 rfl (fun hb26_3 => ?_) (fun hb26_3 => ?_)
                                         · try (exfalso; first | (simp at hb26_3; done) | (simp only [decide_eq_true_eq, decide_eq_false_iff_not, Bool.not_eq_true', Bool.not_eq_false', Bool.not_eq_true, Bool.not_eq_false] at hb26_3; omega) | omega)
                                           all_goals
                                            try simp only [decide_eq_true_eq, decide_eq_false_iff_not, Bool.not_eq_true', Bool.not_eq_false', Bool.not_eq_true, Bool.not_eq_false, Option.isNone_none, Option.isNone_some, Option.isSome_none, Option.isSome_some, ne_eq, Decidable.not_not] at hb26_3
                                            first | refine WL.val rfl rfl rfl rfl (r_field0 rfl (ev_t rfl) fld_44_1) ?_ | refine WL.val rfl rfl rfl rfl (r_fieldAt rfl (ev_t rfl) fld_44_1) ?_
                                            first | refine WL.val rfl rfl rfl rfl (r_load rfl (ev_t rfl) flat_2 (Blk.cell hB1 rfl)) ?_ | refine WL.val rfl rfl rfl rfl (r_load rfl (ev_t rfl) flat_2 (Blk.cell hB2 rfl)) ?_
                                            refine WL.val rfl rfl rfl rfl (r_leq rfl (ev_t rfl) ev_c) ?_
                                            refine WL.val rfl rfl rfl rfl (r_pickT rfl (ev_t rfl) (ev_t rfl)) ?_
                                            refine WL.val rfl rfl rfl rfl (r_move rfl (ev_t rfl)) ?_
                                            refine WL.cases 150 rfl (fun hb26_8 => ?_) (fun hb26_8 => ?_)
                                            · try (exfalso; first | (simp at hb26_8; done) | (simp only [decide_eq_true_eq, decide_eq_false_iff_not, Bool.not_eq_true', Bool.not_eq_false', Bool.not_eq_true, Bool.not_eq_false] at hb26_8; omega) | omega)
                                              all_goals
                                               try simp only [decide_eq_true_eq, decide_eq_false_iff_not, Bool.not_eq_true', Bool.not_eq_false', Bool.not_eq_true, Bool.not_eq_false, Option.isNone_none, Option.isNone_some, Option.isSome_none, Option.isSome_some, ne_eq, Decidable.not_not] at hb26_8
                                               refine WL.val rfl rfl rfl rfl (r_move rfl (ev_t rfl)) ?_
                                               refine WL.val rfl rfl rfl rfl (r_gtr rfl (ev_t rfl) ev_c) ?_
                                               refine WL.val rfl rfl rfl rfl (r_pickT rfl (ev_t rfl) (ev_t rfl)) ?_
                                               refine WL.val rfl rfl rfl rfl (r_assign rfl (ev_t rfl)) ?_
                                               refine WL.nil ?_
                                               refine WX.keep [(12, _)] ⟨rfl, trivial⟩ ?_
                                               refine WX.next ?_
                                               refine WC.ret ?_
                                               refine WX.blockRet ?_
                                               refine WX.thenRet ?_
                                               refine WX.retE1 rfl rfl ?_
                                               refine ⟨⟨_, rfl, (fun _ => by omega), fun _ => ?_⟩, hU⟩
                                               simp (disch := omega) only [if_pos, if_neg]
                                               try rw [Bool.eq_iff_iff]
                                               try rw [wrap_i64_in (by omega) (by omega)]
                                               try simp only [Bool.and_eq_true, decide_eq_true_eq, Bool.false_eq_true, false_iff]
                                               try omega
                                            · try (exfalso; first | (simp at hb26_8; done) | (simp only [decide_eq_true_eq, decide_eq_false_iff_not, Bool.not_eq_true', Bool.not_eq_false', Bool.not_eq_true, Bool.not_eq_false] at hb26_8; omega) | omega)
                                              all_goals
                                               try simp only [decide_eq_true_eq, decide_eq_false_iff_not, Bool.not_eq_true', Bool.not_eq_false', Bool.not_eq_true, Bool.not_eq_false, Option.isNone_none, Option.isNone_some, Option.isSome_none, Option.isSome_some, ne_eq, Decidable.not_not] at hb26_8
                                               refine WL.skip rfl rfl rfl ?_
                                               refine WL.skip rfl rfl rfl ?_
                                               refine WL.val rfl rfl rfl rfl (r_pickF rfl (ev_t rfl) ev_c) ?_
                                               refine WL.val rfl rfl rfl rfl (r_assign rfl (ev_t rfl)) ?_
                                               refine WL.nil ?_
                                               refine WX.keep [(12, _)] ⟨rfl, trivial⟩ ?_
                                               refine WX.next ?_
                                               refine WC.ret ?_
                                               refine WX.blockRet ?_
                                               refine WX.thenRet ?_
                                               refine WX.retE1 rfl rfl ?_
                                               refine ⟨⟨_, rfl, (fun _ => by omega), fun _ => ?_⟩, hU⟩
                                               simp (disch := omega) only [if_pos, if_neg]
                                               try rw [Bool.eq_iff_iff]
                                               try rw [wrap_i64_in (by omega) (by omega)]
                                               try simp only [Bool.and_eq_true, decide_eq_true_eq, Bool.false_eq_true, false_iff]
                                               try omega
                                         · try (exfalso; first | (simp at hb26_3; done) | (simp only [decide_eq_true_eq, decide_eq_false_iff_not, Bool.not_eq_true', Bool.not_eq_false', Bool.not_eq_true, Bool.not_eq_false] at hb26_3; omega) | omega)
                                           all_goals
                                            try simp only [decide_eq_true_eq, decide_eq_false_iff_not, Bool.not_eq_true', Bool.not_eq_false', Bool.not_eq_true, Bool.not_eq_false, Option.isNone_none, Option.isNone_some, Option.isSome_none, Option.isSome_some, ne_eq, Decidable.not_not] at hb26_3
                                            refine WL.skip rfl rfl rfl ?_
                                            refine WL.skip rfl rfl rfl ?_
                                            refine WL.skip rfl rfl rfl ?_
                                            refine WL.val rfl rfl rfl rfl (r_pickF rfl (ev_t rfl) ev_c) ?_
                                            refine WL.val rfl rfl rfl rfl (r_move rfl (ev_t rfl)) ?_
                                            refine WL.skip rfl rfl rfl ?_
                                            refine WL.skip rfl rfl rfl ?_
                                            refine WL.val rfl rfl rfl rfl (r_pickF rfl (ev_t rfl) ev_c) ?_
                                            refine WL.val rfl rfl rfl rfl (r_assign rfl (ev_t rfl)) ?_
                                            refine WL.nil ?_
                                            refine WX.keep [(12, _)] ⟨rfl, trivial⟩ ?_
                                            refine WX.next ?_
                                            refine WC.ret ?_
                                            refine WX.blockRet ?_
                                            refine WX.thenRet ?_
                                            refine WX.retE1 rfl rfl ?_
                                            refine ⟨⟨_, rfl, (fun _ => by omega), fun _ => ?_⟩, hU⟩
                                            simp (disch := omega) only [if_pos, if_neg]
                                            try rw [Bool.eq_iff_iff]
                                            try rw [wrap_i64_in (by omega) (by omega)]
                                            try simp only [Bool.and_eq_true, decide_eq_true_eq, Bool.false_eq_true, false_iff]
                                            try omega
                                      · try (exfalso; first | (simp at hc25; done) | (simp only [decide_eq_true_eq, decide_eq_false_iff_not, Bool.not_eq_true', Bool.not_eq_false', Bool.not_eq_true, Bool.not_eq_false] at hc25; omega) | omega)
                                        all_goals
                                         try simp only [decide_eq_true_eq, decide_eq_false_iff_not, Bool.not_eq_true', Bool.not_eq_false', Bool.not_eq_true, Bool.not_eq_false, Option.isNone_none, Option.isNone_some, Option.isSome_none, Option.isSome_some, ne_eq, Decidable.not_not] at hc25
                                         refine WC.skip ?_
                                         refine WX.blockNormal ?_
                                         refine WX.next ?_
                                         refine WC.seq ?_
                                         refine WC.region ?_
                                         first | refine WL.val rfl rfl rfl rfl (r_field0 rfl (ev_t rfl) fld_44_0) ?_ | refine WL.val rfl rfl rfl rfl (r_fieldAt rfl (ev_t rfl) fld_44_0) ?_
                                         first | refine WL.val rfl rfl rfl rfl (r_load rfl (ev_t rfl) flat_5 (Blk.cell hB1 rfl)) ?_ | refine WL.val rfl rfl rfl rfl (r_load rfl (ev_t rfl) flat_5 (Blk.cell hB2 rfl)) ?_
                                         refine WL.val rfl rfl rfl rfl (r_indexArr rfl ev_g (ev_t rfl) arr_82 size_3 (by omega) (by omega)) ?_
                                         refine WL.val rfl rfl rfl rfl (r_load rfl (ev_t rfl) flat_3 (Rd.cell (hT.upd hU).1 (j := op) (by omega) (tkT_cell (by omega)))) ?_
                                         refine WL.val rfl rfl rfl rfl (r_move rfl (ev_t rfl)) ?_
                                         refine WL.val rfl rfl rfl rfl (r_lss rfl (ev_t rfl) (ev_t rfl)) ?_
                                         refine WL.val rfl rfl rfl rfl (r_assign rfl (ev_t rfl)) ?_
                                         refine WL.nil ?_
                                         refine WX.keep [(12, _)] ⟨rfl, trivial⟩ ?_
                                         refine WX.next ?_
                                         refine WC.ret ?_
                                         refine WX.retE1 rfl rfl ?_
                                         refine ⟨⟨_, rfl, (fun _ => by omega), fun _ => ?_⟩, hU⟩
                                         simp (disch := omega) only [if_pos, if_neg]
                                         try rw [Bool.eq_iff_iff]
                                         try rw [wrap_i64_in (by omega) (by omega)]
                                         try simp only [Bool.and_eq_true, decide_eq_true_eq, Bool.false_eq_true, false_iff]
                                         try omega

set_option maxHeartbeats 4000000 in
theorem after_ok {w : World} {i : In} {d t : Int} (hT : Tk w) (hi : i.ok) (hop : i.op < 27) (hd : inK .i64 d) (ht : inK .i64 t) :
    Ret Tryd.prog 36 #[.agg (insC i).toArray, .int .i64 d, .int .i64 t] w fun u w' => (∃ d' t', u = .tuple #[.bool (nextB i), .int .i64 d', .int .i64 t'] ∧ inK .i64 d' ∧ inK .i64 t' ∧ (0 ≤ nnI i → nnI i ≤ d → d ≤ 1000 → d' = d - nnI i + lvT i.op) ∧ (-1000 ≤ t → t ≤ 1000 → t' = t + dtI i)) ∧ Upd No w w' := by
  obtain ⟨h1, h2, h3, h4⟩ := hi
  simp only [inK] at h2 h3 hd ht
  obtain ⟨op, In_, Ia, Is⟩ := i
  simp only at h1 h2 h3 h4 hop
  have htk := tk_le hop
  unfold insC
  obtain ⟨nn, hnn⟩ : ∃ nn, nnI ⟨op, In_, Ia, Is⟩ = nn := ⟨_, rfl⟩
  obtain ⟨tt, htt⟩ : ∃ tt, dtI ⟨op, In_, Ia, Is⟩ = tt := ⟨_, rfl⟩
  obtain ⟨nx, hnx⟩ : ∃ nx, nextB ⟨op, In_, Ia, Is⟩ = nx := ⟨_, rfl⟩
  rw [hnn, htt, hnx]
  unfold nnI at hnn
  unfold dtI at htt
  unfold nextB at hnx
  simp only at hnn htt hnx ⊢
  refine enterRet (vs := [_, _, _]) (N := 59) Tryd.func36 rfl rfl rfl ?_
  have hU := Upd.refl No w
  refine WC.keep [(0, _), (1, _), (2, _)] ⟨rfl, rfl, rfl, trivial⟩ ?_
  refine WC.seq ?_
  refine WC.region ?_
  refine WL.cons (SO.alloc rfl rfl rfl rfl (r_boxAgg rfl (ev_t rfl)) ?_)
  intro w1 hu1 hB1 hz1
  have hs1 := hu1.size
  replace hU := hU.transA hu1
  refine WL.val rfl rfl rfl rfl (r_assign rfl ev_c) ?_
  refine WL.val rfl rfl rfl rfl (r_assign rfl ev_c) ?_
  refine WL.val rfl rfl rfl rfl (r_assign rfl ev_c) ?_
  refine WL.nil ?_
  refine WX.keep [(1, _), (2, _), (3, _)] ⟨rfl, rfl, rfl, trivial⟩ ?_
  refine WX.next ?_
  refine WC.seq ?_
  refine WC.region ?_
  first | refine WL.val rfl rfl rfl rfl (r_field0 rfl (ev_t rfl) fld_44_0) ?_ | refine WL.val rfl rfl rfl rfl (r_fieldAt rfl (ev_t rfl) fld_44_0) ?_
  refine WL.val rfl rfl rfl rfl (r_load rfl (ev_t rfl) flat_5 (Blk.cell hB1 rfl)) ?_
  refine WL.val rfl rfl rfl rfl (r_indexArr rfl ev_g (ev_t rfl) arr_82 size_3 (by omega) (by omega)) ?_
  refine WL.val rfl rfl rfl rfl (r_load rfl (ev_t rfl) flat_3 (Rd.cell (hT.upd hU).1 (j := op) (by omega) (tkT_cell (by omega)))) ?_
  refine WL.val rfl rfl rfl rfl (r_assign rfl (ev_t rfl)) ?_
  refine WL.nil ?_
  refine WX.keep [(1, _), (2, _), (3, _), (9, _)] ⟨rfl, rfl, rfl, rfl, trivial⟩ ?_
  refine WX.next ?_
  -- cut 2: live [1, 2, 3, 9]
  refine WC.cut (fun E w2 => w1 = w2 ∧ ∃ n9 t2 : Int, inK .i64 n9 ∧ inK .i64 t2 ∧ (inK .i64 nn → n9 = nn) ∧ (-1000 ≤ t → t ≤ 1000 → t2 = t + tt) ∧ E = [(1, .int .i64 d), (2, .int .i64 t2), (3, .pointer (some ⟨w.heap.size, 0, none⟩)), (9, .int .i64 n9)]) ?_ ?_
  · refine WC.seq ?_
    refine WC.region ?_
    first | refine WL.val rfl rfl rfl rfl (r_field0 rfl (ev_t rfl) fld_44_0) ?_ | refine WL.val rfl rfl rfl rfl (r_fieldAt rfl (ev_t rfl) fld_44_0) ?_
    refine WL.val rfl rfl rfl rfl (r_load rfl (ev_t rfl) flat_5 (Blk.cell hB1 rfl)) ?_
    refine WL.nil ?_
    refine WX.keep [(1, _), (2, _), (3, _), (9, _), (15, _)] ⟨rfl, rfl, rfl, rfl, rfl, trivial⟩ ?_
    refine WX.next ?_
    refine WC.block ?_
    refine WC.seq ?_
    refine WC.region ?_
    refine WL.val rfl rfl rfl rfl (r_eql rfl (ev_t rfl) ev_c) ?_
    refine WL.val rfl rfl rfl rfl (r_assign rfl (ev_t rfl)) ?_
    refine WL.nil ?_
    refine WX.keep [(1, _), (2, _), (3, _), (9, _), (15, _), (16, _)] ⟨rfl, rfl, rfl, rfl, rfl, rfl, trivial⟩ ?_
    refine WX.next ?_
    refine WC.cond rfl (ev_t rfl) (fun hc3 => ?_) (fun hc3 => ?_)
    · try (exfalso; first | (simp at hc3; done) | (simp only [decide_eq_true_eq, decide_eq_false_iff_not, Bool.not_eq_true', Bool.not_eq_false', Bool.not_eq_true, Bool.not_eq_false] at hc3; omega) | omega)
      all_goals
       try simp only [decide_eq_true_eq, decide_eq_false_iff_not, Bool.not_eq_true', Bool.not_eq_false', Bool.not_eq_true, Bool.not_eq_false, Option.isNone_none, Option.isNone_some, Option.isSome_none, Option.isSome_some, ne_eq, Decidable.not_not] at hc3
       refine WC.region ?_
       first | refine WL.val rfl rfl rfl rfl (r_field0 rfl (ev_t rfl) fld_44_2) ?_ | refine WL.val rfl rfl rfl rfl (r_fieldAt rfl (ev_t rfl) fld_44_2) ?_
       refine WL.val rfl rfl rfl rfl (r_load rfl (ev_t rfl) flat_3 (Blk.cell hB1 rfl)) ?_
       refine WL.val rfl rfl rfl rfl (r_assign rfl (ev_t rfl)) ?_
       refine WL.nil ?_
       refine WX.keep [(1, _), (2, _), (3, _), (9, _)] ⟨rfl, rfl, rfl, rfl, trivial⟩ ?_
       refine WX.blockNormal ?_
       refine WX.meet [(1, _), (2, _), (3, _), (9, _)] ⟨rfl, rfl, rfl, rfl, trivial⟩ ?_
       refine ⟨rfl, _, _, ?_, ?_, ?_, ?_, rfl⟩
       · first | exact wrap_inK _ _ | (simp only [inK]; omega)
       · first | exact wrap_inK _ _ | (simp only [inK]; omega)
       · intro hin
         simp (disch := omega) only [if_pos, if_neg] at hnn
         subst hnn
         first | rfl | exact wrap_in hin
       · intro _ _
         simp (disch := omega) only [if_pos, if_neg] at htt
         subst htt
         first | rfl | omega | exact wrap_i64_in (by omega) (by omega)
    · try (exfalso; first | (simp at hc3; done) | (simp only [decide_eq_true_eq, decide_eq_false_iff_not, Bool.not_eq_true', Bool.not_eq_false', Bool.not_eq_true, Bool.not_eq_false] at hc3; omega) | omega)
      all_goals
       try simp only [decide_eq_true_eq, decide_eq_false_iff_not, Bool.not_eq_true', Bool.not_eq_false', Bool.not_eq_true, Bool.not_eq_false, Option.isNone_none, Option.isNone_some, Option.isSome_none, Option.isSome_some, ne_eq, Decidable.not_not] at hc3
       refine WC.seq ?_
       refine WC.region ?_
       refine WL.val rfl rfl rfl rfl (r_eql rfl (ev_t rfl) ev_c) ?_
       refine WL.val rfl rfl rfl rfl (r_assign rfl (ev_t rfl)) ?_
       refine WL.nil ?_
       refine WX.keep [(1, _), (2, _), (3, _), (9, _), (15, _), (20, _)] ⟨rfl, rfl, rfl, rfl, rfl, rfl, trivial⟩ ?_
       refine WX.next ?_
       refine WC.cond rfl (ev_t rfl) (fun hc5 => ?_) (fun hc5 => ?_)
       · try (exfalso; first | (simp at hc5; done) | (simp only [decide_eq_true_eq, decide_eq_false_iff_not, Bool.not_eq_true', Bool.not_eq_false', Bool.not_eq_true, Bool.not_eq_false] at hc5; omega) | omega)
         all_goals
          try simp only [decide_eq_true_eq, decide_eq_false_iff_not, Bool.not_eq_true', Bool.not_eq_false', Bool.not_eq_true, Bool.not_eq_false, Option.isNone_none, Option.isNone_some, Option.isSome_none, Option.isSome_some, ne_eq, Decidable.not_not] at hc5
          refine WC.region ?_
          first | refine WL.val rfl rfl rfl rfl (r_field0 rfl (ev_t rfl) fld_44_1) ?_ | refine WL.val rfl rfl rfl rfl (r_fieldAt rfl (ev_t rfl) fld_44_1) ?_
          refine WL.val rfl rfl rfl rfl (r_load rfl (ev_t rfl) flat_2 (Blk.cell hB1 rfl)) ?_
          refine WL.val rfl rfl rfl rfl (r_assign rfl (ev_t rfl)) ?_
          refine WL.nil ?_
          refine WX.keep [(1, _), (2, _), (3, _), (9, _)] ⟨rfl, rfl, rfl, rfl, trivial⟩ ?_
          refine WX.blockNormal ?_
          refine WX.meet [(1, _), (2, _), (3, _), (9, _)] ⟨rfl, rfl, rfl, rfl, trivial⟩ ?_
          refine ⟨rfl, _, _, ?_, ?_, ?_, ?_, rfl⟩
          · first | exact wrap_inK _ _ | (simp only [inK]; omega)
          · first | exact wrap_inK _ _ | (simp only [inK]; omega)
          · intro hin
            simp (disch := omega) only [if_pos, if_neg] at hnn
            subst hnn
            first | rfl | exact wrap_in hin
          · intro _ _
            simp (disch := omega) only [if_pos, if_neg] at htt
            subst htt
            first | rfl | omega | exact wrap_i64_in (by omega) (by omega)
       · try (exfalso; first | (simp at hc5; done) | (simp only [decide_eq_true_eq, decide_eq_false_iff_not, Bool.not_eq_true', Bool.not_eq_false', Bool.not_eq_true, Bool.not_eq_false] at hc5; omega) | omega)
         all_goals
          try simp only [decide_eq_true_eq, decide_eq_false_iff_not, Bool.not_eq_true', Bool.not_eq_false', Bool.not_eq_true, Bool.not_eq_false, Option.isNone_none, Option.isNone_some, Option.isSome_none, Option.isSome_some, ne_eq, Decidable.not_not] at hc5
          refine WC.seq ?_
          refine WC.region ?_
          refine WL.val rfl rfl rfl rfl (r_eql rfl (ev_t rfl) ev_c) ?_
          refine WL.val rfl rfl rfl rfl (r_assign rfl (ev_t rfl)) ?_
          refine WL.nil ?_
          refine WX.keep [(1, _), (2, _), (3, _), (9, _), (15, _), (24, _)] ⟨rfl, rfl, rfl, rfl, rfl, rfl, trivial⟩ ?_
          refine WX.next ?_
          refine WC.cond rfl (ev_t rfl) (fun hc7 => ?_) (fun hc7 => ?_)
          · try (exfalso; first | (simp at hc7; done) | (simp only [decide_eq_true_eq, decide_eq_false_iff_not, Bool.not_eq_true', Bool.not_eq_false', Bool.not_eq_true, Bool.not_eq_false] at hc7; omega) | omega)
            all_goals
             try simp only [decide_eq_true_eq, decide_eq_false_iff_not, Bool.not_eq_true', Bool.not_eq_false', Bool.not_eq_true, Bool.not_eq_false, Option.isNone_none, Option.isNone_some, Option.isSome_none, Option.isSome_some, ne_eq, Decidable.not_not] at hc7
             refine WC.region ?_
             first | refine WL.val rfl rfl rfl rfl (r_field0 rfl (ev_t rfl) fld_44_1) ?_ | refine WL.val rfl rfl rfl rfl (r_fieldAt rfl (ev_t rfl) fld_44_1) ?_
             refine WL.val rfl rfl rfl rfl (r_load rfl (ev_t rfl) flat_2 (Blk.cell hB1 rfl)) ?_
             refine WL.val rfl rfl rfl rfl (r_add rfl (ev_t rfl) ev_c) ?_
             refine WL.val rfl rfl rfl rfl (r_assign rfl (ev_t rfl)) ?_
             refine WL.nil ?_
             refine WX.keep [(1, _), (2, _), (3, _), (9, _)] ⟨rfl, rfl, rfl, rfl, trivial⟩ ?_
             refine WX.blockNormal ?_
             refine WX.meet [(1, _), (2, _), (3, _), (9, _)] ⟨rfl, rfl, rfl, rfl, trivial⟩ ?_
             refine ⟨rfl, _, _, ?_, ?_, ?_, ?_, rfl⟩
             · first | exact wrap_inK _ _ | (simp only [inK]; omega)
             · first | exact wrap_inK _ _ | (simp only [inK]; omega)
             · intro hin
               simp (disch := omega) only [if_pos, if_neg] at hnn
               subst hnn
               first | rfl | exact wrap_in hin
             · intro _ _
               simp (disch := omega) only [if_pos, if_neg] at htt
               subst htt
               first | rfl | omega | exact wrap_i64_in (by omega) (by omega)
          · try (exfalso; first | (simp at hc7; done) | (simp only [decide_eq_true_eq, decide_eq_false_iff_not, Bool.not_eq_true', Bool.not_eq_false', Bool.not_eq_true, Bool.not_eq_false] at hc7; omega) | omega)
            all_goals
             try simp only [decide_eq_true_eq, decide_eq_false_iff_not, Bool.not_eq_true', Bool.not_eq_false', Bool.not_eq_true, Bool.not_eq_false, Option.isNone_none, Option.isNone_some, Option.isSome_none, Option.isSome_some, ne_eq, Decidable.not_not] at hc7
             refine WC.seq ?_
             refine WC.region ?_
             refine WL.val rfl rfl rfl rfl (r_eql rfl (ev_t rfl) ev_c) ?_
             refine WL.val rfl rfl rfl rfl (r_assign rfl (ev_t rfl)) ?_
             refine WL.nil ?_
             refine WX.keep [(1, _), (2, _), (3, _), (9, _), (15, _), (29, _)] ⟨rfl, rfl, rfl, rfl, rfl, rfl, trivial⟩ ?_
             refine WX.next ?_
             refine WC.cond rfl (ev_t rfl) (fun hc9 => ?_) (fun hc9 => ?_)
             · try (exfalso; first | (simp at hc9; done) | (simp only [decide_eq_true_eq, decide_eq_false_iff_not, Bool.not_eq_true', Bool.not_eq_false', Bool.not_eq_true, Bool.not_eq_false] at hc9; omega) | omega)
               all_goals
                try simp only [decide_eq_true_eq, decide_eq_false_iff_not, Bool.not_eq_true', Bool.not_eq_false', Bool.not_eq_true, Bool.not_eq_false, Option.isNone_none, Option.isNone_some, Option.isSome_none, Option.isSome_some, ne_eq, Decidable.not_not] at hc9
                refine WC.region ?_
                refine WL.val rfl rfl rfl rfl (r_move rfl (ev_t rfl)) ?_
                refine WL.val rfl rfl rfl rfl (r_add rfl (ev_t rfl) ev_c) ?_
                refine WL.val rfl rfl rfl rfl (r_assign rfl (ev_t rfl)) ?_
                refine WL.nil ?_
                refine WX.keep [(1, _), (2, _), (3, _), (9, _)] ⟨rfl, rfl, rfl, rfl, trivial⟩ ?_
                refine WX.blockNormal ?_
                refine WX.meet [(1, _), (2, _), (3, _), (9, _)] ⟨rfl, rfl, rfl, rfl, trivial⟩ ?_
                refine ⟨rfl, _, _, ?_, ?_, ?_, ?_, rfl⟩
                · first | exact wrap_inK _ _ | (simp only [inK]; omega)
                · first | exact wrap_inK _ _ | (simp only [inK]; omega)
                · intro hin
                  simp (disch := omega) only [if_pos, if_neg] at hnn
                  subst hnn
                  first | rfl | exact wrap_in hin
                · intro _ _
                  simp (disch := omega) only [if_pos, if_neg] at htt
                  subst htt
                  first | rfl | omega | exact wrap_i64_in (by omega) (by omega)
             · try (exfalso; first | (simp at hc9; done) | (simp only [decide_eq_true_eq, decide_eq_false_iff_not, Bool.not_eq_true', Bool.not_eq_false', Bool.not_eq_true, Bool.not_eq_false] at hc9; omega) | omega)
               all_goals
                try simp only [decide_eq_true_eq, decide_eq_false_iff_not, Bool.not_eq_true', Bool.not_eq_false', Bool.not_eq_true, Bool.not_eq_false, Option.isNone_none, Option.isNone_some, Option.isSome_none, Option.isSome_some, ne_eq, Decidable.not_not] at hc9
                refine WC.seq ?_
                refine WC.region ?_
                refine WL.val rfl rfl rfl rfl (r_eql rfl (ev_t rfl) ev_c) ?_
                refine WL.val rfl rfl rfl rfl (r_assign rfl (ev_t rfl)) ?_
                refine WL.nil ?_
                refine WX.keep [(1, _), (2, _), (3, _), (9, _), (33, _)] ⟨rfl, rfl, rfl, rfl, rfl, trivial⟩ ?_
                refine WX.next ?_
                refine WC.cond rfl (ev_t rfl) (fun hc11 => ?_) (fun hc11 => ?_)
                · try (exfalso; first | (simp at hc11; done) | (simp only [decide_eq_true_eq, decide_eq_false_iff_not, Bool.not_eq_true', Bool.not_eq_false', Bool.not_eq_true, Bool.not_eq_false] at hc11; omega) | omega)
                  all_goals
                   try simp only [decide_eq_true_eq, decide_eq_false_iff_not, Bool.not_eq_true', Bool.not_eq_false', Bool.not_eq_true, Bool.not_eq_false, Option.isNone_none, Option.isNone_some, Option.isSome_none, Option.isSome_some, ne_eq, Decidable.not_not] at hc11
                   refine WC.region ?_
                   refine WL.val rfl rfl rfl rfl (r_move rfl (ev_t rfl)) ?_
                   refine WL.val rfl rfl rfl rfl (r_sub rfl (ev_t rfl) ev_c) ?_
                   refine WL.val rfl rfl rfl rfl (r_assign rfl (ev_t rfl)) ?_
                   refine WL.nil ?_
                   refine WX.keep [(1, _), (2, _), (3, _), (9, _)] ⟨rfl, rfl, rfl, rfl, trivial⟩ ?_
                   refine WX.blockNormal ?_
                   refine WX.meet [(1, _), (2, _), (3, _), (9, _)] ⟨rfl, rfl, rfl, rfl, trivial⟩ ?_
                   refine ⟨rfl, _, _, ?_, ?_, ?_, ?_, rfl⟩
                   · first | exact wrap_inK _ _ | (simp only [inK]; omega)
                   · first | exact wrap_inK _ _ | (simp only [inK]; omega)
                   · intro hin
                     simp (disch := omega) only [if_pos, if_neg] at hnn
                     subst hnn
                     first | rfl | exact wrap_in hin
                   · intro _ _
                     simp (disch := omega) only [if_pos, if_neg] at htt
                     subst htt
                     first | rfl | omega | exact wrap_i64_in (by omega) (by omega)
                · try (exfalso; first | (simp at hc11; done) | (simp only [decide_eq_true_eq, decide_eq_false_iff_not, Bool.not_eq_true', Bool.not_eq_false', Bool.not_eq_true, Bool.not_eq_false] at hc11; omega) | omega)
                  all_goals
                   try simp only [decide_eq_true_eq, decide_eq_false_iff_not, Bool.not_eq_true', Bool.not_eq_false', Bool.not_eq_true, Bool.not_eq_false, Option.isNone_none, Option.isNone_some, Option.isSome_none, Option.isSome_some, ne_eq, Decidable.not_not] at hc11
                   refine WC.skip ?_
                   refine WX.blockNormal ?_
                   refine WX.meet [(1, _), (2, _), (3, _), (9, _)] ⟨rfl, rfl, rfl, rfl, trivial⟩ ?_
                   refine ⟨rfl, _, _, ?_, ?_, ?_, ?_, rfl⟩
                   · first | exact wrap_inK _ _ | (simp only [inK]; omega)
                   · first | exact wrap_inK _ _ | (simp only [inK]; omega)
                   · intro hin
                     simp (disch := omega) only [if_pos, if_neg] at hnn
                     subst hnn
                     first | rfl | exact wrap_in hin
                   · intro _ _
                     simp (disch := omega) only [if_pos, if_neg] at htt
                     subst htt
                     first | rfl | omega | exact wrap_i64_in (by omega) (by omega)
  · rintro E w2 ⟨rfl, n9, t2, hn9, ht2, hnq, htq, rfl⟩
    refine WC.seq ?_
    refine WC.draws' (fun u0_ u1_ => Upd No u0_ u1_) (fun j => [0, 0, 0, 0, 0, 0, 0, 0, 0, 0, 0, 0, 0, 0, 0, 0, 0, 1, 0, 1, 0, 0, 0, 0, 0].getD j 0) (.calm 0 (.calm 13 (.calm 14 (.calm 15 (.calm 16 (.calm 21 (.held 1 (.calm 2 (.calm 3 (.calm 4 (.held 5 (.calm 6 (.calm 7 (.calm 8 (.calm 9 (.held 10 (.calm 11 (.calm 12 (.calm 22 (.one 17 (.calm 18 (.one 19 (.calm 20 (.calm 23 (.calm 24 (.done)))))))))))))))))))))))))) mixed (by kernel_rfl) (by repeat (first | with_reducible exact Deaf.body | with_reducible apply Deaf.then | with_reducible apply Deaf.block)) ?_
    intro w2 hu2
    have hz2 := congrArg Array.size hu2.2.2.2
    replace hu2 := Upd.of_draw hu2
    have hs2 := hu2.size
    replace hU := hU.transA hu2
    replace hB1 := hB1.updA hu2
    have hS13 := Upd.refl No w2
    first | refine WN.calm _ rfl rfl rfl rfl rfl (fun _ => r_field0 rfl (ev_t rfl) fld_44_0) ?_ | refine WN.calm _ rfl rfl rfl rfl rfl (fun _ => r_fieldAt rfl (ev_t rfl) fld_44_0) ?_
    refine WN.calm _ rfl rfl rfl rfl rfl (fun _ => r_move rfl (ev_t rfl)) ?_
    refine WN.calm _ rfl rfl rfl rfl rfl (fun _ => r_move rfl (ev_t rfl)) ?_
    refine WN.calm _ rfl rfl rfl rfl rfl (fun _ => r_sub rfl (ev_t rfl) (ev_t rfl)) ?_
    first | refine WN.calm _ rfl rfl rfl rfl rfl (fun _ => r_field0 rfl (ev_t rfl) fld_44_0) ?_ | refine WN.calm _ rfl rfl rfl rfl rfl (fun _ => r_fieldAt rfl (ev_t rfl) fld_44_0) ?_
    refine WN.calm _ rfl rfl rfl rfl rfl (fun _ => r_move rfl (ev_t rfl)) ?_
    refine WN.held _ rfl rfl rfl rfl rfl hS13 (fun w' hS => r_load rfl (ev_t rfl) flat_5 (Blk.cell (hB1.upd hS (fun h => h)) rfl)) ?_
    refine WN.calm _ rfl rfl rfl rfl rfl (fun _ => r_neq rfl (ev_t rfl) ev_c) ?_
    refine WN.calm _ rfl rfl rfl rfl rfl (fun _ => r_move rfl (ev_t rfl)) ?_
    refine WN.cases 40 rfl (fun hb13_3 => ?_) (fun hb13_3 => ?_)
    · try (exfalso; first | (simp at hb13_3; done) | (simp only [decide_eq_true_eq, decide_eq_false_iff_not, Bool.not_eq_true', Bool.not_eq_false', Bool.not_eq_true, Bool.not_eq_false] at hb13_3; omega) | omega)
      all_goals
       try simp only [decide_eq_true_eq, decide_eq_false_iff_not, Bool.not_eq_true', Bool.not_eq_false', Bool.not_eq_true, Bool.not_eq_false, Option.isNone_none, Option.isNone_some, Option.isSome_none, Option.isSome_some, ne_eq, Decidable.not_not] at hb13_3
       first | refine WN.calm _ rfl rfl rfl rfl rfl (fun _ => r_field0 rfl (ev_t rfl) fld_44_0) ?_ | refine WN.calm _ rfl rfl rfl rfl rfl (fun _ => r_fieldAt rfl (ev_t rfl) fld_44_0) ?_
       refine WN.held _ rfl rfl rfl rfl rfl hS13 (fun w' hS => r_load rfl (ev_t rfl) flat_5 (Blk.cell (hB1.upd hS (fun h => h)) rfl)) ?_
       refine WN.calm _ rfl rfl rfl rfl rfl (fun _ => r_neq rfl (ev_t rfl) ev_c) ?_
       refine WN.calm _ rfl rfl rfl rfl rfl (fun _ => r_pickT rfl (ev_t rfl) (ev_t rfl)) ?_
       refine WN.calm _ rfl rfl rfl rfl rfl (fun _ => r_move rfl (ev_t rfl)) ?_
       refine WN.cases 45 rfl (fun hb13_8 => ?_) (fun hb13_8 => ?_)
       · try (exfalso; first | (simp at hb13_8; done) | (simp only [decide_eq_true_eq, decide_eq_false_iff_not, Bool.not_eq_true', Bool.not_eq_false', Bool.not_eq_true, Bool.not_eq_false] at hb13_8; omega) | omega)
         all_goals
          try simp only [decide_eq_true_eq, decide_eq_false_iff_not, Bool.not_eq_true', Bool.not_eq_false', Bool.not_eq_true, Bool.not_eq_false, Option.isNone_none, Option.isNone_some, Option.isSome_none, Option.isSome_some, ne_eq, Decidable.not_not] at hb13_8
          first | refine WN.calm _ rfl rfl rfl rfl rfl (fun _ => r_field0 rfl (ev_t rfl) fld_44_0) ?_ | refine WN.calm _ rfl rfl rfl rfl rfl (fun _ => r_fieldAt rfl (ev_t rfl) fld_44_0) ?_
          refine WN.held _ rfl rfl rfl rfl rfl hS13 (fun w' hS => r_load rfl (ev_t rfl) flat_5 (Blk.cell (hB1.upd hS (fun h => h)) rfl)) ?_
          refine WN.calm _ rfl rfl rfl rfl rfl (fun _ => r_neq rfl (ev_t rfl) ev_c) ?_
          refine WN.calm _ rfl rfl rfl rfl rfl (fun _ => r_pickT rfl (ev_t rfl) (ev_t rfl)) ?_
          refine WN.calm _ rfl rfl rfl rfl rfl (fun _ => r_assign rfl (ev_t rfl)) ?_
          refine WN.step _ rfl (SO.val rfl rfl rfl rfl (r_load rfl (ev_t rfl) flat_5 (Blk.cell hB1 rfl)) ?_)
          refine ⟨hS13, ?_⟩
          refine WN.calm _ rfl rfl rfl rfl rfl (fun _ => r_indexArr rfl ev_g (ev_t rfl) arr_82 size_3 (by omega) (by omega)) ?_
          refine WN.step _ rfl (SO.val rfl rfl rfl rfl (r_load rfl (ev_t rfl) flat_3 (Rd.cell (hT.upd hU).2 (j := op) (by omega) (lvT_cell (by omega)))) ?_)
          refine ⟨hS13, ?_⟩
          refine WN.calm _ rfl rfl rfl rfl rfl (fun _ => r_add rfl (ev_t rfl) (ev_t rfl)) ?_
          refine WN.calm _ rfl rfl rfl rfl rfl (fun _ => r_assign rfl (ev_t rfl)) ?_
          refine WN.calm _ rfl rfl rfl rfl rfl (fun _ => r_assign rfl (ev_t rfl)) ?_
          refine WN.done ?_
          refine WX.keep [(6, _), (7, _), (8, _)] ⟨rfl, rfl, rfl, trivial⟩ ?_
          refine WX.next ?_
          refine WC.ret ?_
          refine WX.retE (l := [.tmp 6, .tmp 7, .tmp 8]) (vs := [_, _, _]) rfl ⟨rfl, rfl, rfl, trivial⟩ ?_
          have key : ∀ b d' t', b = nx → (tupleOf [.bool b, .int .i64 d', .int .i64 t'] : Value) = .tuple #[.bool nx, .int .i64 d', .int .i64 t'] := fun b d' t' e => by subst e; rfl
          refine ⟨⟨_, _, key _ _ _ ?_, wrap_inK _ _, ht2, ?_, htq⟩, hU⟩
          · rw [← hnx, Bool.eq_iff_iff]
            simp only [Bool.and_eq_true, decide_eq_true_eq, Bool.false_eq_true, ne_eq, false_iff]
            omega
          · intro a1 a2 a3
            rw [hnq (by simp only [inK]; omega), wrap_i64_in (n := d - nn) (by omega) (by omega), wrap_i64_in (by omega) (by omega)]
       · try (exfalso; first | (simp at hb13_8; done) | (simp only [decide_eq_true_eq, decide_eq_false_iff_not, Bool.not_eq_true', Bool.not_eq_false', Bool.not_eq_true, Bool.not_eq_false] at hb13_8; omega) | omega)
         all_goals
          try simp only [decide_eq_true_eq, decide_eq_false_iff_not, Bool.not_eq_true', Bool.not_eq_false', Bool.not_eq_true, Bool.not_eq_false, Option.isNone_none, Option.isNone_some, Option.isSome_none, Option.isSome_some, ne_eq, Decidable.not_not] at hb13_8
          refine WN.skip _ rfl rfl rfl rfl ?_
          refine WN.heldSkip _ rfl rfl rfl rfl hS13 ?_
          refine WN.skip _ rfl rfl rfl rfl ?_
          refine WN.calm _ rfl rfl rfl rfl rfl (fun _ => r_pickF rfl (ev_t rfl) ev_c) ?_
          refine WN.calm _ rfl rfl rfl rfl rfl (fun _ => r_assign rfl (ev_t rfl)) ?_
          refine WN.step _ rfl (SO.val rfl rfl rfl rfl (r_load rfl (ev_t rfl) flat_5 (Blk.cell hB1 rfl)) ?_)
          refine ⟨hS13, ?_⟩
          refine WN.calm _ rfl rfl rfl rfl rfl (fun _ => r_indexArr rfl ev_g (ev_t rfl) arr_82 size_3 (by omega) (by omega)) ?_
          refine WN.step _ rfl (SO.val rfl rfl rfl rfl (r_load rfl (ev_t rfl) flat_3 (Rd.cell (hT.upd hU).2 (j := op) (by omega) (lvT_cell (by omega)))) ?_)
          refine ⟨hS13, ?_⟩
          refine WN.calm _ rfl rfl rfl rfl rfl (fun _ => r_add rfl (ev_t rfl) (ev_t rfl)) ?_
          refine WN.calm _ rfl rfl rfl rfl rfl (fun _ => r_assign rfl (ev_t rfl)) ?_
          refine WN.calm _ rfl rfl rfl rfl rfl (fun _ => r_assign rfl (ev_t rfl)) ?_
          refine WN.done ?_
          refine WX.keep [(6, _), (7, _), (8, _)] ⟨rfl, rfl, rfl, trivial⟩ ?_
          refine WX.next ?_
          refine WC.ret ?_
          refine WX.retE (l := [.tmp 6, .tmp 7, .tmp 8]) (vs := [_, _, _]) rfl ⟨rfl, rfl, rfl, trivial⟩ ?_
          have key : ∀ b d' t', b = nx → (tupleOf [.bool b, .int .i64 d', .int .i64 t'] : Value) = .tuple #[.bool nx, .int .i64 d', .int .i64 t'] := fun b d' t' e => by subst e; rfl
          refine ⟨⟨_, _, key _ _ _ ?_, wrap_inK _ _, ht2, ?_, htq⟩, hU⟩
          · rw [← hnx, Bool.eq_iff_iff]
            simp only [Bool.and_eq_true, decide_eq_true_eq, Bool.false_eq_true, ne_eq, false_iff]
            omega
          · intro a1 a2 a3
            rw [hnq (by simp only [inK]; omega), wrap_i64_in (n := d - nn) (by omega) (by omega), wrap_i64_in (by omega) (by omega)]
    · try (exfalso; first | (simp at hb13_3; done) | (simp only [decide_eq_true_eq, decide_eq_false_iff_not, Bool.not_eq_true', Bool.not_eq_false', Bool.not_eq_true, Bool.not_eq_false] at hb13_3; omega) | omega)
      all_goals
       try simp only [decide_eq_true_eq, decide_eq_false_iff_not, Bool.not_eq_true', Bool.not_eq_false', Bool.not_eq_true, Bool.not_eq_false, Option.isNone_none, Option.isNone_some, Option.isSome_none, Option.isSome_some, ne_eq, Decidable.not_not] at hb13_3
       refine WN.skip _ rfl rfl rfl rfl ?_
       refine WN.heldSkip _ rfl rfl rfl rfl hS13 ?_
       refine WN.skip _ rfl rfl rfl rfl ?_
       refine WN.calm _ rfl rfl rfl rfl rfl (fun _ => r_pickF rfl (ev_t rfl) ev_c) ?_
       refine WN.calm _ rfl rfl rfl rfl rfl (fun _ => r_move rfl (ev_t rfl)) ?_
       refine WN.skip _ rfl rfl rfl rfl ?_
       refine WN.heldSkip _ rfl rfl rfl rfl hS13 ?_
       refine WN.skip _ rfl rfl rfl rfl ?_
       refine WN.calm _ rfl rfl rfl rfl rfl (fun _ => r_pickF rfl (ev_t rfl) ev_c) ?_
       refine WN.calm _ rfl rfl rfl rfl rfl (fun _ => r_assign rfl (ev_t rfl)) ?_
       refine WN.step _ rfl (SO.val rfl rfl rfl rfl (r_load rfl (ev_t rfl) flat_5 (Blk.cell hB1 rfl)) ?_)
       refine ⟨hS13, ?_⟩
       refine WN.calm _ rfl rfl rfl rfl rfl (fun _ => r_indexArr rfl ev_g (ev_t rfl) arr_82 size_3 (by omega) (by omega)) ?_
       refine WN.step _ rfl (SO.val rfl rfl rfl rfl (r_load rfl (ev_t rfl) flat_3 (Rd.cell (hT.upd hU).2 (j := op) (by omega) (lvT_cell (by omega)))) ?_)
       refine ⟨hS13, ?_⟩
       refine WN.calm _ rfl rfl rfl rfl rfl (fun _ => r_add rfl (ev_t rfl) (ev_t rfl)) ?_
       refine WN.calm _ rfl rfl rfl rfl rfl (fun _ => r_assign rfl (ev_t rfl)) ?_
       refine WN.calm _ rfl rfl rfl rfl rfl (fun _ => r_assign rfl (ev_t rfl)) ?_
       refine WN.done ?_
       refine WX.keep [(6, _), (7, _), (8, _)] ⟨rfl, rfl, rfl, trivial⟩ ?_
       refine WX.next ?_
       refine WC.ret ?_
       refine WX.retE (l := [.tmp 6, .tmp 7, .tmp 8]) (vs := [_, _, _]) rfl ⟨rfl, rfl, rfl, trivial⟩ ?_
       have key : ∀ b d' t', b = nx → (tupleOf [.bool b, .int .i64 d', .int .i64 t'] : Value) = .tuple #[.bool nx, .int .i64 d', .int .i64 t'] := fun b d' t' e => by subst e; rfl
       refine ⟨⟨_, _, key _ _ _ ?_, wrap_inK _ _, ht2, ?_, htq⟩, hU⟩
       · rw [← hnx, Bool.eq_iff_iff]
         simp only [Bool.and_eq_true, decide_eq_true_eq, Bool.false_eq_true, ne_eq, false_iff]
         omega
       · intro a1 a2 a3
         rw [hnq (by simp only [inK]; omega), wrap_i64_in (n := d - nn) (by omega) (by omega), wrap_i64_in (by omega) (by omega)]
end Go.Proofs.YtipabhbnljadfaaDoor

/-
  From a walk to the statement of a row that lists variables: the two tables of law 08.
-/
namespace Go.Proofs.YtipabhbnljadfaaDoor
open Go Go.ChangeShapes Go.WideShapes Go.ChangeAt Go.RowKit
set_option linter.unusedSimpArgs false
set_option linter.unusedVariables false

abbrev laidL : List (String × DataW Unit) := [("battledore/code.takes", Rows.laid_battledore_code_takes), ("battledore/code.leaves", Rows.laid_battledore_code_leaves)]

theorem trod_ints {P : Program} {w : World} {fuel n : Nat} {e t : TypeId} {k : IntKind} {cs : List Value} {p : List MemPlace} {l : List Int} (ht : P.underlying t = some (.array n e)) (he : P.underlying e = some (.int k)) (hc : P.cellsOf e = 1) (hct : P.cellsOf t = n) (hl : l.length = n)
    (h : DataW.trod (fun _ => ()) P w 0 (fun _ => true) false fuel t cs = some (.agg (l.map fun i => .lit (.int k i)), p)) : cs = l.map (Value.int k) := by
  obtain ⟨xs, m, rfl, hx, hlen, hxs, hel⟩ := DataW.trod_array ht h
  simp only [Prod.mk.injEq, DataW.agg.injEq] at hx
  apply List.ext_getElem?
  intro i
  rcases Nat.lt_or_ge i n with hi | hi
  · have h1 := hel i hi
    rw [hc] at h1
    have hxi : xs[i]? = some xs[i] := List.getElem?_eq_getElem (by omega)
    rw [hxi] at h1
    obtain ⟨z, e1, e2, _⟩ := DataW.trod_int he h1
    have h2 : (xs.map (·.1))[i]? = (l.map fun i => (DataW.lit (.int k i) : DataW Unit))[i]? := by rw [← hx.1]
    rw [List.getElem?_map, List.getElem?_map, hxi, e2, List.getElem?_eq_getElem (by omega)] at h2
    simp only [Option.map_some, Option.some.injEq, DataW.lit.injEq, Lit.int.injEq, true_and] at h2
    have h3 : cs[i]? = some (.int k z) := by
      have h4 : ((cs.drop (i * 1)).take 1)[0]? = some (.int k z) := by rw [e1]; rfl
      rw [List.getElem?_take_of_lt (by omega), List.getElem?_drop, Nat.mul_one, Nat.add_zero] at h4
      exact h4
    rw [h3, List.getElem?_map, List.getElem?_eq_getElem (by omega), h2]
    rfl
  · rw [List.getElem?_eq_none (by omega), List.getElem?_eq_none (by rw [List.length_map]; omega)]

theorem Rd.of_cells {w : World} {b n : Nat} {l : List Value} (hl : l.length = n) (hn : 0 < n) (hm : n ≤ 140737488355328) (h : ∀ j u, l[j]? = some u → w.cell? ⟨b, j, none⟩ = some u) : Rd w (fun _ => True) (.slice (some ⟨b, 0, none⟩) n n) n 1 l := by
  refine ⟨_, _, rfl, Nat.le_refl _, hm, by omega, fun _ => ⟨b, 0, rfl, trivial, ?_, fun j u hj => by rw [Nat.zero_add]; exact h j u hj⟩⟩
  have h0 := h 0 (l[0]'(by omega)) (List.getElem?_eq_getElem (by omega))
  refine Nat.lt_of_not_le fun hb => ?_
  unfold World.cell? at h0
  rw [Array.getElem?_eq_none hb] at h0
  cases h0

theorem gTakes : Tryd.prog.globalNamed "battledore/code.takes" = some 0 := by kernel_rfl
theorem gLeaves : Tryd.prog.globalNamed "battledore/code.leaves" = some 1 := by kernel_rfl
theorem tTakes : (Tryd.prog.globals[0]?).map (·.type) = some 82 := by kernel_rfl
theorem tLeaves : (Tryd.prog.globals[1]?).map (·.type) = some 82 := by kernel_rfl

theorem tk_of_laid {W : World} (h : laidMetH Tryd.prog laidL W) : Tk W := by
  rw [MakeChecks.laidMetH_plain _ _ _ (by kernel_rfl)] at h
  obtain ⟨ps, ⟨g0, t0, cs0, f0, p0, q0, hg0, ht0, hv0, hd0, ⟨g1, t1, cs1, f1, p1, q1, hg1, ht1, hv1, hd1, _, _⟩, _⟩, _, _⟩ := h
  obtain rfl := Option.some.inj (gTakes.symm.trans hg0)
  obtain rfl := Option.some.inj (gLeaves.symm.trans hg1)
  obtain rfl := Option.some.inj (tTakes.symm.trans ht0)
  obtain rfl := Option.some.inj (tLeaves.symm.trans ht1)
  have e0 := trod_ints (l := takesT) Tryd.underlying82 Tryd.underlying3 (by kernel_rfl) (by kernel_rfl) rfl hd0
  have e1 := trod_ints (l := leavesT) Tryd.underlying82 Tryd.underlying3 (by kernel_rfl) (by kernel_rfl) rfl hd1
  refine ⟨Rd.of_cells rfl (by decide) (by decide) fun j u hj => ?_, Rd.of_cells rfl (by decide) (by decide) fun j u hj => ?_⟩
  · rw [World.var?_cell hg0 hv0 j, ← Array.getElem?_toList, e0]; exact hj
  · rw [World.var?_cell hg1 hv1 j, ← Array.getElem?_toList, e1]; exact hj

/-- The door's own heap meets the condition. -/
theorem door_met (os : Os) (args : Array Value) : laidMetH Tryd.prog laidL ((World.doorLaid Tryd.prog 19 os).forCall (fun _ _ => 0) ⟨#[], args, []⟩).memory :=
  laidMetH_of_parts3 (fuel := 8) (laidMet_of_run' 8 (by kernel_rfl) (by kernel_rfl)) (by kernel_rfl) (by kernel_rfl)

set_option maxRecDepth 100000 in
theorem law_returns_laid {H : Type} {enc : TypeId × Value → H} {os : Os} {f : FuncId} {fn : Func} {s : ChangeSpec} {tb : TypeId} {conds : List PathCond} (started : os.Started)
    (hfn : Tryd.prog.funcs[f]? = some fn) (noInit : Tryd.prog.inits.idxOf? f = none) (hv : s.vars = [])
    (hspec : ∀ ds : List (DataW H), ds.length = fn.params.toList.length → s.fn H ds = { results := [.lit (.bool true)], args := ds })
    (hres : fn.resultTypes = #[tb]) (htb : Tryd.prog.underlying tb = some .bool)
    (hrd : (fn.params.toList.all fun t => Tryd.prog.readableRec t && decide (t < Tryd.prog.types.size)) = true)
    (witness : ∃ (w : World) (tape : Tape) (i : Input), w.os = os ∧ (w.forCall tape i).Shaped Tryd.checked.prog ∧ i.vars = [] ∧ Input.okWide Tryd.checked.prog (w.forCall tape i) .any w.heap.size f i ∧
      ((s.pre enc Tryd.checked.prog fn conds false (w.forCall tape i).memory i.args ∧ laidMetH Tryd.prog laidL (w.forCall tape i).memory) ∧ sizedMet enc Tryd.checked.prog fn (OpenSpec.ofChange s) false (w.forCall tape i).memory i.args) ∧ ({} : Assume).holds Tryd.checked.prog (lone (Frame.enter Tryd.checked.prog f i.args .normal) [] (w.forCall tape i)))
    (walk : ∀ (W : World) (base : Nat) (args : Array Value) (ds : List (DataW H)) (ps : List MemPlace), Tk W →
      (∀ (j : Nat) t v, fn.params[j]? = some t → args[j]? = some v → Value.okWide Tryd.prog W .any base t v) →
      DataW.TrodAll enc Tryd.prog W 0 (fun _ => true) true fn.params.toList args.toList ds ps →
      conds.all (PathCond.test Tryd.prog ⟨fn.params.toList, ds, [], []⟩) = true →
      (DataW.weightsEach Tryd.prog fn.params.toList ds).all (· ≤ reachBytes) = true →
      Ret Tryd.prog f args W fun v W' => v = .bool true ∧ Upd No W W') :
    ReturnsInHanded {} Tryd.checked os f .any (fun w args => (s.pre enc Tryd.prog fn conds false w args ∧ laidMetH Tryd.prog laidL w) ∧ sizedMet enc Tryd.prog fn (OpenSpec.ofChange s) false w args) (s.post enc Tryd.prog fn false true false false) := by
  refine returnsInHanded_of_change_and (C := Tryd.checked) (X := fun w _ => laidMetH Tryd.prog laidL w) (fun _ _ _ hh h => h.of_heap hh) own_none started noInit hfn witness ?_
  intro W base args ds gs before hval hW hcnd hwt hL _
  have hW' := hW
  obtain ⟨p, q, hA, hV, rfl, hz, hnd⟩ := hW
  have hvt : s.plain.varTypes Tryd.checked.prog = [] := by simp [ChangeSpec.plain, DataSpec.varTypes, hv]
  have hV0 := hV
  rw [hv] at hV
  obtain ⟨rfl, rfl⟩ := trodVars_none hV
  simp only [hvt, List.append_nil] at hwt hcnd hW' hz
  have hA' : DataW.TrodAll enc Tryd.prog W 0 (fun _ => true) true fn.params.toList args.toList ds p := hA
  refine Calls.mono (walk W base args ds p (tk_of_laid hL) hval hA' hcnd hwt) ?_
  rintro e W' ⟨v, rfl, rfl, hu⟩
  have hb : Below W.heap.size W W' := hu.below (Nat.le_refl _) (fun _ h => h.elim)
  have hlt : ∀ x ∈ p, x.block < W.heap.size := hA'.lt
  have hsf := hspec ds (trodAll_length hA')
  have harg : ∀ sp : Nat → Bool, (∀ x ∈ p, sp x.block = true) → DataW.TrodAll enc Tryd.prog W' 0 sp true fn.params.toList args.toList ds p := fun sp hs => trodAll_below laid_out hb hrd hA' hlt hs
  have hr1 : ∀ (b : Nat) (sp : Nat → Bool) (hd : Bool), DataW.TrodAll enc Tryd.prog W' b sp hd fn.resultTypes.toList ((Value.bool true).resultList fn.resultTypes.size) [.lit (.bool true)] [] := fun b sp hd => by
    rw [hres]
    exact trodAll_cons_mk (p' := []) (shut_bool htb _) trodAll_mk0
  have hvars : ∀ sp : Nat → Bool, DataW.TrodVars enc Tryd.prog W' sp s.vars [] [] := fun sp => by
    rw [hv]; exact rfl
  refine ⟨_, rfl, ds, [], p, [], p, [], hW', ?_, ?_, ?_, World.keptBut_mono (fun _ f => f.elim) (hb.frame fun _ => False), fun h => by cases h⟩
  · rw [List.append_nil, hsf]; exact hr1 _ _ _
  · rw [List.append_nil, hsf]; exact harg _ (fun x hx => by simpa using hlt x hx)
  · rw [List.append_nil, hsf]; exact hvars _
end Go.Proofs.YtipabhbnljadfaaDoor

/-
  Arguments opened: bytes.
-/
namespace Go.Proofs.YtipabhbnljadfaaDoor
open Go Go.ChangeShapes Go.WideShapes Go.ChangeAt Go.RowKit Go.Deep
set_option linter.unusedSimpArgs false
set_option linter.unusedVariables false

theorem okWide_slice {P : Program} {W : World} {base : Nat} {t e : TypeId} {v : Value} (ht : P.underlying t = some (.slice e)) (hv : Value.okWide P W .any base t v) :
    v = .slice none 0 0 ∨ ∃ b off len cap, v = .slice (some ⟨b, off, none⟩) len cap ∧ len ≤ cap := by
  cases v with
  | slice A len cap =>
    cases A with
    | none =>
      cases len <;> cases cap <;> first | exact .inl rfl | (exfalso; simp [Value.okWide, ht, Cell.okWide, Cell.ok] at hv)
    | some a =>
      obtain ⟨b, off, sp⟩ := a
      simp only [Value.okWide, ht, Cell.okWide, Cell.ok] at hv
      have := hv.2.2.2.1
      simp only at this
      subst this
      exact .inr ⟨b, off, len, cap, rfl, hv.1⟩
  | _ => exfalso; simp [Value.okWide, ht, Cell.okWide, Cell.ok] at hv

theorem cell_lt {w : World} {b off : Nat} {v : Value} (h : w.cell? ⟨b, off, none⟩ = some v) : b < w.heap.size := by
  rcases Nat.lt_or_ge b w.heap.size with h1 | h1
  · exact h1
  · simp [World.cell?, Array.getElem?_eq_none h1] at h

/-- a byte, off a value -/
def byteOf : Value → UInt8
  | .int _ z => UInt8.ofNat z.toNat
  | _ => 0

theorem open_bytes {H : Type} {enc : TypeId × Value → H} {P : Program} {W : World} {base : Nat} {v : Value} {d : DataW H} {ps : List MemPlace} {t e : TypeId} (ht : P.underlying t = some (.slice e)) (he : P.underlying e = some (.int .u8))
    (hc : P.cellsOf e = 1) (hby : P.bytesOf e = 1) (hv : Value.okWide P W .any base t v) (h : DataW.Trod enc P W 0 (fun _ => true) true t v d ps) (hw : (d.weights P t).all (· ≤ reachBytes) = true) :
    ∃ l : List UInt8, Rd W (fun k => k < W.heap.size) v l.length 1 (l.map U8) ∧ l.length ≤ 140737488351232 := by
  obtain ⟨fuel, h⟩ := h
  rcases okWide_slice ht hv with rfl | ⟨b, off, len, cap, rfl, hle⟩
  · exact ⟨[], Rd.nil _ _ _, by simp⟩
  · rcases open_slice1 ht hc h with ⟨hcs, _⟩ | ⟨a, len', cap', m, n, V, D, Pl, hcs, _, hl, hm, hmm, hx, hcell⟩
    · simp [Value.cells] at hcs
    · simp only [Value.cells, List.cons.injEq, Value.slice.injEq, and_true, Option.some.injEq] at hcs
      obtain ⟨rfl, rfl, rfl⟩ := hcs
      simp only [if_true] at hmm
      subst hmm
      have hd : d = .slice ((List.range len).map D) ((List.range (m - len)).map fun j => D (len + j)) := by
        injection hx
      have hsz : len ≤ 140737488351232 := by
        subst hd
        simp only [DataW.weights, ht, List.all_cons, Bool.and_eq_true, decide_eq_true_eq, List.length_map, List.length_range, hby] at hw
        have h1 := hw.1
        have h2 : reachBytes = 140737488351232 := rfl
        omega
      have hV : ∀ i, i < len → W.cell? ⟨b, off + i, none⟩ = some (U8 (byteOf (V i))) := fun i hi => by
        obtain ⟨h1, h2⟩ := hcell i (by omega)
        obtain ⟨z, hz, _, hwf⟩ := DataW.trod_int he h2
        have hVi : V i = .int .u8 z := by simpa using hz
        have hbd := bounds_u8 hwf
        have : Value.int .u8 z = U8 (byteOf (.int .u8 z)) := by
          simp only [U8, byteOf, UInt8.toNat_ofNat']
          congr 1
          omega
        rw [hVi, ← this, ← hVi]
        simpa [Addr.add_lit] using h1
      refine ⟨(List.range len).map fun i => byteOf (V i), ⟨some ⟨b, off, none⟩, m, by simp, by simpa using hle, by simp; omega, by simp, fun h0 => ⟨b, off, rfl, ?_, ?_, fun j u hj => ?_⟩⟩, by simpa using hsz⟩
      · exact cell_lt (hV 0 (by simp at h0; omega))
      · exact cell_lt (hV 0 (by simp at h0; omega))
      · simp only [List.getElem?_map] at hj
        rcases Nat.lt_or_ge j len with h1 | h1
        · rw [List.getElem?_range h1] at hj
          simp only [Option.map_some, Option.some.injEq] at hj
          rw [← hj]
          exact hV j h1
        · rw [List.getElem?_eq_none (by simpa using h1)] at hj
          simp at hj
end Go.Proofs.YtipabhbnljadfaaDoor

/-
  Arguments of any shape, opened: numbers, bools, texts, structs and slices, to any depth.
-/
namespace Go.Proofs.YtipabhbnljadfaaDoor
open Go Go.ChangeShapes Go.WideShapes Go.ChangeAt Go.RowKit Go.Deep
set_option linter.unusedSimpArgs false
set_option linter.unusedVariables false

/-- cells that are of a type: what they lead to lies in memory -/
def Rep (P : Program) (W : World) : Nat → TypeId → List Value → Prop
  | 0, _, _ => False
  | f + 1, t, cs => match P.underlying t with
    | some .bool => ∃ b, cs = [.bool b]
    | some (.int k) => ∃ n, cs = [.int k n] ∧ inK k n
    | some .string => ∃ s : List UInt8, cs = [.string ⟨s.toArray⟩] ∧ s.length ≤ 140737488351232
    | some (.slice e) => 0 < P.cellsOf e → 0 < P.bytesOf e → ∃ v n xs, cs = [v] ∧ n * P.bytesOf e ≤ 140737488351232 ∧ Rd W (fun k => k < W.heap.size) v n (P.cellsOf e) xs ∧ ∀ i, i < n → Rep P W f e ((xs.drop (i * P.cellsOf e)).take (P.cellsOf e))
    | some (.struct fs) => cs.length = P.cellsOf t ∧ ∀ (i : Nat) (q : Field), fs[i]? = some q → Rep P W f q.type ((cs.drop q.offset).take (P.cellsOf q.type))
    | _ => True

theorem Rep.bool {P : Program} {W : World} {f : Nat} {t : TypeId} {cs : List Value} (h : Rep P W f t cs) (ht : P.underlying t = some .bool) : ∃ b, cs = [.bool b] := by
  cases f with
  | zero => exact h.elim
  | succ f => simp only [Rep, ht] at h; exact h
theorem Rep.int {P : Program} {W : World} {f : Nat} {t : TypeId} {k : IntKind} {cs : List Value} (h : Rep P W f t cs) (ht : P.underlying t = some (.int k)) : ∃ n, cs = [.int k n] ∧ inK k n := by
  cases f with
  | zero => exact h.elim
  | succ f => simp only [Rep, ht] at h; exact h
theorem Rep.str {P : Program} {W : World} {f : Nat} {t : TypeId} {cs : List Value} (h : Rep P W f t cs) (ht : P.underlying t = some .string) : ∃ s : List UInt8, cs = [.string ⟨s.toArray⟩] ∧ s.length ≤ 140737488351232 := by
  cases f with
  | zero => exact h.elim
  | succ f => simp only [Rep, ht] at h; exact h
theorem Rep.slice {P : Program} {W : World} {f : Nat} {t e : TypeId} {cs : List Value} (h : Rep P W f t cs) (ht : P.underlying t = some (.slice e)) (hc : 0 < P.cellsOf e) (hb : 0 < P.bytesOf e) :
    ∃ g v n xs, f = g + 1 ∧ cs = [v] ∧ n * P.bytesOf e ≤ 140737488351232 ∧ Rd W (fun k => k < W.heap.size) v n (P.cellsOf e) xs ∧ ∀ i, i < n → Rep P W g e ((xs.drop (i * P.cellsOf e)).take (P.cellsOf e)) := by
  cases f with
  | zero => exact h.elim
  | succ f =>
    simp only [Rep, ht] at h
    obtain ⟨v, n, xs, h1, h2, h3, h4⟩ := h hc hb
    exact ⟨f, v, n, xs, rfl, h1, h2, h3, h4⟩
theorem Rep.struct {P : Program} {W : World} {f : Nat} {t : TypeId} {fs : Array Field} {cs : List Value} (h : Rep P W f t cs) (ht : P.underlying t = some (.struct fs)) :
    ∃ g, f = g + 1 ∧ cs.length = P.cellsOf t ∧ ∀ (i : Nat) (q : Field), fs[i]? = some q → Rep P W g q.type ((cs.drop q.offset).take (P.cellsOf q.type)) := by
  cases f with
  | zero => exact h.elim
  | succ f => simp only [Rep, ht] at h; exact ⟨f, rfl, h.1, h.2⟩

theorem spot_none {w : World} {a : Addr} {v : Value} (h : w.cell? a = some v) : a.spot = none := by
  unfold World.cell? at h
  split at h
  · split at h
    · cases h
    · rename_i hs
      simpa using hs
  · cases h
theorem choose_lt {α : Type} [Nonempty α] {n : Nat} {p : Nat → α → Prop} (h : ∀ i, i < n → ∃ x, p i x) : ∃ f : Nat → α, ∀ i, i < n → p i (f i) :=
  ⟨fun i => if hi : i < n then Classical.choose (h i hi) else Classical.choice inferInstance, fun i hi => by simp only [hi, dif_pos]; exact Classical.choose_spec (h i hi)⟩
theorem weightsAll_mem {H : Type} {P : Program} {e : TypeId} {d : DataW H} : ∀ {l : List (DataW H)}, d ∈ l → ∀ x ∈ d.weights P e, x ∈ DataW.weightsAll P e l
  | [], h, _, _ => by cases h
  | a :: l, h, x, hx => by
    simp only [DataW.weightsAll, List.mem_append]
    rcases List.mem_cons.1 h with rfl | h
    · exact .inl hx
    · exact .inr (weightsAll_mem h x hx)
theorem weightsEach_mem {H : Type} {P : Program} : ∀ {ts : List TypeId} {l : List (DataW H)} {i : Nat} {t : TypeId} {d : DataW H}, ts[i]? = some t → l[i]? = some d → ∀ x ∈ d.weights P t, x ∈ DataW.weightsEach P ts l
  | [], _, _, _, _, h, _, _, _ => by simp at h
  | _ :: _, [], _, _, _, _, h, _, _ => by simp at h
  | t :: ts, d :: l, 0, _, _, h1, h2, x, hx => by
    simp only [List.getElem?_cons_zero, Option.some.injEq] at h1 h2
    subst h1 h2
    simp only [DataW.weightsEach, List.mem_append]
    exact .inl hx
  | t :: ts, d :: l, i + 1, _, _, h1, h2, x, hx => by
    simp only [DataW.weightsEach, List.mem_append]
    exact .inr (weightsEach_mem (i := i) (by simpa using h1) (by simpa using h2) x hx)

theorem flat_get {C : Nat → List Value} {sz : Nat} : ∀ {n : Nat}, (∀ i, i < n → (C i).length = sz) → ((List.range n).flatMap C).length = n * sz ∧ ∀ i, i < n → ((((List.range n).flatMap C).drop (i * sz)).take sz) = C i
  | 0, _ => ⟨by simp, fun i h => by omega⟩
  | n + 1, h => by
    obtain ⟨h1, h2⟩ := flat_get (n := n) fun i hi => h i (by omega)
    have e : (List.range (n + 1)).flatMap C = (List.range n).flatMap C ++ C n := by rw [List.range_succ, List.flatMap_append]; simp
    rw [e]
    refine ⟨by rw [List.length_append, h1, h n (by omega), Nat.add_mul, Nat.one_mul], fun i hi => ?_⟩
    by_cases hin : i = n
    · subst hin
      rw [List.drop_left' h1, List.take_of_length_le (by rw [h i (by omega)]; exact Nat.le_refl _)]
    · have hle : i * sz + sz ≤ n * sz := by
        rw [← Nat.succ_mul]
        exact Nat.mul_le_mul_right _ (by omega)
      rw [List.drop_append_of_le_length (by omega), List.take_append_of_le_length (by rw [List.length_drop]; omega)]
      exact h2 i (by omega)

theorem open_rep {H : Type} {enc : TypeId × Value → H} {P : Program} {W : World} : ∀ (fuel : Nat) (t : TypeId) (cs : List Value) (y : DataW H × List MemPlace), DataW.trod enc P W 0 (fun _ => true) true fuel t cs = some y →
    (y.1.weights P t).all (· ≤ reachBytes) = true → Rep P W fuel t cs
  | 0, t, cs, y, h, _ => by simp [DataW.trod] at h
  | fuel + 1, t, cs, y, h, hw => by
    have hrb : reachBytes = 140737488351232 := rfl
    cases hu : P.underlying t with
    | none => simp only [Rep, hu]
    | some d =>
      cases d with
      | bool =>
        simp only [Rep, hu]
        obtain ⟨b, h1, _⟩ := DataW.trod_bool hu h
        exact ⟨b, h1⟩
      | int k =>
        simp only [Rep, hu]
        obtain ⟨n, h1, _, hwf⟩ := DataW.trod_int hu h
        refine ⟨n, h1, ?_⟩
        have hwf' : k.min ≤ n ∧ n ≤ k.max := by simpa [Lit.wf] using hwf
        cases k <;> simp only [IntKind.min, IntKind.max, IntKind.signed, IntKind.bits, inK] at hwf' ⊢ <;> simp at hwf' <;> omega
      | string =>
        simp only [Rep, hu]
        obtain ⟨s, h1, h2, h3⟩ := DataW.trod_string hu h
        refine ⟨s.data.toList, h1, ?_⟩
        rw [h2] at hw
        simp [DataW.weights, hrb] at hw
        simpa using hw
      | slice e =>
        simp only [Rep, hu]
        intro hc hb
        rcases DataW.trod_slice hu h with ⟨hcs, _⟩ | ⟨a, len, m, elems, rest, n, hn, hcs, rfl, _, hl, hm, hel, hcell, _, _⟩
        · exact ⟨_, 0, [], hcs, by omega, Rd.nil _ _ _, fun i hi => by omega⟩
        · obtain rfl : fuel = n := by omega
          simp only [DataW.weights, hu, List.all_cons, Bool.and_eq_true, decide_eq_true_eq, List.length_map, List.all_append] at hw
          have hby : len * P.bytesOf e ≤ 140737488351232 := by
            have h1 := hw.1
            have h3 : elems.length * P.bytesOf e ≤ (elems.length + rest.length) * P.bytesOf e := Nat.mul_le_mul_right _ (by omega)
            rw [hel] at h3
            rw [hel] at h1
            omega
          have hsz : len ≤ 140737488351232 := by
            have h3 : len * 1 ≤ len * P.bytesOf e := Nat.mul_le_mul_left _ hb
            omega
          have each : ∀ i, i < len → ∃ c : List Value, W.cells? 0 (a.add (i * P.cellsOf e)) (P.cellsOf e) = some c ∧ Rep P W fuel e c := fun i hi => by
            have h1 := hcell i hi
            rw [List.getElem?_eq_getElem (by omega), Option.bind_eq_some_iff] at h1
            obtain ⟨c, h1, h2⟩ := h1
            exact ⟨c, h1, open_rep fuel e c _ h2 (List.all_eq_true.2 fun x hx => List.all_eq_true.1 hw.2.1 x (weightsAll_mem (List.mem_map.2 ⟨_, List.getElem_mem (by omega), rfl⟩) x hx))⟩
          obtain ⟨C, hC⟩ := choose_lt each
          have hCl : ∀ i, i < len → (C i).length = P.cellsOf e := fun i hi => (World.cells?_some (hC i hi).1).2.1
          obtain ⟨f1, f2⟩ := flat_get hCl
          refine ⟨_, len, (List.range len).flatMap C, hcs, hby, ?_, fun i hi => by rw [f2 i hi]; exact (hC i hi).2⟩
          refine ⟨some a, m, rfl, hl, by omega, f1, fun h0 => ?_⟩
          have hcl : ∀ i j, i < len → j < P.cellsOf e → W.cell? (a.add (i * P.cellsOf e + j)) = (C i)[j]? := fun i j hi hj => by
            rw [← add_add]
            exact (World.cells?_some (hC i hi).1).2.2 j hj
          have hs : a.spot = none := by
            have h1 := hcl 0 0 (by omega) hc
            rw [List.getElem?_eq_getElem (by rw [hCl 0 (by omega)]; exact hc)] at h1
            simp only [Nat.zero_mul, Nat.zero_add, Addr.add, if_true] at h1
            exact spot_none h1
          obtain ⟨b, off, sp⟩ := a
          simp only at hs
          subst hs
          have hlt : b < W.heap.size := by
            have h1 := hcl 0 0 (by omega) hc
            rw [List.getElem?_eq_getElem (by rw [hCl 0 (by omega)]; exact hc), Addr.add_lit] at h1
            exact cell_lt h1
          refine ⟨b, off, rfl, hlt, hlt, fun j u hj => ?_⟩
          have hj2 : j < len * P.cellsOf e := by
            have := (List.getElem?_eq_some_iff.1 hj).1
            rw [f1] at this
            exact this
          have hdv : j / P.cellsOf e < len := Nat.div_lt_of_lt_mul (by rw [Nat.mul_comm]; exact hj2)
          have hmd : j % P.cellsOf e < P.cellsOf e := Nat.mod_lt _ hc
          have h1 := hcl (j / P.cellsOf e) (j % P.cellsOf e) hdv hmd
          have ej : j / P.cellsOf e * P.cellsOf e + j % P.cellsOf e = j := by rw [Nat.mul_comm]; exact Nat.div_add_mod j _
          rw [ej, Addr.add_lit] at h1
          rw [h1, ← f2 _ hdv, List.getElem?_take, if_pos hmd, List.getElem?_drop, ej]
          exact hj
      | struct fs =>
        simp only [Rep, hu]
        obtain ⟨xs, n, hn, rfl, hlen, hxl, hf⟩ := DataW.trod_struct hu h
        obtain rfl : fuel = n := by omega
        refine ⟨hlen, fun i q hq => ?_⟩
        have h1 := hf i q hq
        have hi : i < fs.size := (Array.getElem?_eq_some_iff.1 hq).1
        rw [List.getElem?_eq_getElem (by omega)] at h1
        refine open_rep fuel q.type _ _ h1 (List.all_eq_true.2 fun x hx => List.all_eq_true.1 hw x ?_)
        simp only [DataW.weights, hu]
        refine weightsEach_mem (i := i) ?_ ?_ x hx
        · simp [hq]
        · rw [List.getElem?_map, List.getElem?_eq_getElem (by omega)]
          rfl
      | _ => simp only [Rep, hu]

theorem list_of {α : Type} {dec : α → List Value} {Q : α → Prop} {sz : Nat} : ∀ (n : Nat) (xs : List Value), xs.length = n * sz → (∀ i, i < n → ∃ a, (xs.drop (i * sz)).take sz = dec a ∧ Q a) → ∃ l : List α, l.length = n ∧ xs = l.flatMap dec ∧ ∀ a ∈ l, Q a
  | 0, xs, hl, _ => ⟨[], rfl, List.eq_nil_of_length_eq_zero (by simpa using hl), fun a h => by cases h⟩
  | n + 1, xs, hl, h => by
    obtain ⟨a, ha, hq⟩ := h 0 (by omega)
    rw [Nat.zero_mul, List.drop_zero] at ha
    obtain ⟨l, h1, h2, h3⟩ := list_of (dec := dec) (Q := Q) (sz := sz) n (xs.drop sz) (by rw [List.length_drop, hl, Nat.add_mul, Nat.one_mul, Nat.add_sub_cancel]) (fun i hi => by
      obtain ⟨a, h1, h2⟩ := h (i + 1) (by omega)
      refine ⟨a, ?_, h2⟩
      rw [List.drop_drop, ← h1, Nat.add_mul, Nat.one_mul, Nat.add_comm])
    refine ⟨a :: l, by simp [h1], ?_, fun b hb => ?_⟩
    · rw [List.flatMap_cons, ← h2, ← ha, List.take_append_drop]
    · rcases List.mem_cons.1 hb with rfl | hb
      · exact hq
      · exact h3 b hb

/-- a slice, its elements decoded -/
theorem Rep.list {α : Type} {P : Program} {W : World} {f : Nat} {t e : TypeId} {cs : List Value} (dec : α → List Value) (Q : Nat → α → Prop) (h : Rep P W f t cs) (ht : P.underlying t = some (.slice e)) (hc : 0 < P.cellsOf e) (hb : 0 < P.bytesOf e)
    (hel : ∀ g cs, g < f → Rep P W g e cs → ∃ a, cs = dec a ∧ Q g a) : ∃ (v : Value) (l : List α) (g : Nat), g < f ∧ cs = [v] ∧ l.length * P.bytesOf e ≤ 140737488351232 ∧ Rd W (fun k => k < W.heap.size) v l.length (P.cellsOf e) (l.flatMap dec) ∧ ∀ a ∈ l, Q g a := by
  obtain ⟨g, v, n, xs, rfl, hcs, hby, hr, hR⟩ := h.slice ht hc hb
  obtain ⟨l, h1, h2, h3⟩ := list_of (dec := dec) (Q := Q g) n xs hr.len (fun i hi => hel g _ (Nat.lt_succ_self g) (hR i hi))
  subst h1 h2
  exact ⟨v, l, g, Nat.lt_succ_self g, hcs, hby, hr, h3⟩

theorem flatMap_single {α β : Type} (f : α → β) (l : List α) : (l.flatMap fun a => [f a]) = l.map f := by
  induction l with
  | nil => rfl
  | cons a l ih => rw [List.flatMap_cons, ih]; rfl

theorem Rep.bytes {P : Program} {W : World} {f : Nat} {t e : TypeId} {cs : List Value} (h : Rep P W f t cs) (ht : P.underlying t = some (.slice e)) (he : P.underlying e = some (.int .u8)) (hc : P.cellsOf e = 1) (hb : P.bytesOf e = 1) :
    ∃ (v : Value) (l : List UInt8), cs = [v] ∧ l.length ≤ 140737488351232 ∧ Rd W (fun k => k < W.heap.size) v l.length 1 (l.map U8) := by
  obtain ⟨v, l, g, _, h1, h2, h3, _⟩ := h.list (fun c : UInt8 => [U8 c]) (fun _ _ => True) ht (by omega) (by omega) (fun g cs _ hr => by
    obtain ⟨n, h1, h2⟩ := hr.int he
    simp only [inK] at h2
    refine ⟨UInt8.ofNat n.toNat, ?_, trivial⟩
    rw [h1]
    simp only [U8, UInt8.toNat_ofNat']
    congr 2
    omega)
  rw [hc, flatMap_single] at h3
  exact ⟨v, l, h1, by rw [hb] at h2; omega, h3⟩
theorem Rep.ints {P : Program} {W : World} {f : Nat} {t e : TypeId} {k : IntKind} {cs : List Value} (h : Rep P W f t cs) (ht : P.underlying t = some (.slice e)) (he : P.underlying e = some (.int k)) (hc : P.cellsOf e = 1) (hb : 0 < P.bytesOf e) :
    ∃ (v : Value) (l : List Int), cs = [v] ∧ l.length * P.bytesOf e ≤ 140737488351232 ∧ Rd W (fun k => k < W.heap.size) v l.length 1 (l.map fun n => .int k n) ∧ ∀ n ∈ l, inK k n := by
  obtain ⟨v, l, g, _, h1, h2, h3, h4⟩ := h.list (fun n : Int => [.int k n]) (fun _ n => inK k n) ht (by omega) hb (fun g cs _ hr => hr.int he)
  rw [hc, flatMap_single] at h3
  exact ⟨v, l, h1, h2, h3, h4⟩

theorem Rep.field {P : Program} {W : World} {g : Nat} {fs : Array Field} {cs : List Value} (hf : ∀ (i : Nat) (q : Field), fs[i]? = some q → Rep P W g q.type ((cs.drop q.offset).take (P.cellsOf q.type))) (i : Nat) {q : Field} {t o n : Nat} (hq : fs[i]? = some q) (ht : q.type = t) (ho : q.offset = o) (hn : P.cellsOf t = n) : Rep P W g t ((cs.drop o).take n) := by
  subst ht ho hn
  exact hf i q hq

theorem len1 {cs : List Value} (h : cs.length = 1) : ∃ c0, cs = [c0] := by
  match cs, h with
  | [c0], _ => exact ⟨_, rfl⟩
theorem len2 {cs : List Value} (h : cs.length = 2) : ∃ c0 c1, cs = [c0, c1] := by
  match cs, h with
  | [c0, c1], _ => exact ⟨_, _, rfl⟩
theorem len3 {cs : List Value} (h : cs.length = 3) : ∃ c0 c1 c2, cs = [c0, c1, c2] := by
  match cs, h with
  | [c0, c1, c2], _ => exact ⟨_, _, _, rfl⟩
theorem len4 {cs : List Value} (h : cs.length = 4) : ∃ c0 c1 c2 c3, cs = [c0, c1, c2, c3] := by
  match cs, h with
  | [c0, c1, c2, c3], _ => exact ⟨_, _, _, _, rfl⟩
theorem len5 {cs : List Value} (h : cs.length = 5) : ∃ c0 c1 c2 c3 c4, cs = [c0, c1, c2, c3, c4] := by
  match cs, h with
  | [c0, c1, c2, c3, c4], _ => exact ⟨_, _, _, _, _, rfl⟩
theorem len6 {cs : List Value} (h : cs.length = 6) : ∃ c0 c1 c2 c3 c4 c5, cs = [c0, c1, c2, c3, c4, c5] := by
  match cs, h with
  | [c0, c1, c2, c3, c4, c5], _ => exact ⟨_, _, _, _, _, _, rfl⟩
theorem len7 {cs : List Value} (h : cs.length = 7) : ∃ c0 c1 c2 c3 c4 c5 c6, cs = [c0, c1, c2, c3, c4, c5, c6] := by
  match cs, h with
  | [c0, c1, c2, c3, c4, c5, c6], _ => exact ⟨_, _, _, _, _, _, _, rfl⟩
theorem len8 {cs : List Value} (h : cs.length = 8) : ∃ c0 c1 c2 c3 c4 c5 c6 c7, cs = [c0, c1, c2, c3, c4, c5, c6, c7] := by
  match cs, h with
  | [c0, c1, c2, c3, c4, c5, c6, c7], _ => exact ⟨_, _, _, _, _, _, _, _, rfl⟩

/-- a slice that is handed in -/
theorem open_slice_rep {H : Type} {enc : TypeId × Value → H} {P : Program} {W : World} {base : Nat} {v : Value} {d : DataW H} {ps : List MemPlace} {t e : TypeId} (ht : P.underlying t = some (.slice e))
    (hv : Value.okWide P W .any base t v) (h : DataW.Trod enc P W 0 (fun _ => true) true t v d ps) (hw : (d.weights P t).all (· ≤ reachBytes) = true) : ∃ f, Rep P W f t [v] := by
  obtain ⟨fuel, h⟩ := h
  have h1 := open_rep fuel t _ _ h hw
  rcases okWide_slice ht hv with rfl | ⟨b, off, len, cap, rfl, hle⟩
  · exact ⟨fuel, h1⟩
  · exact ⟨fuel, h1⟩
theorem rep_bytes {P : Program} {W : World} {t e : TypeId} {v : Value} (h : ∃ f, Rep P W f t [v]) (ht : P.underlying t = some (.slice e)) (he : P.underlying e = some (.int .u8)) (hc : P.cellsOf e = 1) (hb : P.bytesOf e = 1) :
    ∃ l : List UInt8, l.length ≤ 140737488351232 ∧ Rd W (fun k => k < W.heap.size) v l.length 1 (l.map U8) := by
  obtain ⟨f, h⟩ := h
  obtain ⟨v', l, h1, h2, h3⟩ := h.bytes ht he hc hb
  simp only [List.cons.injEq, and_true] at h1
  subst h1
  exact ⟨l, h2, h3⟩
theorem rep_ints {P : Program} {W : World} {t e : TypeId} {k : IntKind} {v : Value} (h : ∃ f, Rep P W f t [v]) (ht : P.underlying t = some (.slice e)) (he : P.underlying e = some (.int k)) (hc : P.cellsOf e = 1) (hb : 0 < P.bytesOf e) :
    ∃ l : List Int, l.length * P.bytesOf e ≤ 140737488351232 ∧ Rd W (fun k => k < W.heap.size) v l.length 1 (l.map fun n => .int k n) ∧ ∀ n ∈ l, inK k n := by
  obtain ⟨f, h⟩ := h
  obtain ⟨v', l, h1, h2, h3, h4⟩ := h.ints ht he hc hb
  simp only [List.cons.injEq, and_true] at h1
  subst h1
  exact ⟨l, h2, h3, h4⟩
end Go.Proofs.YtipabhbnljadfaaDoor

/-
  Functions that are handed in, opened.
-/
namespace Go.Proofs.YtipabhbnljadfaaDoor
open Go Go.ChangeShapes Go.WideShapes Go.ChangeAt Go.RowKit Go.Deep
set_option linter.unusedSimpArgs false
set_option linter.unusedVariables false

theorem cellsIns : Tryd.prog.cellsOf 44 = 4 := by kernel_rfl
theorem bytesIns : 0 < Tryd.prog.bytesOf 44 := by decide +kernel
theorem cellsFun : Tryd.prog.cellsOf 42 = 2 := by kernel_rfl
theorem bytesFun : 0 < Tryd.prog.bytesOf 42 := by decide +kernel
theorem rep_ins {W : World} {f : Nat} {cs : List Value} (h : Rep Tryd.prog W f 44 cs) : ∃ i : In, cs = insC i ∧ i.ok := by
  obtain ⟨g, rfl, hl, hf⟩ := h.struct Tryd.underlying44
  obtain ⟨c0, c1, c2, c3, rfl⟩ := len4 (hl.trans cellsIns)
  obtain ⟨n0, e0, k0⟩ := Rep.int (Rep.field hf 0 (n := 1) rfl rfl rfl (by kernel_rfl)) Tryd.underlying5
  obtain ⟨n1, e1, k1⟩ := Rep.int (Rep.field hf 1 (n := 1) rfl rfl rfl (by kernel_rfl)) Tryd.underlying2
  obtain ⟨n2, e2, k2⟩ := Rep.int (Rep.field hf 2 (n := 1) rfl rfl rfl (by kernel_rfl)) Tryd.underlying3
  obtain ⟨s3, e3, k3⟩ := Rep.str (Rep.field hf 3 (n := 1) rfl rfl rfl (by kernel_rfl)) Tryd.underlying9
  have f0 : c0 = .int .u8 n0 := by injection e0
  have f1 : c1 = .int .i64 n1 := by injection e1
  have f2 : c2 = .int .i64 n2 := by injection e2
  have f3 : c3 = .string ⟨s3.toArray⟩ := by injection e3
  subst f0 f1 f2 f3
  simp only [inK] at k0
  obtain ⟨m0, rfl⟩ : ∃ m : Nat, n0 = m := ⟨n0.toNat, by omega⟩
  exact ⟨⟨m0, n1, n2, s3⟩, rfl, ⟨by show m0 < 256; omega, k1, k2, k3⟩⟩
def FnV.OK (W : World) (x : FnV) : Prop := Rd W (fun k => k < W.heap.size) x.v x.f.code.length 4 (x.f.code.flatMap insC) ∧ inK .i64 x.f.caps ∧ ∀ i ∈ x.f.code, i.ok
theorem rep_fun {W : World} {f : Nat} {cs : List Value} (h : Rep Tryd.prog W f 42 cs) : ∃ x : FnV, cs = x.cells ∧ x.OK W := by
  obtain ⟨g, rfl, hl, hf⟩ := h.struct Tryd.underlying42
  obtain ⟨c0, c1, rfl⟩ := len2 (hl.trans cellsFun)
  obtain ⟨n0, e0, k0⟩ := Rep.int (Rep.field hf 0 (n := 1) rfl rfl rfl (by kernel_rfl)) Tryd.underlying3
  have hs : Rep Tryd.prog W g 40 [c1] := Rep.field hf 1 (n := 1) rfl rfl rfl (by kernel_rfl)
  obtain ⟨v, l, g2, _, h1, _, h3, h4⟩ := hs.list insC (fun _ i => i.ok) Tryd.underlying40 (by rw [cellsIns]; decide) bytesIns (fun g cs _ hr => rep_ins hr)
  have f0 : c0 = .int .i64 n0 := by injection e0
  have f1 : c1 = v := by injection h1
  subst f0 f1
  rw [cellsIns] at h3
  exact ⟨⟨⟨n0, l⟩, c1⟩, rfl, h3, k0, h4⟩
theorem rep_funs {W : World} {v : Value} (h : ∃ f, Rep Tryd.prog W f 22 [v]) : ∃ l : List Fn, IsFs W (fun k => k < W.heap.size) v l ∧ OKs l := by
  obtain ⟨f, h⟩ := h
  obtain ⟨v', V, g, _, h1, _, h3, h4⟩ := h.list FnV.cells (fun _ x => x.OK W) Tryd.underlying22 (by rw [cellsFun]; decide) bytesFun (fun g cs _ hr => rep_fun hr)
  simp only [List.cons.injEq, and_true] at h1
  subst h1
  rw [cellsFun] at h3
  refine ⟨V.map FnV.f, ⟨V, h3, fun x hx => (h4 x hx).1, rfl⟩, fun f hf => ?_⟩
  obtain ⟨x, hx, rfl⟩ := List.mem_map.1 hf
  exact (h4 x hx).2
end Go.Proofs.YtipabhbnljadfaaDoor

/-
  A round of a check. No program in sight.
-/
namespace Go.Proofs.YtipabhbnljadfaaDoor
open Go
set_option linter.unusedSimpArgs false
set_option linter.unusedVariables false

section
variable {f : Fn} {all : List Fn} {globs : Int}
theorem inv_pop {D R : List Int} {T : List Nat} {a : Nat} (h : InvD f all globs (fun _ => False) D R (T ++ [a])) : InvD f all globs (fun k => k = a) D R T := by
  refine ⟨h.dl, h.rl, h.d0, h.r0, h.bd, fun k hk => ?_, fun k hk => h.td k (List.mem_append.2 (.inl hk)), h.lb⟩
  rcases h.pr k hk with h1 | h1 | h1
  · rcases List.mem_append.1 h1 with h1 | h1
    · exact .inl h1
    · exact .inr (.inl (List.mem_singleton.1 h1))
  · exact h1.elim
  · exact .inr (.inr h1)
theorem inv_done {D R : List Int} {T : List Nat} {a : Nat} (h : InvD f all globs (fun k => k = a) D R T) (hp : ProcD f all globs D R a) : InvD f all globs (fun _ => False) D R T := by
  refine ⟨h.dl, h.rl, h.d0, h.r0, h.bd, fun k hk => ?_, h.td, h.lb⟩
  rcases h.pr k hk with h1 | h1 | h1
  · exact .inl h1
  · subst h1; exact .inr (.inr hp)
  · exact .inr (.inr h1)
theorem fine_bad {X : Nat → Prop} {D R : List Int} {T : List Nat} {a : Nat} {i : In} (h : InvD f all globs X D R T) (ha : D.getD a 0 ≠ 0) (hi : f.code[a]? = some i) (hf : fineB f i (D.getD a 0) (R.getD a 0) all globs = false) : ¬ GoodF f all globs := by
  rintro ⟨L, hL⟩
  obtain ⟨i', hi', hf', _⟩ := hL.2 a _ _ (h.lb L hL a ha)
  rw [hi] at hi'
  have := Option.some.inj hi'
  subst this
  rw [hf] at hf'
  cases hf'
theorem proc_of {D R : List Int} {a : Nat} {i : In} {d t : Int} (hi : f.code[a]? = some i) (hd : D.getD a 0 = d) (ht : R.getD a 0 = t) (hf : fineB f i d t all globs = true)
    (h1 : nextB i = true → a + 1 < f.code.length ∧ D.getD (a + 1) 0 = d - nnI i + lvT i.op ∧ R.getD (a + 1) 0 = t + dtI i)
    (h2 : i.op = 12 ∨ i.op = 13 → (a : Int) < i.n ∧ i.n < (f.code.length : Int) ∧ D.getD i.n.toNat 0 = d - nnI i + lvT i.op ∧ R.getD i.n.toNat 0 = t + dtI i)
    (h3 : i.op = 24 → (a : Int) < i.n ∧ i.n < (f.code.length : Int) ∧ D.getD i.n.toNat 0 = d + 1 ∧ R.getD i.n.toNat 0 = t) : ProcD f all globs D R a := by
  refine ⟨i, hi, by rw [hd, ht]; exact hf, fun x hx => ?_⟩
  rw [hd, ht] at hx
  unfold succsI at hx
  rcases List.mem_append.1 hx with hx | hx
  · split at hx
    · rename_i hn
      simp only [List.mem_singleton] at hx
      subst hx
      obtain ⟨a1, a2, a3⟩ := h1 hn
      simp only
      rw [show ((a : Int) + 1).toNat = a + 1 by omega]
      exact ⟨by omega, by omega, a2, a3⟩
    · cases hx
  · split at hx
    · rename_i hn
      simp only [List.mem_singleton] at hx
      subst hx
      exact h2 hn
    · split at hx
      · rename_i hn
        simp only [List.mem_singleton] at hx
        subst hx
        exact h3 hn
      · cases hx
theorem good_ne (h : GoodF f all globs) : f.code ≠ [] := by
  rintro e
  obtain ⟨L, hL⟩ := h
  obtain ⟨i, hi, _⟩ := hL.2 0 1 0 hL.1
  rw [e] at hi
  simp at hi

/-- a stack that rises -/
def Stk (T : List Nat) : Prop := ∀ j v : Nat, T[j]? = some v → j ≤ v
theorem Stk.pop {T : List Nat} {a : Nat} (h : Stk (T ++ [a])) : Stk T ∧ T.length ≤ a := by
  refine ⟨fun j v hj => h j v ?_, h T.length a (by simp)⟩
  rw [List.getElem?_append_left (List.getElem?_eq_some_iff.1 hj).1]
  exact hj
theorem Stk.reach {n at_ : Nat} {to d t : Int} {D R D' R' : List Int} {T T' : List Nat} {b : Bool} (h : Stk T) (hl : T.length ≤ at_ + 1) (he : reachP n at_ to d t D R T = (b, D', R', T')) : Stk T' ∧ T'.length ≤ T.length + 1 := by
  unfold reachP at he
  split at he
  · simp only [Prod.mk.injEq] at he
    obtain ⟨rfl, rfl, rfl, rfl⟩ := he
    exact ⟨h, by omega⟩
  · split at he
    · simp only [Prod.mk.injEq] at he
      obtain ⟨rfl, rfl, rfl, rfl⟩ := he
      refine ⟨fun j v hj => ?_, by simp⟩
      rcases Nat.lt_trichotomy j T.length with h1 | h1 | h1
      · rw [List.getElem?_append_left h1] at hj
        exact h j v hj
      · subst h1
        simp at hj
        omega
      · rw [List.getElem?_eq_none (by simp; omega)] at hj
        cases hj
    · simp only [Prod.mk.injEq] at he
      obtain ⟨rfl, rfl, rfl, rfl⟩ := he
      exact ⟨h, by omega⟩
theorem Stk.len {T : List Nat} {n : Nat} (h : Stk T) (hn : ∀ k ∈ T, k < n) : T.length ≤ n := by
  rcases List.eq_nil_or_concat T with rfl | ⟨T0, a, rfl⟩
  · simp
  · have h1 := h T0.length a (by simp)
    have h2 := hn a (by simp)
    simp
    omega
end
section
variable {w : World} {F : Nat → Prop} {T : TypeId} {sz n m c : Nat} {A : Option Addr} {xs : List Value}
theorem Own.shrink (h : Own w F T sz (.slice A n c) n xs) (hm : m ≤ n) : Own w F T sz (.slice A m c) m (xs.take (m * sz)) := by
  by_cases h0 : n = 0
  · subst h0
    obtain rfl : m = 0 := by omega
    have := h.len
    rw [List.take_of_length_le (by omega)]
    exact h
  · obtain ⟨g, cap, cur, e, hg, hF, h1, h2, h3, h4⟩ := h.open (by omega)
    simp only [Value.slice.injEq, true_and] at e
    obtain ⟨rfl, rfl⟩ := e
    have h5 := Own.shut (sz := sz) (n := m) hg hF (by omega) h2 h3
    rw [← h4, List.take_take]
    have : min (m * sz) (n * sz) = m * sz := Nat.min_eq_left (Nat.mul_le_mul_right _ hm)
    rw [this]
    exact h5
end
end Go.Proofs.YtipabhbnljadfaaDoor

/-
  code: where one comes to; can a function run?
-/
namespace Go.Proofs.YtipabhbnljadfaaDoor
open Go
set_option linter.unusedSimpArgs false
set_option linter.unusedVariables false

/-- the three rows of a check -/
def CkS (w : World) (M : Nat → Prop) (bD bR bT : Nat) (D R : List Int) (T : List Nat) : Prop :=
  ∃ (gD gR : Nat) (AT : Option Addr) (cT : Nat) (G : Nat → Prop), Blk w bD #[.slice (some ⟨gD, 0, none⟩) D.length D.length] 69 ∧ Blk w gD (D.map I64).toArray 3 ∧
    Blk w bR #[.slice (some ⟨gR, 0, none⟩) R.length R.length] 69 ∧ Blk w gR (R.map I64).toArray 3 ∧ Blk w bT #[.slice AT T.length cT] 69 ∧ Own w G 3 1 (.slice AT T.length cT) T.length (T.map fun (k : Nat) => I64 (k : Int)) ∧
    (gD ≠ gR ∧ bD ≠ bR ∧ bD ≠ bT ∧ bR ≠ bT ∧ gD ≠ bD ∧ gD ≠ bR ∧ gD ≠ bT ∧ gR ≠ bD ∧ gR ≠ bR ∧ gR ≠ bT) ∧ (M bD ∧ M bR ∧ M bT ∧ M gD ∧ M gR) ∧ ∀ k, G k → M k ∧ k ≠ bD ∧ k ≠ bR ∧ k ≠ bT ∧ k ≠ gD ∧ k ≠ gR
theorem CkS.upd {w w' : World} {M S : Nat → Prop} {bD bR bT : Nat} {D R : List Int} {T : List Nat} (h : CkS w M bD bR bT D R T) (hu : Upd S w w') (hn : ∀ k, M k → k < w.heap.size → ¬ S k) : CkS w' M bD bR bT D R T := by
  obtain ⟨gD, gR, AT, cT, G, h1, h2, h3, h4, h5, h6, h7, h8, h9⟩ := h
  exact ⟨gD, gR, AT, cT, G, h1.upd hu (hn _ h8.1 h1.lt), h2.upd hu (hn _ h8.2.2.2.1 h2.lt), h3.upd hu (hn _ h8.2.1 h3.lt), h4.upd hu (hn _ h8.2.2.2.2 h4.lt), h5.upd hu (hn _ h8.2.2.1 h5.lt), h6.upd hu (fun k hk hl => hn k (h9 k hk).1 hl), h7, h8, h9⟩
theorem CkS.mono {w : World} {M M' : Nat → Prop} {bD bR bT : Nat} {D R : List Int} {T : List Nat} (h : CkS w M bD bR bT D R T) (hM : ∀ k, M k → M' k) : CkS w M' bD bR bT D R T := by
  obtain ⟨gD, gR, AT, cT, G, h1, h2, h3, h4, h5, h6, h7, h8, h9⟩ := h
  exact ⟨gD, gR, AT, cT, G, h1, h2, h3, h4, h5, h6, h7, ⟨hM _ h8.1, hM _ h8.2.1, hM _ h8.2.2.1, hM _ h8.2.2.2.1, hM _ h8.2.2.2.2⟩, fun k hk => ⟨hM k (h9 k hk).1, (h9 k hk).2⟩⟩
theorem bltOf {a b : Nat} (h : a < b) : Nat.blt a b = true := Nat.blt_eq.mpr h
theorem getI {l : List Int} {k : Nat} (h : k < l.length) : (l.map I64)[k]? = some (I64 (l.getD k 0)) := by
  rw [List.getElem?_map, List.getElem?_eq_getElem h, List.getD_eq_getElem?_getD, List.getElem?_eq_getElem h]
  rfl
theorem setI {l : List Int} {k : Nat} {v : Int} : (l.map I64).toArray.setIfInBounds k (I64 v) = ((l.set k v).map I64).toArray := by
  rw [List.setIfInBounds_toArray, List.map_set]

set_option maxHeartbeats 800000 in
theorem reach_ok {w : World} {M : Nat → Prop} {b10 bF bD bR bT n c at_ : Nat} {A : Option Addr} {caps : Int} {D R D' R' : List Int} {T T' : List Nat} {to d t : Int} {b : Bool} (hS : CkS w M bD bR bT D R T) (hat : Blk w b10 #[.int .i64 (at_ : Int)] 3) (hF : Blk w bF #[.int .i64 caps, .slice A n c] 42)
    (h10 : ¬ M b10) (hbF : ¬ M bF) (hD : D.length = n) (hR : R.length = n) (hT : T.length ≤ 100000) (he : reachP n at_ to d t D R T = (b, D', R', T')) :
    Ret Tryd.prog 37 #[.int .i64 to, .int .i64 d, .int .i64 t, .pointer (some ⟨b10, 0, none⟩), .pointer (some ⟨bF, 0, none⟩), .pointer (some ⟨bD, 0, none⟩), .pointer (some ⟨bR, 0, none⟩), .pointer (some ⟨bT, 0, none⟩)] w fun u w' => u = .bool b ∧ CkS w' (Grow M w w') bD bR bT D' R' T' ∧ Upd M w w' := by
  have hS' := hS
  obtain ⟨gD, gR, AT, cT, G, h1, h2, h3, h4, h5, h6, h7, h8, h9⟩ := hS'
  obtain ⟨d1, d2, d3, d4, d5, d6, d7, d8, d9, d10⟩ := h7
  obtain ⟨m1, m2, m3, m4, m5⟩ := h8
  have l1 := h1.lt
  have l2 := h2.lt
  have l3 := h3.lt
  have l4 := h4.lt
  have l5 := h5.lt
  unfold reachP at he
  refine enterRet (vs := [_, _, _, _, _, _, _, _]) (N := 53) Tryd.func37 rfl rfl rfl ?_
  have hU := Upd.refl M w
  refine WC.keep [(0, _), (1, _), (2, _), (3, _), (4, _), (5, _), (6, _), (7, _)] ⟨rfl, rfl, rfl, rfl, rfl, rfl, rfl, rfl, trivial⟩ ?_
  refine WC.seq ?_
  refine WC.region ?_
  refine WL.val rfl rfl rfl rfl (r_assign rfl ev_c) ?_
  refine WL.nil ?_
  refine WX.keep [(0, _), (1, _), (2, _), (3, _), (4, _), (5, _), (6, _), (7, _)] ⟨rfl, rfl, rfl, rfl, rfl, rfl, rfl, rfl, trivial⟩ ?_
  refine WX.next ?_
  refine WC.seq ?_
  refine WC.seq ?_
  refine WC.region ?_
  refine WL.val rfl rfl rfl rfl (r_move rfl (ev_t rfl)) ?_
  refine WL.val rfl rfl rfl rfl (r_load rfl (ev_t rfl) flat_3 (Blk.cell hat rfl)) ?_
  refine WL.val rfl rfl rfl rfl (r_leq rfl (ev_t rfl) (ev_t rfl)) ?_
  refine WL.val rfl rfl rfl rfl (r_move rfl (ev_t rfl)) ?_
  refine WL.cases 15 rfl (fun hb1_3 => ?_) (fun hb1_3 => ?_)
  · try (exfalso; first | (simp at hb1_3; done) | (simp only [decide_eq_true_eq, decide_eq_false_iff_not, Bool.not_eq_true', Bool.not_eq_false', Bool.not_eq_true, Bool.not_eq_false] at hb1_3; omega) | omega)
    all_goals
     try simp only [decide_eq_true_eq, decide_eq_false_iff_not, Bool.not_eq_true', Bool.not_eq_false', Bool.not_eq_true, Bool.not_eq_false, Option.isNone_none, Option.isNone_some, Option.isSome_none, Option.isSome_some, ne_eq, Decidable.not_not] at hb1_3
     refine WL.skip rfl rfl rfl ?_
     refine WL.skip rfl rfl rfl ?_
     refine WL.skip rfl rfl rfl ?_
     refine WL.skip rfl rfl rfl ?_
     refine WL.skip rfl rfl rfl ?_
     refine WL.val rfl rfl rfl rfl (r_pickT rfl (ev_t rfl) ev_c) ?_
     refine WL.nil ?_
     refine WX.keep [(0, _), (1, _), (2, _), (5, _), (6, _), (7, _), (21, _)] ⟨rfl, rfl, rfl, rfl, rfl, rfl, rfl, trivial⟩ ?_
     refine WX.next ?_
     refine WC.cond_true rfl (ev_t rfl) ?_
     refine WC.seq ?_
     refine WC.region ?_
     refine WL.val rfl rfl rfl rfl (r_assign rfl ev_c) ?_
     refine WL.nil ?_
     refine WX.keep [(11, _)] ⟨rfl, trivial⟩ ?_
     refine WX.next ?_
     refine WC.ret ?_
     refine WX.thenRet ?_
     refine WX.retE1 rfl rfl ?_
     rw [if_pos (by omega)] at he
     simp only [Prod.mk.injEq] at he
     obtain ⟨rfl, rfl, rfl, rfl⟩ := he
     exact ⟨rfl, ⟨gD, gR, AT, cT, G, h1, h2, h3, h4, h5, h6, ⟨d1, d2, d3, d4, d5, d6, d7, d8, d9, d10⟩, ⟨.inl m1, .inl m2, .inl m3, .inl m4, .inl m5⟩, fun k hk => ⟨.inl (h9 k hk).1, (h9 k hk).2⟩⟩, hU⟩
  · try (exfalso; first | (simp at hb1_3; done) | (simp only [decide_eq_true_eq, decide_eq_false_iff_not, Bool.not_eq_true', Bool.not_eq_false', Bool.not_eq_true, Bool.not_eq_false] at hb1_3; omega) | omega)
    all_goals
     try simp only [decide_eq_true_eq, decide_eq_false_iff_not, Bool.not_eq_true', Bool.not_eq_false', Bool.not_eq_true, Bool.not_eq_false, Option.isNone_none, Option.isNone_some, Option.isSome_none, Option.isSome_some, ne_eq, Decidable.not_not] at hb1_3
     refine WL.val rfl rfl rfl rfl (r_move rfl (ev_t rfl)) ?_
     first | refine WL.val rfl rfl rfl rfl (r_field0 rfl (ev_t rfl) fld_42_1) ?_ | refine WL.val rfl rfl rfl rfl (r_fieldAt rfl (ev_t rfl) fld_42_1) ?_
     refine WL.val rfl rfl rfl rfl (r_load rfl (ev_t rfl) flat_40 (Blk.cell hF rfl)) ?_
     refine WL.val rfl rfl rfl rfl (r_lenSlice (ts := #[]) rfl (ev_t rfl) elem_40) ?_
     refine WL.val rfl rfl rfl rfl (r_geq rfl (ev_t rfl) (ev_t rfl)) ?_
     refine WL.val rfl rfl rfl rfl (r_pickF rfl (ev_t rfl) (ev_t rfl)) ?_
     refine WL.nil ?_
     refine WX.keep [(0, _), (1, _), (2, _), (5, _), (6, _), (7, _), (21, _)] ⟨rfl, rfl, rfl, rfl, rfl, rfl, rfl, trivial⟩ ?_
     refine WX.next ?_
     refine WC.cond rfl (ev_t rfl) (fun hc1 => ?_) (fun hc1 => ?_)
     · try (exfalso; first | (simp at hc1; done) | (simp only [decide_eq_true_eq, decide_eq_false_iff_not, Bool.not_eq_true', Bool.not_eq_false', Bool.not_eq_true, Bool.not_eq_false] at hc1; omega) | omega)
       all_goals
        try simp only [decide_eq_true_eq, decide_eq_false_iff_not, Bool.not_eq_true', Bool.not_eq_false', Bool.not_eq_true, Bool.not_eq_false, Option.isNone_none, Option.isNone_some, Option.isSome_none, Option.isSome_some, ne_eq, Decidable.not_not] at hc1
        refine WC.seq ?_
        refine WC.region ?_
        refine WL.val rfl rfl rfl rfl (r_assign rfl ev_c) ?_
        refine WL.nil ?_
        refine WX.keep [(11, _)] ⟨rfl, trivial⟩ ?_
        refine WX.next ?_
        refine WC.ret ?_
        refine WX.thenRet ?_
        refine WX.retE1 rfl rfl ?_
        rw [if_pos (by omega)] at he
        simp only [Prod.mk.injEq] at he
        obtain ⟨rfl, rfl, rfl, rfl⟩ := he
        exact ⟨rfl, ⟨gD, gR, AT, cT, G, h1, h2, h3, h4, h5, h6, ⟨d1, d2, d3, d4, d5, d6, d7, d8, d9, d10⟩, ⟨.inl m1, .inl m2, .inl m3, .inl m4, .inl m5⟩, fun k hk => ⟨.inl (h9 k hk).1, (h9 k hk).2⟩⟩, hU⟩
     · try (exfalso; first | (simp at hc1; done) | (simp only [decide_eq_true_eq, decide_eq_false_iff_not, Bool.not_eq_true', Bool.not_eq_false', Bool.not_eq_true, Bool.not_eq_false] at hc1; omega) | omega)
       all_goals
        try simp only [decide_eq_true_eq, decide_eq_false_iff_not, Bool.not_eq_true', Bool.not_eq_false', Bool.not_eq_true, Bool.not_eq_false, Option.isNone_none, Option.isNone_some, Option.isSome_none, Option.isSome_some, ne_eq, Decidable.not_not] at hc1
        rw [if_neg (by omega)] at he
        obtain ⟨m, rfl⟩ : ∃ m : Nat, to = m := ⟨to.toNat, by omega⟩
        simp only [Int.toNat_natCast] at he
        refine WC.skip ?_
        refine WX.next ?_
        -- cut 3: live [0, 1, 2, 5, 6]
        refine WC.cut (fun E w2 => Upd M w w2 ∧ CkS w2 (Grow M w w2) bD bR bT D' R' T' ∧ D'.length = n ∧ R'.length = n ∧ b = (decide (D'.getD m 0 = d) && decide (R'.getD m 0 = t)) ∧ E = [(0, .int .i64 (m : Int)), (1, .int .i64 d), (2, .int .i64 t), (5, .pointer (some ⟨bD, 0, none⟩)), (6, .pointer (some ⟨bR, 0, none⟩))]) ?_ ?_
        · refine WC.seq ?_
          refine WC.region ?_
          refine WL.val rfl rfl rfl rfl (r_load rfl (ev_t rfl) flat_69 (Blk.cell h1 rfl)) ?_
          refine WL.val rfl rfl rfl rfl (r_move rfl (ev_t rfl)) ?_
          refine WL.val rfl rfl rfl rfl (r_indexAddr rfl (ev_t rfl) (ev_t rfl) elem_69 size_3 (by omega) (by omega)) ?_
          refine WL.val rfl rfl rfl rfl (r_load rfl (ev_t rfl) flat_3 (Blk.cell h2 (by rw [show 0 + ((m : Nat) : Int).toNat * 1 = m by omega, List.getElem?_toArray]; exact getI (by omega)))) ?_
          refine WL.val rfl rfl rfl rfl (r_eql rfl (ev_t rfl) ev_c) ?_
          refine WL.nil ?_
          refine WX.keep [(0, _), (1, _), (2, _), (5, _), (6, _), (7, _), (26, _)] ⟨rfl, rfl, rfl, rfl, rfl, rfl, rfl, trivial⟩ ?_
          refine WX.next ?_
          refine WC.cond rfl (ev_t rfl) (fun hc3 => ?_) (fun hc3 => ?_)
          · try (exfalso; first | (simp at hc3; done) | (simp only [decide_eq_true_eq, decide_eq_false_iff_not, Bool.not_eq_true', Bool.not_eq_false', Bool.not_eq_true, Bool.not_eq_false] at hc3; omega) | omega)
            all_goals
             try simp only [decide_eq_true_eq, decide_eq_false_iff_not, Bool.not_eq_true', Bool.not_eq_false', Bool.not_eq_true, Bool.not_eq_false, Option.isNone_none, Option.isNone_some, Option.isSome_none, Option.isSome_some, ne_eq, Decidable.not_not] at hc3
             rw [if_pos (by omega)] at he
             simp only [Prod.mk.injEq] at he
             obtain ⟨rfl, rfl, rfl, rfl⟩ := he
             refine WC.seq ?_
             refine WC.draws' (fun u0_ u1_ => Upd (fun k => k = gD ∨ k = gR) u0_ u1_) (fun j => [0, 0, 0, 0, 0, 0, 0, 1, 0, 2].getD j 0) (.calm 1 (.calm 3 (.calm 4 (.calm 5 (.held 0 (.calm 6 (.held 2 (.one 7 (.calm 8 (.one 9 (.done))))))))))) mixed (by kernel_rfl) (by repeat (first | with_reducible exact Deaf.body | with_reducible apply Deaf.then | with_reducible apply Deaf.block)) ?_
             intro w1 hu1
             have hz1 := congrArg Array.size hu1.2.2.2
             replace hu1 := Upd.of_draw hu1
             have hs1 := hu1.size
             replace hU := hU.trans hu1 (by first | exact (fun _ _ h => h) | exact (fun _ _ h => h.elim) | (intro k hl hk; (try simp only [At, New, Grow, From, No] at hk ⊢); omega) | (intro k hl hk; first | exact (h9 k hk).1 | (simp only [At, No] at hk; subst hk; assumption)))
             replace h1 := h1.upd hu1 (by first | exact (fun h => h) | (simp only [At, No]; omega) | (exact fun h => (h9 _ h).2.1 rfl))
             replace h2 := h2.upd hu1 (by first | exact (fun h => h) | (simp only [At, No]; omega) | (exact fun h => (h9 _ h).2.2.2.2.1 rfl))
             replace h3 := h3.upd hu1 (by first | exact (fun h => h) | (simp only [At, No]; omega) | (exact fun h => (h9 _ h).2.2.1 rfl))
             replace h4 := h4.upd hu1 (by first | exact (fun h => h) | (simp only [At, No]; omega) | (exact fun h => (h9 _ h).2.2.2.2.2 rfl))
             replace h5 := h5.upd hu1 (by first | exact (fun h => h) | (simp only [At, No]; omega) | (exact fun h => (h9 _ h).2.2.2.1 rfl))
             replace h6 := h6.upd hu1 (by first | exact (fun _ _ _ h => h) | (intro k hk hl hS; have := h9 k hk; simp only [At, No] at hS; omega))
             replace hat := hat.upd hu1 (by first | exact (fun h => h) | (simp only [At, No]; intro h; subst h; contradiction) | (exact fun h => h10 (h9 _ h).1))
             replace hF := hF.upd hu1 (by first | exact (fun h => h) | (simp only [At, No]; intro h; subst h; contradiction) | (exact fun h => hbF (h9 _ h).1))
             have hS4 := Upd.refl (fun k => k = gD ∨ k = gR) w1
             refine WN.calm _ rfl rfl rfl rfl rfl (fun _ => r_move rfl (ev_t rfl)) ?_
             refine WN.calm _ rfl rfl rfl rfl rfl (fun _ => r_move rfl (ev_t rfl)) ?_
             refine WN.calm _ rfl rfl rfl rfl rfl (fun _ => r_move rfl (ev_t rfl)) ?_
             refine WN.calm _ rfl rfl rfl rfl rfl (fun _ => r_move rfl (ev_t rfl)) ?_
             refine WN.held _ rfl rfl rfl rfl rfl hS4 (fun w' hS => r_load rfl (ev_t rfl) flat_69 (Blk.cell (h1.upd hS (by (try simp only [At, From, No, Grow, New]); omega)) rfl)) ?_
             refine WN.calm _ rfl rfl rfl rfl rfl (fun _ => r_indexAddr rfl (ev_t rfl) (ev_t rfl) elem_69 size_3 (by omega) (by omega)) ?_
             refine WN.held _ rfl rfl rfl rfl rfl hS4 (fun w' hS => r_load rfl (ev_t rfl) flat_69 (Blk.cell (h3.upd hS (by (try simp only [At, From, No, Grow, New]); omega)) rfl)) ?_
             refine WN.step _ rfl (SO.store rfl (ev_t rfl) (ev_t rfl) size_3 h2 (bltOf (by simp; omega)) rfl rfl rfl rfl ?_)
             intro w2 hu2 h2 hz7
             rw [show (0 + ((m : Nat) : Int).toNat * 1) = m by omega, setI] at h2
             have hs2 := hu2.size
             replace hS4 := Upd.trans hS4 hu2 (by intro k hl hk; simp only [At] at hk; omega)
             replace hU := hU.trans hu2 (by first | exact (fun _ _ h => h) | exact (fun _ _ h => h.elim) | (intro k hl hk; (try simp only [At, New, Grow, From, No] at hk ⊢); omega) | (intro k hl hk; first | exact (h9 k hk).1 | (simp only [At, No] at hk; subst hk; assumption)))
             replace h1 := h1.upd hu2 (by first | exact (fun h => h) | (simp only [At, No]; omega) | (exact fun h => (h9 _ h).2.1 rfl))
             replace h3 := h3.upd hu2 (by first | exact (fun h => h) | (simp only [At, No]; omega) | (exact fun h => (h9 _ h).2.2.1 rfl))
             replace h4 := h4.upd hu2 (by first | exact (fun h => h) | (simp only [At, No]; omega) | (exact fun h => (h9 _ h).2.2.2.2.2 rfl))
             replace h5 := h5.upd hu2 (by first | exact (fun h => h) | (simp only [At, No]; omega) | (exact fun h => (h9 _ h).2.2.2.1 rfl))
             replace h6 := h6.upd hu2 (by first | exact (fun _ _ _ h => h) | (intro k hk hl hS; have := h9 k hk; simp only [At, No] at hS; omega))
             replace hat := hat.upd hu2 (by first | exact (fun h => h) | (simp only [At, No]; intro h; subst h; contradiction) | (exact fun h => h10 (h9 _ h).1))
             replace hF := hF.upd hu2 (by first | exact (fun h => h) | (simp only [At, No]; intro h; subst h; contradiction) | (exact fun h => hbF (h9 _ h).1))
             refine ⟨hS4, ?_⟩
             refine WN.calm _ rfl rfl rfl rfl rfl (fun _ => r_indexAddr rfl (ev_t rfl) (ev_t rfl) elem_69 size_3 (by omega) (by omega)) ?_
             refine WN.step _ rfl (SO.store rfl (ev_t rfl) (ev_t rfl) size_3 h4 (bltOf (by simp; omega)) rfl rfl rfl rfl ?_)
             intro w3 hu3 h4 hz9
             rw [show (0 + ((m : Nat) : Int).toNat * 1) = m by omega, setI] at h4
             have hs3 := hu3.size
             try replace hS4 := Upd.trans hS4 hu3 (by intro k hl hk; simp only [At] at hk; omega)
             replace hU := hU.trans hu3 (by first | exact (fun _ _ h => h) | exact (fun _ _ h => h.elim) | (intro k hl hk; (try simp only [At, New, Grow, From, No] at hk ⊢); omega) | (intro k hl hk; first | exact (h9 k hk).1 | (simp only [At, No] at hk; subst hk; assumption)))
             replace h1 := h1.upd hu3 (by first | exact (fun h => h) | (simp only [At, No]; omega) | (exact fun h => (h9 _ h).2.1 rfl))
             replace h2 := h2.upd hu3 (by first | exact (fun h => h) | (simp only [At, No]; omega) | (exact fun h => (h9 _ h).2.2.2.2.1 rfl))
             replace h3 := h3.upd hu3 (by first | exact (fun h => h) | (simp only [At, No]; omega) | (exact fun h => (h9 _ h).2.2.1 rfl))
             replace h5 := h5.upd hu3 (by first | exact (fun h => h) | (simp only [At, No]; omega) | (exact fun h => (h9 _ h).2.2.2.1 rfl))
             replace h6 := h6.upd hu3 (by first | exact (fun _ _ _ h => h) | (intro k hk hl hS; have := h9 k hk; simp only [At, No] at hS; omega))
             replace hat := hat.upd hu3 (by first | exact (fun h => h) | (simp only [At, No]; intro h; subst h; contradiction) | (exact fun h => h10 (h9 _ h).1))
             replace hF := hF.upd hu3 (by first | exact (fun h => h) | (simp only [At, No]; intro h; subst h; contradiction) | (exact fun h => hbF (h9 _ h).1))
             refine ⟨trivial, ?_⟩
             refine WN.done ?_
             refine WX.keep [(0, _), (1, _), (2, _), (5, _), (6, _), (7, _)] ⟨rfl, rfl, rfl, rfl, rfl, rfl, trivial⟩ ?_
             refine WX.next ?_
             refine WC.region ?_
             refine WL.val rfl rfl rfl rfl (r_load rfl (ev_t rfl) flat_69 (Blk.cell h5 rfl)) ?_
             refine WL.val rfl rfl rfl rfl (r_move rfl (ev_t rfl)) ?_
             refine WL.cons (SO.alloc rfl rfl rfl rfl (r_buildSlice1 (vs := [_]) rfl ⟨(ev_t rfl), trivial⟩ rfl row_69 rfl rfl) ?_)
             intro w4 hu4 hB4 hz4
             have hs4 := hu4.size
             replace hU := hU.trans hu4 (by first | exact (fun _ _ h => h) | exact (fun _ _ h => h.elim) | (intro k hl hk; (try simp only [At, New, Grow, From, No] at hk ⊢); omega) | (intro k hl hk; first | exact (h9 k hk).1 | (simp only [At, No] at hk; subst hk; assumption)))
             replace h1 := h1.upd hu4 (by first | exact (fun h => h) | (simp only [At, No]; omega) | (exact fun h => (h9 _ h).2.1 rfl))
             replace h2 := h2.upd hu4 (by first | exact (fun h => h) | (simp only [At, No]; omega) | (exact fun h => (h9 _ h).2.2.2.2.1 rfl))
             replace h3 := h3.upd hu4 (by first | exact (fun h => h) | (simp only [At, No]; omega) | (exact fun h => (h9 _ h).2.2.1 rfl))
             replace h4 := h4.upd hu4 (by first | exact (fun h => h) | (simp only [At, No]; omega) | (exact fun h => (h9 _ h).2.2.2.2.2 rfl))
             replace h5 := h5.upd hu4 (by first | exact (fun h => h) | (simp only [At, No]; omega) | (exact fun h => (h9 _ h).2.2.2.1 rfl))
             replace h6 := h6.upd hu4 (by first | exact (fun _ _ _ h => h) | (intro k hk hl hS; have := h9 k hk; simp only [At, No] at hS; omega))
             replace hat := hat.upd hu4 (by first | exact (fun h => h) | (simp only [At, No]; intro h; subst h; contradiction) | (exact fun h => h10 (h9 _ h).1))
             replace hF := hF.upd hu4 (by first | exact (fun h => h) | (simp only [At, No]; intro h; subst h; contradiction) | (exact fun h => hbF (h9 _ h).1))
             refine WL.cons (SO.append h6 (Rd.of_blk (F := At _) (n := 1) (sz := 1) hB4 rfl rfl (by omega)) row_69 (oneCell_one rfl) (le_maxLen (by omega)) (by omega) rfl (ev_t rfl) (ev_t rfl) rfl rfl rfl rfl ?_)
             intro v5 w5 ho hu5
             have hs5 := hu5.size
             replace hU := hU.trans hu5 (by first | exact (fun _ _ h => h) | exact (fun _ _ h => h.elim) | (intro k hl hk; (try simp only [At, New, Grow, From, No] at hk ⊢); omega) | (intro k hl hk; first | exact (h9 k hk).1 | (simp only [At, No] at hk; subst hk; assumption)))
             replace h1 := h1.upd hu5 (by first | exact (fun h => h) | (simp only [At, No]; omega) | (exact fun h => (h9 _ h).2.1 rfl))
             replace h2 := h2.upd hu5 (by first | exact (fun h => h) | (simp only [At, No]; omega) | (exact fun h => (h9 _ h).2.2.2.2.1 rfl))
             replace h3 := h3.upd hu5 (by first | exact (fun h => h) | (simp only [At, No]; omega) | (exact fun h => (h9 _ h).2.2.1 rfl))
             replace h4 := h4.upd hu5 (by first | exact (fun h => h) | (simp only [At, No]; omega) | (exact fun h => (h9 _ h).2.2.2.2.2 rfl))
             replace h5 := h5.upd hu5 (by first | exact (fun h => h) | (simp only [At, No]; omega) | (exact fun h => (h9 _ h).2.2.2.1 rfl))
             replace hat := hat.upd hu5 (by first | exact (fun h => h) | (simp only [At, No]; intro h; subst h; contradiction) | (exact fun h => h10 (h9 _ h).1))
             replace hF := hF.upd hu5 (by first | exact (fun h => h) | (simp only [At, No]; intro h; subst h; contradiction) | (exact fun h => hbF (h9 _ h).1))
             obtain ⟨A5, c5, rfl, hc5⟩ := Own.form ho
             refine WL.cons (SO.store rfl (ev_t rfl) (ev_t rfl) size_69 h5 rfl rfl rfl rfl rfl ?_)
             intro w6 hu6 h5 hz10
             have hs6 := hu6.size
             replace hU := hU.trans hu6 (by first | exact (fun _ _ h => h) | exact (fun _ _ h => h.elim) | (intro k hl hk; (try simp only [At, New, Grow, From, No] at hk ⊢); omega) | (intro k hl hk; first | exact (h9 k hk).1 | (simp only [At, No] at hk; subst hk; assumption)))
             replace h1 := h1.upd hu6 (by first | exact (fun h => h) | (simp only [At, No]; omega) | (exact fun h => (h9 _ h).2.1 rfl))
             replace h2 := h2.upd hu6 (by first | exact (fun h => h) | (simp only [At, No]; omega) | (exact fun h => (h9 _ h).2.2.2.2.1 rfl))
             replace h3 := h3.upd hu6 (by first | exact (fun h => h) | (simp only [At, No]; omega) | (exact fun h => (h9 _ h).2.2.1 rfl))
             replace h4 := h4.upd hu6 (by first | exact (fun h => h) | (simp only [At, No]; omega) | (exact fun h => (h9 _ h).2.2.2.2.2 rfl))
             replace hat := hat.upd hu6 (by first | exact (fun h => h) | (simp only [At, No]; intro h; subst h; contradiction) | (exact fun h => h10 (h9 _ h).1))
             replace hF := hF.upd hu6 (by first | exact (fun h => h) | (simp only [At, No]; intro h; subst h; contradiction) | (exact fun h => hbF (h9 _ h).1))
             replace ho := ho.upd hu6 (by first | exact (fun _ _ _ h => h) | (intro k hk hl hS; simp only [At] at hS; subst hS; rcases hk with hk | hk; exact (h9 _ hk).2.2.2.1 rfl; omega))
             refine WL.nil ?_
             refine WX.keep [(0, _), (1, _), (2, _), (5, _), (6, _)] ⟨rfl, rfl, rfl, rfl, rfl, trivial⟩ ?_
             refine WX.meet [(0, _), (1, _), (2, _), (5, _), (6, _)] ⟨rfl, rfl, rfl, rfl, rfl, trivial⟩ ?_
             first
               | exact ⟨hU, ⟨gD, gR, AT, cT, G, h1, h2, h3, h4, h5, h6, ⟨d1, d2, d3, d4, d5, d6, d7, d8, d9, d10⟩, ⟨.inl m1, .inl m2, .inl m3, .inl m4, .inl m5⟩, fun k hk => ⟨.inl (h9 k hk).1, (h9 k hk).2⟩⟩, hD, hR, rfl, rfl⟩
               | exact ⟨hU, ⟨gD, gR, _, _, _, by rw [List.length_set]; exact h1, h2, by rw [List.length_set]; exact h3, h4, by rw [List.length_append]; exact h5, by rw [List.length_append, List.map_append]; exact ho, ⟨d1, d2, d3, d4, d5, d6, d7, d8, d9, d10⟩, ⟨.inl m1, .inl m2, .inl m3, .inl m4, .inl m5⟩, fun k hk => by
                   have hs9 := hU.size
                   rcases hk with hk | hk
                   · exact ⟨.inl (h9 k hk).1, (h9 k hk).2⟩
                   · exact ⟨.inr ⟨by omega, by omega⟩, by omega, by omega, by omega, by omega, by omega⟩⟩, by rw [List.length_set]; exact hD, by rw [List.length_set]; exact hR, by rw [getD_set (by omega), getD_set (by omega)]; simp, rfl⟩
          · try (exfalso; first | (simp at hc3; done) | (simp only [decide_eq_true_eq, decide_eq_false_iff_not, Bool.not_eq_true', Bool.not_eq_false', Bool.not_eq_true, Bool.not_eq_false] at hc3; omega) | omega)
            all_goals
             try simp only [decide_eq_true_eq, decide_eq_false_iff_not, Bool.not_eq_true', Bool.not_eq_false', Bool.not_eq_true, Bool.not_eq_false, Option.isNone_none, Option.isNone_some, Option.isSome_none, Option.isSome_some, ne_eq, Decidable.not_not] at hc3
             rw [if_neg (by omega)] at he
             simp only [Prod.mk.injEq] at he
             obtain ⟨rfl, rfl, rfl, rfl⟩ := he
             refine WC.skip ?_
             refine WX.meet [(0, _), (1, _), (2, _), (5, _), (6, _)] ⟨rfl, rfl, rfl, rfl, rfl, trivial⟩ ?_
             first
               | exact ⟨hU, ⟨gD, gR, AT, cT, G, h1, h2, h3, h4, h5, h6, ⟨d1, d2, d3, d4, d5, d6, d7, d8, d9, d10⟩, ⟨.inl m1, .inl m2, .inl m3, .inl m4, .inl m5⟩, fun k hk => ⟨.inl (h9 k hk).1, (h9 k hk).2⟩⟩, hD, hR, rfl, rfl⟩
               | exact ⟨hU, ⟨gD, gR, _, _, _, by rw [List.length_set]; exact h1, h2, by rw [List.length_set]; exact h3, h4, by rw [List.length_append]; exact h5, by rw [List.length_append, List.map_append]; exact ho, ⟨d1, d2, d3, d4, d5, d6, d7, d8, d9, d10⟩, ⟨.inl m1, .inl m2, .inl m3, .inl m4, .inl m5⟩, fun k hk => by
                   have hs9 := hU.size
                   rcases hk with hk | hk
                   · exact ⟨.inl (h9 k hk).1, (h9 k hk).2⟩
                   · exact ⟨.inr ⟨by omega, by omega⟩, by omega, by omega, by omega, by omega, by omega⟩⟩, by rw [List.length_set]; exact hD, by rw [List.length_set]; exact hR, by rw [getD_set (by omega), getD_set (by omega)]; simp, rfl⟩
        · rintro E w2 ⟨hU2, hS2, hD2, hR2, hbb, rfl⟩
          clear h1 h2 h3 h4 h5 h6 h9
          obtain ⟨gD, gR, AT, cT, G, h1, h2, h3, h4, h5, h6, _, _, h9⟩ := id hS2
          refine WC.seq ?_
          refine WC.region ?_
          refine WL.val rfl rfl rfl rfl (r_load rfl (ev_t rfl) flat_69 (Blk.cell h1 rfl)) ?_
          refine WL.val rfl rfl rfl rfl (r_move rfl (ev_t rfl)) ?_
          refine WL.val rfl rfl rfl rfl (r_indexAddr rfl (ev_t rfl) (ev_t rfl) elem_69 size_3 (by omega) (by omega)) ?_
          refine WL.val rfl rfl rfl rfl (r_load rfl (ev_t rfl) flat_3 (Blk.cell h2 (by rw [show 0 + ((m : Nat) : Int).toNat * 1 = m by omega, List.getElem?_toArray]; exact getI (by omega)))) ?_
          refine WL.val rfl rfl rfl rfl (r_move rfl (ev_t rfl)) ?_
          refine WL.val rfl rfl rfl rfl (r_eql rfl (ev_t rfl) (ev_t rfl)) ?_
          refine WL.val rfl rfl rfl rfl (r_move rfl (ev_t rfl)) ?_
          refine WL.cases 45 rfl (fun hb6_6 => ?_) (fun hb6_6 => ?_)
          · try (exfalso; first | (simp at hb6_6; done) | (simp only [decide_eq_true_eq, decide_eq_false_iff_not, Bool.not_eq_true', Bool.not_eq_false', Bool.not_eq_true, Bool.not_eq_false] at hb6_6; omega) | omega)
            all_goals
             try simp only [decide_eq_true_eq, decide_eq_false_iff_not, Bool.not_eq_true', Bool.not_eq_false', Bool.not_eq_true, Bool.not_eq_false, Option.isNone_none, Option.isNone_some, Option.isSome_none, Option.isSome_some, ne_eq, Decidable.not_not] at hb6_6
             refine WL.val rfl rfl rfl rfl (r_load rfl (ev_t rfl) flat_69 (Blk.cell h3 rfl)) ?_
             refine WL.val rfl rfl rfl rfl (r_move rfl (ev_t rfl)) ?_
             refine WL.val rfl rfl rfl rfl (r_indexAddr rfl (ev_t rfl) (ev_t rfl) elem_69 size_3 (by omega) (by omega)) ?_
             refine WL.val rfl rfl rfl rfl (r_load rfl (ev_t rfl) flat_3 (Blk.cell h4 (by rw [show 0 + ((m : Nat) : Int).toNat * 1 = m by omega, List.getElem?_toArray]; exact getI (by omega)))) ?_
             refine WL.val rfl rfl rfl rfl (r_move rfl (ev_t rfl)) ?_
             refine WL.val rfl rfl rfl rfl (r_eql rfl (ev_t rfl) (ev_t rfl)) ?_
             refine WL.val rfl rfl rfl rfl (r_pickT rfl (ev_t rfl) (ev_t rfl)) ?_
             refine WL.val rfl rfl rfl rfl (r_assign rfl (ev_t rfl)) ?_
             refine WL.nil ?_
             refine WX.keep [(11, _)] ⟨rfl, trivial⟩ ?_
             refine WX.next ?_
             refine WC.ret ?_
             refine WX.retE1 rfl rfl ?_
             refine ⟨?_, hS2, hU2⟩
             rw [hbb]
             first
               | rfl
               | (congr 1; simp_all)
          · try (exfalso; first | (simp at hb6_6; done) | (simp only [decide_eq_true_eq, decide_eq_false_iff_not, Bool.not_eq_true', Bool.not_eq_false', Bool.not_eq_true, Bool.not_eq_false] at hb6_6; omega) | omega)
            all_goals
             try simp only [decide_eq_true_eq, decide_eq_false_iff_not, Bool.not_eq_true', Bool.not_eq_false', Bool.not_eq_true, Bool.not_eq_false, Option.isNone_none, Option.isNone_some, Option.isSome_none, Option.isSome_some, ne_eq, Decidable.not_not] at hb6_6
             refine WL.skip rfl rfl rfl ?_
             refine WL.skip rfl rfl rfl ?_
             refine WL.skip rfl rfl rfl ?_
             refine WL.skip rfl rfl rfl ?_
             refine WL.skip rfl rfl rfl ?_
             refine WL.skip rfl rfl rfl ?_
             refine WL.val rfl rfl rfl rfl (r_pickF rfl (ev_t rfl) ev_c) ?_
             refine WL.val rfl rfl rfl rfl (r_assign rfl (ev_t rfl)) ?_
             refine WL.nil ?_
             refine WX.keep [(11, _)] ⟨rfl, trivial⟩ ?_
             refine WX.next ?_
             refine WC.ret ?_
             refine WX.retE1 rfl rfl ?_
             refine ⟨?_, hS2, hU2⟩
             rw [hbb]
             first
               | rfl
               | (congr 1; simp_all)
end Go.Proofs.YtipabhbnljadfaaDoor
