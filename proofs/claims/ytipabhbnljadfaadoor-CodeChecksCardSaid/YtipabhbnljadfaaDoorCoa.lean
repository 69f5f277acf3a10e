/-
  code: what an instruction asks, and what it leaves.
-/
import Derived.Test.YtipabhbnljadfaaDoorCoP
import Derived.Test.YtipabhbnljadfaaDoorWs
namespace Go.Proofs.YtipabhbnljadfaaDoor
open Go
set_option linter.unusedSimpArgs false
set_option linter.unusedVariables false

abbrev I64 (n : Int) : Value := .int .i64 n
/-- the two tables -/
def Tk (w : World) : Prop := Rd w (fun _ => True) (.slice (some ⟨0, 0, none⟩) 27 27) 27 1 (takesT.map I64) ∧ Rd w (fun _ => True) (.slice (some ⟨1, 0, none⟩) 27 27) 27 1 (leavesT.map I64)
theorem Tk.upd {w w' : World} (h : Tk w) (hu : Upd No w w') : Tk w' := ⟨h.1.upd hu (fun _ _ _ h => h), h.2.upd hu (fun _ _ _ h => h)⟩
theorem Tk.upd2 {w w' : World} {S : Nat → Prop} (h : Tk w) (hu : Upd S w w') (h0 : ¬ S 0) (h1 : ¬ S 1) : Tk w' := by
  obtain ⟨⟨A, c, e1, a1, a2, a3, a4⟩, ⟨B, d, e2, b1, b2, b3, b4⟩⟩ := h
  refine ⟨⟨A, c, e1, a1, a2, a3, fun hn => ?_⟩, ⟨B, d, e2, b1, b2, b3, fun hn => ?_⟩⟩
  · obtain ⟨x, y, hA, h3, h4, h5⟩ := a4 hn
    injection e1 with e1
    rw [← e1] at hA
    injection hA with hA
    injection hA with hA1 hA2
    subst hA1
    exact ⟨0, y, by rw [← e1, hA2], h3, by have := hu.size; omega, fun j u hj => (cell?_of_eq (hu.block 0 h4 h0) _ _).trans (h5 j u hj)⟩
  · obtain ⟨x, y, hA, h3, h4, h5⟩ := b4 hn
    injection e2 with e2
    rw [← e2] at hA
    injection hA with hA
    injection hA with hA1 hA2
    subst hA1
    exact ⟨1, y, by rw [← e2, hA2], h3, by have := hu.size; omega, fun j u hj => (cell?_of_eq (hu.block 1 h4 h1) _ _).trans (h5 j u hj)⟩
theorem tkT_cell {op : Nat} (h : op < 27) : (takesT.map I64)[op]? = some (I64 (tkT op)) := by
  have key : ∀ q : Fin 27, takesT[q.1]? = some (tkT q.1) := by decide
  rw [List.getElem?_map, key ⟨op, h⟩]
  rfl
theorem lvT_cell {op : Nat} (h : op < 27) : (leavesT.map I64)[op]? = some (I64 (lvT op)) := by
  have key : ∀ q : Fin 27, leavesT[q.1]? = some (lvT q.1) := by decide
  rw [List.getElem?_map, key ⟨op, h⟩]
  rfl

/-- a function as it stands in a row: how many it captures; the slice of its instructions -/
structure FnV where
  f : Fn
  v : Value
def FnV.cells (x : FnV) : List Value := [.int .i64 x.f.caps, x.v]
theorem FnV.cells_len (x : FnV) : x.cells.length = 2 := rfl
/-- functions in memory, of whatever types -/
def IsFs (w : World) (H : Nat → Prop) (v : Value) (l : List Fn) : Prop := ∃ V : List FnV, Rd w H v V.length 2 (V.flatMap FnV.cells) ∧ (∀ x ∈ V, Rd w H x.v x.f.code.length 4 (x.f.code.flatMap insC)) ∧ V.map FnV.f = l
theorem IsFs.upd {w w' : World} {H S : Nat → Prop} {v : Value} {l : List Fn} (h : IsFs w H v l) (hu : Upd S w w') (hn : ∀ k, H k → k < w.heap.size → ¬ S k) : IsFs w' H v l := by
  obtain ⟨V, h1, h2, h3⟩ := h
  exact ⟨V, h1.upd hu hn, fun x hx => (h2 x hx).upd hu hn, h3⟩
theorem IsFs.mono {w : World} {H H' : Nat → Prop} {v : Value} {l : List Fn} (h : IsFs w H v l) (hn : ∀ k, H k → H' k) : IsFs w H' v l := by
  obtain ⟨V, h1, h2, h3⟩ := h
  exact ⟨V, h1.mono hn, fun x hx => (h2 x hx).mono hn, h3⟩
/-- instructions and functions that the machine holds -/
def OKs (l : List Fn) : Prop := ∀ f ∈ l, inK .i64 f.caps ∧ ∀ i ∈ f.code, i.ok

theorem wrap_inK (k : IntKind) (n : Int) : inK k (k.wrap n) := by
  cases k <;> simp only [inK, IntKind.wrap, IntKind.signed, IntKind.bits, Bool.true_and, Bool.false_and, Bool.false_eq_true, if_false] <;>
    first
    | omega
    | (split <;> (rename_i h'; simp only [ge_iff_le, decide_eq_true_eq] at h'; omega))

set_option maxHeartbeats 4000000 in
theorem fine_ok {w : World} {F : Fn} {A : Option Addr} {n c : Nat} {i : In} {d t globs : Int} {H : Nat → Prop} {allv : Value} {all : List Fn} (hT : Tk w) (hall : IsFs w H allv all) (hi : i.ok) (hd : inK .i64 d) (ht : inK .i64 t) (hF : inK .i64 F.caps) :
    Ret Tryd.prog 35 #[.agg #[.int .i64 F.caps, .slice A n c], .agg (insC i).toArray, .int .i64 d, .int .i64 t, allv, .int .i64 globs] w fun u w' => (∃ b, u = .bool b ∧ (b = true → i.op < 27) ∧ (1 ≤ d → b = fineB F i d t all globs)) ∧ Upd No w w' := by
  obtain ⟨V, hV, hVc, hVl⟩ := hall
  obtain ⟨Aa, ca, rfl, hca⟩ := hV.slice_form
  have hVm := hV.le
  have hVn : V.length = all.length := by rw [← hVl, List.length_map]
  obtain ⟨h1, h2, h3, h4⟩ := hi
  simp only [inK] at h2 h3 hd ht hF
  obtain ⟨op, In_, Ia, Is⟩ := i
  simp only at h1 h2 h3 h4
  unfold insC
  unfold fineB
  simp only
  refine enterRet (vs := [_, _, _, _, _, _]) (N := 160) Tryd.func35 rfl rfl rfl ?_
  have hU := Upd.refl No w
  refine WC.keep [(0, _), (1, _), (2, _), (3, _), (4, _), (5, _)] ⟨rfl, rfl, rfl, rfl, rfl, rfl, trivial⟩ ?_
  refine WC.seq ?_
  refine WC.region ?_
  refine WL.cons (SO.alloc rfl rfl rfl rfl (r_boxAgg rfl (ev_t rfl)) ?_)
  intro w1 hu1 hB1 hz1
  have hs1 := hu1.size
  replace hU := hU.transA hu1
  refine WL.cons (SO.alloc rfl rfl rfl rfl (r_boxAgg rfl (ev_t rfl)) ?_)
  intro w2 hu2 hB2 hz2
  have hs2 := hu2.size
  replace hU := hU.transA hu2
  replace hB1 := hB1.updA hu2
  refine WL.val rfl rfl rfl rfl (r_assign rfl ev_c) ?_
  refine WL.nil ?_
  refine WX.keep [(2, _), (3, _), (4, _), (5, _), (6, _), (7, _)] ⟨rfl, rfl, rfl, rfl, rfl, rfl, trivial⟩ ?_
  refine WX.next ?_
  refine WC.seq ?_
  refine WC.seq ?_
  refine WC.region ?_
  first | refine WL.val rfl rfl rfl rfl (r_field0 rfl (ev_t rfl) fld_44_0) ?_ | refine WL.val rfl rfl rfl rfl (r_fieldAt rfl (ev_t rfl) fld_44_0) ?_
  first | refine WL.val rfl rfl rfl rfl (r_load rfl (ev_t rfl) flat_5 (Blk.cell hB1 rfl)) ?_ | refine WL.val rfl rfl rfl rfl (r_load rfl (ev_t rfl) flat_5 (Blk.cell hB2 rfl)) ?_
  first | refine WL.val rfl rfl rfl rfl (r_convN rfl (ev_t rfl) some_5 int_3 (by simp only [inK]; omega)) ?_ | refine WL.val rfl rfl rfl rfl (r_conv rfl (ev_t rfl) some_5 int_3) ?_
  refine WL.val rfl rfl rfl rfl (r_geq rfl (ev_t rfl) ev_c) ?_
  refine WL.nil ?_
  refine WX.keep [(2, _), (3, _), (4, _), (5, _), (6, _), (7, _), (17, _)] ⟨rfl, rfl, rfl, rfl, rfl, rfl, rfl, trivial⟩ ?_
  refine WX.next ?_
  refine WC.cond rfl (ev_t rfl) (fun hc1 => ?_) (fun hc1 => ?_)
  · try (exfalso; first | (simp at hc1; done) | (simp only [decide_eq_true_eq, decide_eq_false_iff_not, Bool.not_eq_true', Bool.not_eq_false', Bool.not_eq_true, Bool.not_eq_false] at hc1; omega) | omega)
    all_goals
     try simp only [decide_eq_true_eq, decide_eq_false_iff_not, Bool.not_eq_true', Bool.not_eq_false', Bool.not_eq_true, Bool.not_eq_false, Option.isNone_none, Option.isNone_some, Option.isSome_none, Option.isSome_some, ne_eq, Decidable.not_not] at hc1
     refine WC.seq ?_
     refine WC.region ?_
     refine WL.val rfl rfl rfl rfl (r_assign rfl ev_c) ?_
     refine WL.nil ?_
     refine WX.keep [(12, _)] ⟨rfl, trivial⟩ ?_
     refine WX.next ?_
     refine WC.ret ?_
     refine WX.thenRet ?_
     refine WX.retE1 rfl rfl ?_
     exact ⟨⟨_, rfl, (fun h => by cases h), fun _ => by rw [if_pos (by omega)]⟩, hU⟩
  · try (exfalso; first | (simp at hc1; done) | (simp only [decide_eq_true_eq, decide_eq_false_iff_not, Bool.not_eq_true', Bool.not_eq_false', Bool.not_eq_true, Bool.not_eq_false] at hc1; omega) | omega)
    all_goals
     try simp only [decide_eq_true_eq, decide_eq_false_iff_not, Bool.not_eq_true', Bool.not_eq_false', Bool.not_eq_true, Bool.not_eq_false, Option.isNone_none, Option.isNone_some, Option.isSome_none, Option.isSome_some, ne_eq, Decidable.not_not] at hc1
     refine WC.skip ?_
     refine WX.next ?_
     refine WC.seq ?_
     refine WC.region ?_
     refine WL.val rfl rfl rfl rfl (r_move rfl (ev_t rfl)) ?_
     refine WL.val rfl rfl rfl rfl (r_assign rfl (ev_t rfl)) ?_
     refine WL.nil ?_
     refine WX.keep [(2, _), (3, _), (4, _), (5, _), (6, _), (7, _), (13, _)] ⟨rfl, rfl, rfl, rfl, rfl, rfl, rfl, trivial⟩ ?_
     refine WX.next ?_
     refine WC.seq ?_
     refine WC.seq ?_
     refine WC.region ?_
     first | refine WL.val rfl rfl rfl rfl (r_field0 rfl (ev_t rfl) fld_44_0) ?_ | refine WL.val rfl rfl rfl rfl (r_fieldAt rfl (ev_t rfl) fld_44_0) ?_
     first | refine WL.val rfl rfl rfl rfl (r_load rfl (ev_t rfl) flat_5 (Blk.cell hB1 rfl)) ?_ | refine WL.val rfl rfl rfl rfl (r_load rfl (ev_t rfl) flat_5 (Blk.cell hB2 rfl)) ?_
     refine WL.nil ?_
     refine WX.keep [(2, _), (3, _), (4, _), (5, _), (6, _), (7, _), (13, _), (20, _)] ⟨rfl, rfl, rfl, rfl, rfl, rfl, rfl, rfl, trivial⟩ ?_
     refine WX.next ?_
     refine WC.block ?_
     refine WC.seq ?_
     refine WC.region ?_
     refine WL.val rfl rfl rfl rfl (r_eql rfl (ev_t rfl) ev_c) ?_
     refine WL.val rfl rfl rfl rfl (r_assign rfl (ev_t rfl)) ?_
     refine WL.nil ?_
     refine WX.keep [(2, _), (3, _), (4, _), (5, _), (6, _), (7, _), (13, _), (20, _), (21, _)] ⟨rfl, rfl, rfl, rfl, rfl, rfl, rfl, rfl, rfl, trivial⟩ ?_
     refine WX.next ?_
     refine WC.cond rfl (ev_t rfl) (fun hc5 => ?_) (fun hc5 => ?_)
     · try (exfalso; first | (simp at hc5; done) | (simp only [decide_eq_true_eq, decide_eq_false_iff_not, Bool.not_eq_true', Bool.not_eq_false', Bool.not_eq_true, Bool.not_eq_false] at hc5; omega) | omega)
       all_goals
        try simp only [decide_eq_true_eq, decide_eq_false_iff_not, Bool.not_eq_true', Bool.not_eq_false', Bool.not_eq_true, Bool.not_eq_false, Option.isNone_none, Option.isNone_some, Option.isSome_none, Option.isSome_some, ne_eq, Decidable.not_not] at hc5
        refine WC.seq ?_
        refine WC.region ?_
        first | refine WL.val rfl rfl rfl rfl (r_field0 rfl (ev_t rfl) fld_44_1) ?_ | refine WL.val rfl rfl rfl rfl (r_fieldAt rfl (ev_t rfl) fld_44_1) ?_
        first | refine WL.val rfl rfl rfl rfl (r_load rfl (ev_t rfl) flat_2 (Blk.cell hB1 rfl)) ?_ | refine WL.val rfl rfl rfl rfl (r_load rfl (ev_t rfl) flat_2 (Blk.cell hB2 rfl)) ?_
        refine WL.val rfl rfl rfl rfl (r_geq rfl (ev_t rfl) ev_c) ?_
        refine WL.val rfl rfl rfl rfl (r_move rfl (ev_t rfl)) ?_
        refine WL.cases 26 rfl (fun hb6_3 => ?_) (fun hb6_3 => ?_)
        · try (exfalso; first | (simp at hb6_3; done) | (simp only [decide_eq_true_eq, decide_eq_false_iff_not, Bool.not_eq_true', Bool.not_eq_false', Bool.not_eq_true, Bool.not_eq_false] at hb6_3; omega) | omega)
          all_goals
           try simp only [decide_eq_true_eq, decide_eq_false_iff_not, Bool.not_eq_true', Bool.not_eq_false', Bool.not_eq_true, Bool.not_eq_false, Option.isNone_none, Option.isNone_some, Option.isSome_none, Option.isSome_some, ne_eq, Decidable.not_not] at hb6_3
           first | refine WL.val rfl rfl rfl rfl (r_field0 rfl (ev_t rfl) fld_44_1) ?_ | refine WL.val rfl rfl rfl rfl (r_fieldAt rfl (ev_t rfl) fld_44_1) ?_
           first | refine WL.val rfl rfl rfl rfl (r_load rfl (ev_t rfl) flat_2 (Blk.cell hB1 rfl)) ?_ | refine WL.val rfl rfl rfl rfl (r_load rfl (ev_t rfl) flat_2 (Blk.cell hB2 rfl)) ?_
           refine WL.val rfl rfl rfl rfl (r_move rfl (ev_t rfl)) ?_
           refine WL.val rfl rfl rfl rfl (r_lss rfl (ev_t rfl) (ev_t rfl)) ?_
           refine WL.val rfl rfl rfl rfl (r_pickT rfl (ev_t rfl) (ev_t rfl)) ?_
           refine WL.val rfl rfl rfl rfl (r_assign rfl (ev_t rfl)) ?_
           refine WL.nil ?_
           refine WX.keep [(12, _)] ⟨rfl, trivial⟩ ?_
           refine WX.next ?_
           refine WC.ret ?_
           refine WX.blockRet ?_
           refine WX.thenRet ?_
           refine WX.retE1 rfl rfl ?_
           refine ⟨⟨_, rfl, (fun _ => by omega), fun _ => ?_⟩, hU⟩
           simp (disch := omega) only [if_pos, if_neg]
           try rw [Bool.eq_iff_iff]
           try rw [wrap_i64_in (by omega) (by omega)]
           try simp only [Bool.and_eq_true, decide_eq_true_eq, Bool.false_eq_true, false_iff]
           try omega
        · try (exfalso; first | (simp at hb6_3; done) | (simp only [decide_eq_true_eq, decide_eq_false_iff_not, Bool.not_eq_true', Bool.not_eq_false', Bool.not_eq_true, Bool.not_eq_false] at hb6_3; omega) | omega)
          all_goals
           try simp only [decide_eq_true_eq, decide_eq_false_iff_not, Bool.not_eq_true', Bool.not_eq_false', Bool.not_eq_true, Bool.not_eq_false, Option.isNone_none, Option.isNone_some, Option.isSome_none, Option.isSome_some, ne_eq, Decidable.not_not] at hb6_3
           refine WL.skip rfl rfl rfl ?_
           refine WL.skip rfl rfl rfl ?_
           refine WL.skip rfl rfl rfl ?_
           refine WL.skip rfl rfl rfl ?_
           refine WL.val rfl rfl rfl rfl (r_pickF rfl (ev_t rfl) ev_c) ?_
           refine WL.val rfl rfl rfl rfl (r_assign rfl (ev_t rfl)) ?_
           refine WL.nil ?_
           refine WX.keep [(12, _)] ⟨rfl, trivial⟩ ?_
           refine WX.next ?_
           refine WC.ret ?_
           refine WX.blockRet ?_
           refine WX.thenRet ?_
           refine WX.retE1 rfl rfl ?_
           refine ⟨⟨_, rfl, (fun _ => by omega), fun _ => ?_⟩, hU⟩
           simp (disch := omega) only [if_pos, if_neg]
           try rw [Bool.eq_iff_iff]
           try rw [wrap_i64_in (by omega) (by omega)]
           try simp only [Bool.and_eq_true, decide_eq_true_eq, Bool.false_eq_true, false_iff]
           try omega
     · try (exfalso; first | (simp at hc5; done) | (simp only [decide_eq_true_eq, decide_eq_false_iff_not, Bool.not_eq_true', Bool.not_eq_false', Bool.not_eq_true, Bool.not_eq_false] at hc5; omega) | omega)
       all_goals
        try simp only [decide_eq_true_eq, decide_eq_false_iff_not, Bool.not_eq_true', Bool.not_eq_false', Bool.not_eq_true, Bool.not_eq_false, Option.isNone_none, Option.isNone_some, Option.isSome_none, Option.isSome_some, ne_eq, Decidable.not_not] at hc5
        refine WC.seq ?_
        refine WC.region ?_
        refine WL.val rfl rfl rfl rfl (r_eql rfl (ev_t rfl) ev_c) ?_
        refine WL.val rfl rfl rfl rfl (r_assign rfl (ev_t rfl)) ?_
        refine WL.nil ?_
        refine WX.keep [(2, _), (3, _), (4, _), (5, _), (6, _), (7, _), (13, _), (20, _), (32, _)] ⟨rfl, rfl, rfl, rfl, rfl, rfl, rfl, rfl, rfl, trivial⟩ ?_
        refine WX.next ?_
        refine WC.cond rfl (ev_t rfl) (fun hc7 => ?_) (fun hc7 => ?_)
        · try (exfalso; first | (simp at hc7; done) | (simp only [decide_eq_true_eq, decide_eq_false_iff_not, Bool.not_eq_true', Bool.not_eq_false', Bool.not_eq_true, Bool.not_eq_false] at hc7; omega) | omega)
          all_goals
           try simp only [decide_eq_true_eq, decide_eq_false_iff_not, Bool.not_eq_true', Bool.not_eq_false', Bool.not_eq_true, Bool.not_eq_false, Option.isNone_none, Option.isNone_some, Option.isSome_none, Option.isSome_some, ne_eq, Decidable.not_not] at hc7
           refine WC.seq ?_
           refine WC.region ?_
           first | refine WL.val rfl rfl rfl rfl (r_field0 rfl (ev_t rfl) fld_44_1) ?_ | refine WL.val rfl rfl rfl rfl (r_fieldAt rfl (ev_t rfl) fld_44_1) ?_
           first | refine WL.val rfl rfl rfl rfl (r_load rfl (ev_t rfl) flat_2 (Blk.cell hB1 rfl)) ?_ | refine WL.val rfl rfl rfl rfl (r_load rfl (ev_t rfl) flat_2 (Blk.cell hB2 rfl)) ?_
           refine WL.val rfl rfl rfl rfl (r_geq rfl (ev_t rfl) ev_c) ?_
           refine WL.val rfl rfl rfl rfl (r_move rfl (ev_t rfl)) ?_
           refine WL.cases 37 rfl (fun hb8_3 => ?_) (fun hb8_3 => ?_)
           · try (exfalso; first | (simp at hb8_3; done) | (simp only [decide_eq_true_eq, decide_eq_false_iff_not, Bool.not_eq_true', Bool.not_eq_false', Bool.not_eq_true, Bool.not_eq_false] at hb8_3; omega) | omega)
             all_goals
              try simp only [decide_eq_true_eq, decide_eq_false_iff_not, Bool.not_eq_true', Bool.not_eq_false', Bool.not_eq_true, Bool.not_eq_false, Option.isNone_none, Option.isNone_some, Option.isSome_none, Option.isSome_some, ne_eq, Decidable.not_not] at hb8_3
              first | refine WL.val rfl rfl rfl rfl (r_field0 rfl (ev_t rfl) fld_44_1) ?_ | refine WL.val rfl rfl rfl rfl (r_fieldAt rfl (ev_t rfl) fld_44_1) ?_
              first | refine WL.val rfl rfl rfl rfl (r_load rfl (ev_t rfl) flat_2 (Blk.cell hB1 rfl)) ?_ | refine WL.val rfl rfl rfl rfl (r_load rfl (ev_t rfl) flat_2 (Blk.cell hB2 rfl)) ?_
              first | refine WL.val rfl rfl rfl rfl (r_field0 rfl (ev_t rfl) fld_42_0) ?_ | refine WL.val rfl rfl rfl rfl (r_fieldAt rfl (ev_t rfl) fld_42_0) ?_
              first | refine WL.val rfl rfl rfl rfl (r_load rfl (ev_t rfl) flat_3 (Blk.cell hB1 rfl)) ?_ | refine WL.val rfl rfl rfl rfl (r_load rfl (ev_t rfl) flat_3 (Blk.cell hB2 rfl)) ?_
              refine WL.val rfl rfl rfl rfl (r_lss rfl (ev_t rfl) (ev_t rfl)) ?_
              refine WL.val rfl rfl rfl rfl (r_pickT rfl (ev_t rfl) (ev_t rfl)) ?_
              refine WL.val rfl rfl rfl rfl (r_assign rfl (ev_t rfl)) ?_
              refine WL.nil ?_
              refine WX.keep [(12, _)] ⟨rfl, trivial⟩ ?_
              refine WX.next ?_
              refine WC.ret ?_
              refine WX.blockRet ?_
              refine WX.thenRet ?_
              refine WX.retE1 rfl rfl ?_
              refine ⟨⟨_, rfl, (fun _ => by omega), fun _ => ?_⟩, hU⟩
              simp (disch := omega) only [if_pos, if_neg]
              try rw [Bool.eq_iff_iff]
              try rw [wrap_i64_in (by omega) (by omega)]
              try simp only [Bool.and_eq_true, decide_eq_true_eq, Bool.false_eq_true, false_iff]
              try omega
           · try (exfalso; first | (simp at hb8_3; done) | (simp only [decide_eq_true_eq, decide_eq_false_iff_not, Bool.not_eq_true', Bool.not_eq_false', Bool.not_eq_true, Bool.not_eq_false] at hb8_3; omega) | omega)
             all_goals
              try simp only [decide_eq_true_eq, decide_eq_false_iff_not, Bool.not_eq_true', Bool.not_eq_false', Bool.not_eq_true, Bool.not_eq_false, Option.isNone_none, Option.isNone_some, Option.isSome_none, Option.isSome_some, ne_eq, Decidable.not_not] at hb8_3
              refine WL.skip rfl rfl rfl ?_
              refine WL.skip rfl rfl rfl ?_
              refine WL.skip rfl rfl rfl ?_
              refine WL.skip rfl rfl rfl ?_
              refine WL.skip rfl rfl rfl ?_
              refine WL.val rfl rfl rfl rfl (r_pickF rfl (ev_t rfl) ev_c) ?_
              refine WL.val rfl rfl rfl rfl (r_assign rfl (ev_t rfl)) ?_
              refine WL.nil ?_
              refine WX.keep [(12, _)] ⟨rfl, trivial⟩ ?_
              refine WX.next ?_
              refine WC.ret ?_
              refine WX.blockRet ?_
              refine WX.thenRet ?_
              refine WX.retE1 rfl rfl ?_
              refine ⟨⟨_, rfl, (fun _ => by omega), fun _ => ?_⟩, hU⟩
              simp (disch := omega) only [if_pos, if_neg]
              try rw [Bool.eq_iff_iff]
              try rw [wrap_i64_in (by omega) (by omega)]
              try simp only [Bool.and_eq_true, decide_eq_true_eq, Bool.false_eq_true, false_iff]
              try omega
        · try (exfalso; first | (simp at hc7; done) | (simp only [decide_eq_true_eq, decide_eq_false_iff_not, Bool.not_eq_true', Bool.not_eq_false', Bool.not_eq_true, Bool.not_eq_false] at hc7; omega) | omega)
          all_goals
           try simp only [decide_eq_true_eq, decide_eq_false_iff_not, Bool.not_eq_true', Bool.not_eq_false', Bool.not_eq_true, Bool.not_eq_false, Option.isNone_none, Option.isNone_some, Option.isSome_none, Option.isSome_some, ne_eq, Decidable.not_not] at hc7
           refine WC.seq ?_
           refine WC.region ?_
           refine WL.val rfl rfl rfl rfl (r_eql rfl (ev_t rfl) ev_c) ?_
           refine WL.val rfl rfl rfl rfl (r_assign rfl (ev_t rfl)) ?_
           refine WL.nil ?_
           refine WX.keep [(2, _), (3, _), (4, _), (5, _), (7, _), (13, _), (20, _), (44, _)] ⟨rfl, rfl, rfl, rfl, rfl, rfl, rfl, rfl, trivial⟩ ?_
           refine WX.next ?_
           refine WC.cond rfl (ev_t rfl) (fun hc9 => ?_) (fun hc9 => ?_)
           · try (exfalso; first | (simp at hc9; done) | (simp only [decide_eq_true_eq, decide_eq_false_iff_not, Bool.not_eq_true', Bool.not_eq_false', Bool.not_eq_true, Bool.not_eq_false] at hc9; omega) | omega)
             all_goals
              try simp only [decide_eq_true_eq, decide_eq_false_iff_not, Bool.not_eq_true', Bool.not_eq_false', Bool.not_eq_true, Bool.not_eq_false, Option.isNone_none, Option.isNone_some, Option.isSome_none, Option.isSome_some, ne_eq, Decidable.not_not] at hc9
              refine WC.seq ?_
              refine WC.region ?_
              first | refine WL.val rfl rfl rfl rfl (r_field0 rfl (ev_t rfl) fld_44_1) ?_ | refine WL.val rfl rfl rfl rfl (r_fieldAt rfl (ev_t rfl) fld_44_1) ?_
              first | refine WL.val rfl rfl rfl rfl (r_load rfl (ev_t rfl) flat_2 (Blk.cell hB1 rfl)) ?_ | refine WL.val rfl rfl rfl rfl (r_load rfl (ev_t rfl) flat_2 (Blk.cell hB2 rfl)) ?_
              refine WL.val rfl rfl rfl rfl (r_geq rfl (ev_t rfl) ev_c) ?_
              refine WL.val rfl rfl rfl rfl (r_move rfl (ev_t rfl)) ?_
              refine WL.cases 49 rfl (fun hb10_3 => ?_) (fun hb10_3 => ?_)
              · try (exfalso; first | (simp at hb10_3; done) | (simp only [decide_eq_true_eq, decide_eq_false_iff_not, Bool.not_eq_true', Bool.not_eq_false', Bool.not_eq_true, Bool.not_eq_false] at hb10_3; omega) | omega)
                all_goals
                 try simp only [decide_eq_true_eq, decide_eq_false_iff_not, Bool.not_eq_true', Bool.not_eq_false', Bool.not_eq_true, Bool.not_eq_false, Option.isNone_none, Option.isNone_some, Option.isSome_none, Option.isSome_some, ne_eq, Decidable.not_not] at hb10_3
                 first | refine WL.val rfl rfl rfl rfl (r_field0 rfl (ev_t rfl) fld_44_1) ?_ | refine WL.val rfl rfl rfl rfl (r_fieldAt rfl (ev_t rfl) fld_44_1) ?_
                 first | refine WL.val rfl rfl rfl rfl (r_load rfl (ev_t rfl) flat_2 (Blk.cell hB1 rfl)) ?_ | refine WL.val rfl rfl rfl rfl (r_load rfl (ev_t rfl) flat_2 (Blk.cell hB2 rfl)) ?_
                 refine WL.val rfl rfl rfl rfl (r_move rfl (ev_t rfl)) ?_
                 refine WL.val rfl rfl rfl rfl (r_lss rfl (ev_t rfl) (ev_t rfl)) ?_
                 refine WL.val rfl rfl rfl rfl (r_pickT rfl (ev_t rfl) (ev_t rfl)) ?_
                 refine WL.val rfl rfl rfl rfl (r_assign rfl (ev_t rfl)) ?_
                 refine WL.nil ?_
                 refine WX.keep [(12, _)] ⟨rfl, trivial⟩ ?_
                 refine WX.next ?_
                 refine WC.ret ?_
                 refine WX.blockRet ?_
                 refine WX.thenRet ?_
                 refine WX.retE1 rfl rfl ?_
                 refine ⟨⟨_, rfl, (fun _ => by omega), fun _ => ?_⟩, hU⟩
                 simp (disch := omega) only [if_pos, if_neg]
                 try rw [Bool.eq_iff_iff]
                 try rw [wrap_i64_in (by omega) (by omega)]
                 try simp only [Bool.and_eq_true, decide_eq_true_eq, Bool.false_eq_true, false_iff]
                 try omega
              · try (exfalso; first | (simp at hb10_3; done) | (simp only [decide_eq_true_eq, decide_eq_false_iff_not, Bool.not_eq_true', Bool.not_eq_false', Bool.not_eq_true, Bool.not_eq_false] at hb10_3; omega) | omega)
                all_goals
                 try simp only [decide_eq_true_eq, decide_eq_false_iff_not, Bool.not_eq_true', Bool.not_eq_false', Bool.not_eq_true, Bool.not_eq_false, Option.isNone_none, Option.isNone_some, Option.isSome_none, Option.isSome_some, ne_eq, Decidable.not_not] at hb10_3
                 refine WL.skip rfl rfl rfl ?_
                 refine WL.skip rfl rfl rfl ?_
                 refine WL.skip rfl rfl rfl ?_
                 refine WL.skip rfl rfl rfl ?_
                 refine WL.val rfl rfl rfl rfl (r_pickF rfl (ev_t rfl) ev_c) ?_
                 refine WL.val rfl rfl rfl rfl (r_assign rfl (ev_t rfl)) ?_
                 refine WL.nil ?_
                 refine WX.keep [(12, _)] ⟨rfl, trivial⟩ ?_
                 refine WX.next ?_
                 refine WC.ret ?_
                 refine WX.blockRet ?_
                 refine WX.thenRet ?_
                 refine WX.retE1 rfl rfl ?_
                 refine ⟨⟨_, rfl, (fun _ => by omega), fun _ => ?_⟩, hU⟩
                 simp (disch := omega) only [if_pos, if_neg]
                 try rw [Bool.eq_iff_iff]
                 try rw [wrap_i64_in (by omega) (by omega)]
                 try simp only [Bool.and_eq_true, decide_eq_true_eq, Bool.false_eq_true, false_iff]
                 try omega
           · try (exfalso; first | (simp at hc9; done) | (simp only [decide_eq_true_eq, decide_eq_false_iff_not, Bool.not_eq_true', Bool.not_eq_false', Bool.not_eq_true, Bool.not_eq_false] at hc9; omega) | omega)
             all_goals
              try simp only [decide_eq_true_eq, decide_eq_false_iff_not, Bool.not_eq_true', Bool.not_eq_false', Bool.not_eq_true, Bool.not_eq_false, Option.isNone_none, Option.isNone_some, Option.isSome_none, Option.isSome_some, ne_eq, Decidable.not_not] at hc9
              refine WC.seq ?_
              refine WC.region ?_
              refine WL.val rfl rfl rfl rfl (r_eql rfl (ev_t rfl) ev_c) ?_
              refine WL.val rfl rfl rfl rfl (r_assign rfl (ev_t rfl)) ?_
              refine WL.nil ?_
              refine WX.keep [(2, _), (3, _), (4, _), (7, _), (13, _), (20, _), (55, _)] ⟨rfl, rfl, rfl, rfl, rfl, rfl, rfl, trivial⟩ ?_
              refine WX.next ?_
              refine WC.cond rfl (ev_t rfl) (fun hc11 => ?_) (fun hc11 => ?_)
              · try (exfalso; first | (simp at hc11; done) | (simp only [decide_eq_true_eq, decide_eq_false_iff_not, Bool.not_eq_true', Bool.not_eq_false', Bool.not_eq_true, Bool.not_eq_false] at hc11; omega) | omega)
                all_goals
                 try simp only [decide_eq_true_eq, decide_eq_false_iff_not, Bool.not_eq_true', Bool.not_eq_false', Bool.not_eq_true, Bool.not_eq_false, Option.isNone_none, Option.isNone_some, Option.isSome_none, Option.isSome_some, ne_eq, Decidable.not_not] at hc11
                 refine WC.seq ?_
                 refine WC.draws' (fun u0_ u1_ => Upd No u0_ u1_) (fun j => [0, 1, 0, 0, 0, 1, 0, 0, 0, 0, 0, 0, 0, 0, 0, 0, 0, 0, 1, 0, 0, 0, 0, 2, 0, 0, 0, 0].getD j 0) (.calm 0 (.one 1 (.calm 2 (.calm 3 (.calm 4 (.calm 6 (.calm 7 (.one 5 (.calm 8 (.calm 9 (.calm 10 (.calm 11 (.calm 12 (.calm 17 (.held 13 (.calm 14 (.calm 15 (.held 16 (.one 18 (.calm 19 (.calm 20 (.calm 21 (.calm 22 (.calm 24 (.one 23 (.calm 25 (.calm 26 (.calm 27 (.done))))))))))))))))))))))))))))) mixed (by kernel_rfl) (by repeat (first | with_reducible exact Deaf.body | with_reducible apply Deaf.then | with_reducible apply Deaf.block)) ?_
                 intro w3 hu3
                 have hz3 := congrArg Array.size hu3.2.2.2
                 replace hu3 := Upd.of_draw hu3
                 have hs3 := hu3.size
                 replace hU := hU.transA hu3
                 replace hB1 := hB1.updA hu3
                 replace hB2 := hB2.updA hu3
                 have hS12 := Upd.refl No w3
                 first | refine WN.calm _ rfl rfl rfl rfl rfl (fun _ => r_field0 rfl (ev_t rfl) fld_44_1) ?_ | refine WN.calm _ rfl rfl rfl rfl rfl (fun _ => r_fieldAt rfl (ev_t rfl) fld_44_1) ?_
                 first | refine WN.step _ rfl (SO.val rfl rfl rfl rfl (r_load rfl (ev_t rfl) flat_2 (Blk.cell hB1 rfl)) ?_) | refine WN.step _ rfl (SO.val rfl rfl rfl rfl (r_load rfl (ev_t rfl) flat_2 (Blk.cell hB2 rfl)) ?_)
                 refine ⟨hS12, ?_⟩
                 refine WN.calm _ rfl rfl rfl rfl rfl (fun _ => r_geq rfl (ev_t rfl) ev_c) ?_
                 refine WN.calm _ rfl rfl rfl rfl rfl (fun _ => r_move rfl (ev_t rfl)) ?_
                 refine WN.cases 60 rfl (fun hb12_3 => ?_) (fun hb12_3 => ?_)
                 · try (exfalso; first | (simp at hb12_3; done) | (simp only [decide_eq_true_eq, decide_eq_false_iff_not, Bool.not_eq_true', Bool.not_eq_false', Bool.not_eq_true, Bool.not_eq_false] at hb12_3; omega) | omega)
                   all_goals
                    try simp only [decide_eq_true_eq, decide_eq_false_iff_not, Bool.not_eq_true', Bool.not_eq_false', Bool.not_eq_true, Bool.not_eq_false, Option.isNone_none, Option.isNone_some, Option.isSome_none, Option.isSome_some, ne_eq, Decidable.not_not] at hb12_3
                    first | refine WN.calm _ rfl rfl rfl rfl rfl (fun _ => r_field0 rfl (ev_t rfl) fld_44_1) ?_ | refine WN.calm _ rfl rfl rfl rfl rfl (fun _ => r_fieldAt rfl (ev_t rfl) fld_44_1) ?_
                    refine WN.calm _ rfl rfl rfl rfl rfl (fun _ => r_move rfl (ev_t rfl)) ?_
                    refine WN.calm _ rfl rfl rfl rfl rfl (fun _ => r_lenSlice (ts := #[]) rfl (ev_t rfl) elem_22) ?_
                    first | refine WN.step _ rfl (SO.val rfl rfl rfl rfl (r_load rfl (ev_t rfl) flat_2 (Blk.cell hB1 rfl)) ?_) | refine WN.step _ rfl (SO.val rfl rfl rfl rfl (r_load rfl (ev_t rfl) flat_2 (Blk.cell hB2 rfl)) ?_)
                    refine ⟨hS12, ?_⟩
                    refine WN.calm _ rfl rfl rfl rfl rfl (fun _ => r_lss rfl (ev_t rfl) (ev_t rfl)) ?_
                    refine WN.calm _ rfl rfl rfl rfl rfl (fun _ => r_pickT rfl (ev_t rfl) (ev_t rfl)) ?_
                    refine WN.calm _ rfl rfl rfl rfl rfl (fun _ => r_move rfl (ev_t rfl)) ?_
                    refine WN.cases 67 rfl (fun hb12_10 => ?_) (fun hb12_10 => ?_)
                    · try (exfalso; first | (simp at hb12_10; done) | (simp only [decide_eq_true_eq, decide_eq_false_iff_not, Bool.not_eq_true', Bool.not_eq_false', Bool.not_eq_true, Bool.not_eq_false] at hb12_10; omega) | omega)
                      all_goals
                       try simp only [decide_eq_true_eq, decide_eq_false_iff_not, Bool.not_eq_true', Bool.not_eq_false', Bool.not_eq_true, Bool.not_eq_false, Option.isNone_none, Option.isNone_some, Option.isSome_none, Option.isSome_some, ne_eq, Decidable.not_not] at hb12_10
                       obtain ⟨x, hx⟩ : ∃ x, V[In_.toNat]? = some x := ⟨_, List.getElem?_eq_getElem (by omega)⟩
                       have hcell := flatMap_get FnV.cells_len hx
                       have hxa : (all[In_.toNat]?).map (·.caps) = some x.f.caps := by rw [← hVl, List.getElem?_map, hx]; rfl
                       obtain ⟨ba, oa, rfl, _⟩ := hV.open (by omega)
                       refine WN.calm _ rfl rfl rfl rfl rfl (fun _ => r_move rfl (ev_t rfl)) ?_
                       first | refine WN.calm _ rfl rfl rfl rfl rfl (fun _ => r_field0 rfl (ev_t rfl) fld_44_1) ?_ | refine WN.calm _ rfl rfl rfl rfl rfl (fun _ => r_fieldAt rfl (ev_t rfl) fld_44_1) ?_
                       first | refine WN.calm _ rfl rfl rfl rfl rfl (fun _ => r_field0 rfl (ev_t rfl) fld_44_2) ?_ | refine WN.calm _ rfl rfl rfl rfl rfl (fun _ => r_fieldAt rfl (ev_t rfl) fld_44_2) ?_
                       first | refine WN.held _ rfl rfl rfl rfl rfl hS12 (fun w' hS => r_load rfl (ev_t rfl) flat_2 (Blk.cell (hB1.upd hS (fun h => h)) rfl)) ?_ | refine WN.held _ rfl rfl rfl rfl rfl hS12 (fun w' hS => r_load rfl (ev_t rfl) flat_2 (Blk.cell (hB2.upd hS (fun h => h)) rfl)) ?_
                       refine WN.calm _ rfl rfl rfl rfl rfl (fun _ => r_indexAddr rfl (ev_t rfl) (ev_t rfl) elem_22 size_42 (by omega) (by omega)) ?_
                       first | refine WN.calm _ rfl rfl rfl rfl rfl (fun _ => r_field0 rfl (ev_t rfl) fld_42_0) ?_ | refine WN.calm _ rfl rfl rfl rfl rfl (fun _ => r_fieldAt rfl (ev_t rfl) fld_42_0) ?_
                       refine WN.held _ rfl rfl rfl rfl rfl hS12 (fun w' hS => r_load rfl (ev_t rfl) flat_3 (Rd.cell ((hV.upd hU (fun _ _ _ h => h)).upd hS (fun _ _ _ h => h)) (j := In_.toNat * 2) (by omega) (hcell 0 _ rfl))) ?_
                       first | refine WN.step _ rfl (SO.val rfl rfl rfl rfl (r_load rfl (ev_t rfl) flat_3 (Blk.cell hB1 rfl)) ?_) | refine WN.step _ rfl (SO.val rfl rfl rfl rfl (r_load rfl (ev_t rfl) flat_3 (Blk.cell hB2 rfl)) ?_)
                       refine ⟨hS12, ?_⟩
                       refine WN.calm _ rfl rfl rfl rfl rfl (fun _ => r_eql rfl (ev_t rfl) (ev_t rfl)) ?_
                       refine WN.calm _ rfl rfl rfl rfl rfl (fun _ => r_pickT rfl (ev_t rfl) (ev_t rfl)) ?_
                       refine WN.calm _ rfl rfl rfl rfl rfl (fun _ => r_move rfl (ev_t rfl)) ?_
                       refine WN.cases 78 rfl (fun hb12_21 => ?_) (fun hb12_21 => ?_)
                       · try (exfalso; first | (simp at hb12_21; done) | (simp only [decide_eq_true_eq, decide_eq_false_iff_not, Bool.not_eq_true', Bool.not_eq_false', Bool.not_eq_true, Bool.not_eq_false] at hb12_21; omega) | omega)
                         all_goals
                          try simp only [decide_eq_true_eq, decide_eq_false_iff_not, Bool.not_eq_true', Bool.not_eq_false', Bool.not_eq_true, Bool.not_eq_false, Option.isNone_none, Option.isNone_some, Option.isSome_none, Option.isSome_some, ne_eq, Decidable.not_not] at hb12_21
                          first | refine WN.calm _ rfl rfl rfl rfl rfl (fun _ => r_field0 rfl (ev_t rfl) fld_44_2) ?_ | refine WN.calm _ rfl rfl rfl rfl rfl (fun _ => r_fieldAt rfl (ev_t rfl) fld_44_2) ?_
                          refine WN.calm _ rfl rfl rfl rfl rfl (fun _ => r_move rfl (ev_t rfl)) ?_
                          first | refine WN.step _ rfl (SO.val rfl rfl rfl rfl (r_load rfl (ev_t rfl) flat_3 (Blk.cell hB1 rfl)) ?_) | refine WN.step _ rfl (SO.val rfl rfl rfl rfl (r_load rfl (ev_t rfl) flat_3 (Blk.cell hB2 rfl)) ?_)
                          refine ⟨trivial, ?_⟩
                          refine WN.calm _ rfl rfl rfl rfl rfl (fun _ => r_lss rfl (ev_t rfl) (ev_t rfl)) ?_
                          refine WN.calm _ rfl rfl rfl rfl rfl (fun _ => r_pickT rfl (ev_t rfl) (ev_t rfl)) ?_
                          refine WN.calm _ rfl rfl rfl rfl rfl (fun _ => r_assign rfl (ev_t rfl)) ?_
                          refine WN.done ?_
                          refine WX.keep [(12, _)] ⟨rfl, trivial⟩ ?_
                          refine WX.next ?_
                          refine WC.ret ?_
                          refine WX.blockRet ?_
                          refine WX.thenRet ?_
                          refine WX.retE1 rfl rfl ?_
                          refine ⟨⟨_, rfl, (fun _ => by omega), fun _ => ?_⟩, hU⟩
                          simp (disch := omega) only [if_pos, if_neg]
                          rw [Bool.eq_iff_iff]
                          first
                            | (rw [hxa]; simp only [Bool.and_eq_true, decide_eq_true_eq, Bool.false_eq_true, Option.some.injEq, false_iff]; omega)
                            | (simp only [Bool.and_eq_true, decide_eq_true_eq, Bool.false_eq_true, false_iff]; rintro ⟨⟨⟨a1, a2⟩, _⟩, a4⟩; omega)
                       · try (exfalso; first | (simp at hb12_21; done) | (simp only [decide_eq_true_eq, decide_eq_false_iff_not, Bool.not_eq_true', Bool.not_eq_false', Bool.not_eq_true, Bool.not_eq_false] at hb12_21; omega) | omega)
                         all_goals
                          try simp only [decide_eq_true_eq, decide_eq_false_iff_not, Bool.not_eq_true', Bool.not_eq_false', Bool.not_eq_true, Bool.not_eq_false, Option.isNone_none, Option.isNone_some, Option.isSome_none, Option.isSome_some, ne_eq, Decidable.not_not] at hb12_21
                          refine WN.skip _ rfl rfl rfl rfl ?_
                          refine WN.skip _ rfl rfl rfl rfl ?_
                          refine WN.step _ rfl (SO.skip rfl rfl rfl ?_)
                          refine ⟨trivial, ?_⟩
                          refine WN.skip _ rfl rfl rfl rfl ?_
                          refine WN.calm _ rfl rfl rfl rfl rfl (fun _ => r_pickF rfl (ev_t rfl) ev_c) ?_
                          refine WN.calm _ rfl rfl rfl rfl rfl (fun _ => r_assign rfl (ev_t rfl)) ?_
                          refine WN.done ?_
                          refine WX.keep [(12, _)] ⟨rfl, trivial⟩ ?_
                          refine WX.next ?_
                          refine WC.ret ?_
                          refine WX.blockRet ?_
                          refine WX.thenRet ?_
                          refine WX.retE1 rfl rfl ?_
                          refine ⟨⟨_, rfl, (fun _ => by omega), fun _ => ?_⟩, hU⟩
                          simp (disch := omega) only [if_pos, if_neg]
                          rw [Bool.eq_iff_iff]
                          first
                            | (rw [hxa]; simp only [Bool.and_eq_true, decide_eq_true_eq, Bool.false_eq_true, Option.some.injEq, false_iff]; omega)
                            | (simp only [Bool.and_eq_true, decide_eq_true_eq, Bool.false_eq_true, false_iff]; rintro ⟨⟨⟨a1, a2⟩, _⟩, a4⟩; omega)
                    · try (exfalso; first | (simp at hb12_10; done) | (simp only [decide_eq_true_eq, decide_eq_false_iff_not, Bool.not_eq_true', Bool.not_eq_false', Bool.not_eq_true, Bool.not_eq_false] at hb12_10; omega) | omega)
                      all_goals
                       try simp only [decide_eq_true_eq, decide_eq_false_iff_not, Bool.not_eq_true', Bool.not_eq_false', Bool.not_eq_true, Bool.not_eq_false, Option.isNone_none, Option.isNone_some, Option.isSome_none, Option.isSome_some, ne_eq, Decidable.not_not] at hb12_10
                       refine WN.skip _ rfl rfl rfl rfl ?_
                       refine WN.skip _ rfl rfl rfl rfl ?_
                       refine WN.skip _ rfl rfl rfl rfl ?_
                       refine WN.heldSkip _ rfl rfl rfl rfl hS12 ?_
                       refine WN.skip _ rfl rfl rfl rfl ?_
                       refine WN.skip _ rfl rfl rfl rfl ?_
                       refine WN.heldSkip _ rfl rfl rfl rfl hS12 ?_
                       refine WN.step _ rfl (SO.skip rfl rfl rfl ?_)
                       refine ⟨hS12, ?_⟩
                       refine WN.skip _ rfl rfl rfl rfl ?_
                       refine WN.calm _ rfl rfl rfl rfl rfl (fun _ => r_pickF rfl (ev_t rfl) ev_c) ?_
                       refine WN.calm _ rfl rfl rfl rfl rfl (fun _ => r_move rfl (ev_t rfl)) ?_
                       refine WN.skip _ rfl rfl rfl rfl ?_
                       refine WN.skip _ rfl rfl rfl rfl ?_
                       refine WN.step _ rfl (SO.skip rfl rfl rfl ?_)
                       refine ⟨trivial, ?_⟩
                       refine WN.skip _ rfl rfl rfl rfl ?_
                       refine WN.calm _ rfl rfl rfl rfl rfl (fun _ => r_pickF rfl (ev_t rfl) ev_c) ?_
                       refine WN.calm _ rfl rfl rfl rfl rfl (fun _ => r_assign rfl (ev_t rfl)) ?_
                       refine WN.done ?_
                       refine WX.keep [(12, _)] ⟨rfl, trivial⟩ ?_
                       refine WX.next ?_
                       refine WC.ret ?_
                       refine WX.blockRet ?_
                       refine WX.thenRet ?_
                       refine WX.retE1 rfl rfl ?_
                       refine ⟨⟨_, rfl, (fun _ => by omega), fun _ => ?_⟩, hU⟩
                       simp (disch := omega) only [if_pos, if_neg]
                       rw [Bool.eq_iff_iff]
                       first
                         | (rw [hxa]; simp only [Bool.and_eq_true, decide_eq_true_eq, Bool.false_eq_true, Option.some.injEq, false_iff]; omega)
                         | (simp only [Bool.and_eq_true, decide_eq_true_eq, Bool.false_eq_true, false_iff]; rintro ⟨⟨⟨a1, a2⟩, _⟩, a4⟩; omega)
                 · try (exfalso; first | (simp at hb12_3; done) | (simp only [decide_eq_true_eq, decide_eq_false_iff_not, Bool.not_eq_true', Bool.not_eq_false', Bool.not_eq_true, Bool.not_eq_false] at hb12_3; omega) | omega)
                   all_goals
                    try simp only [decide_eq_true_eq, decide_eq_false_iff_not, Bool.not_eq_true', Bool.not_eq_false', Bool.not_eq_true, Bool.not_eq_false, Option.isNone_none, Option.isNone_some, Option.isSome_none, Option.isSome_some, ne_eq, Decidable.not_not] at hb12_3
                    refine WN.skip _ rfl rfl rfl rfl ?_
                    refine WN.skip _ rfl rfl rfl rfl ?_
                    refine WN.skip _ rfl rfl rfl rfl ?_
                    refine WN.step _ rfl (SO.skip rfl rfl rfl ?_)
                    refine ⟨hS12, ?_⟩
                    refine WN.skip _ rfl rfl rfl rfl ?_
                    refine WN.calm _ rfl rfl rfl rfl rfl (fun _ => r_pickF rfl (ev_t rfl) ev_c) ?_
                    refine WN.calm _ rfl rfl rfl rfl rfl (fun _ => r_move rfl (ev_t rfl)) ?_
                    refine WN.skip _ rfl rfl rfl rfl ?_
                    refine WN.skip _ rfl rfl rfl rfl ?_
                    refine WN.skip _ rfl rfl rfl rfl ?_
                    refine WN.heldSkip _ rfl rfl rfl rfl hS12 ?_
                    refine WN.skip _ rfl rfl rfl rfl ?_
                    refine WN.skip _ rfl rfl rfl rfl ?_
                    refine WN.heldSkip _ rfl rfl rfl rfl hS12 ?_
                    refine WN.step _ rfl (SO.skip rfl rfl rfl ?_)
                    refine ⟨hS12, ?_⟩
                    refine WN.skip _ rfl rfl rfl rfl ?_
                    refine WN.calm _ rfl rfl rfl rfl rfl (fun _ => r_pickF rfl (ev_t rfl) ev_c) ?_
                    refine WN.calm _ rfl rfl rfl rfl rfl (fun _ => r_move rfl (ev_t rfl)) ?_
                    refine WN.skip _ rfl rfl rfl rfl ?_
                    refine WN.skip _ rfl rfl rfl rfl ?_
                    refine WN.step _ rfl (SO.skip rfl rfl rfl ?_)
                    refine ⟨trivial, ?_⟩
                    refine WN.skip _ rfl rfl rfl rfl ?_
                    refine WN.calm _ rfl rfl rfl rfl rfl (fun _ => r_pickF rfl (ev_t rfl) ev_c) ?_
                    refine WN.calm _ rfl rfl rfl rfl rfl (fun _ => r_assign rfl (ev_t rfl)) ?_
                    refine WN.done ?_
                    refine WX.keep [(12, _)] ⟨rfl, trivial⟩ ?_
                    refine WX.next ?_
                    refine WC.ret ?_
                    refine WX.blockRet ?_
                    refine WX.thenRet ?_
                    refine WX.retE1 rfl rfl ?_
                    refine ⟨⟨_, rfl, (fun _ => by omega), fun _ => ?_⟩, hU⟩
                    simp (disch := omega) only [if_pos, if_neg]
                    rw [Bool.eq_iff_iff]
                    first
                      | (rw [hxa]; simp only [Bool.and_eq_true, decide_eq_true_eq, Bool.false_eq_true, Option.some.injEq, false_iff]; omega)
                      | (simp only [Bool.and_eq_true, decide_eq_true_eq, Bool.false_eq_true, false_iff]; rintro ⟨⟨⟨a1, a2⟩, _⟩, a4⟩; omega)
              · try (exfalso; first | (simp at hc11; done) | (simp only [decide_eq_true_eq, decide_eq_false_iff_not, Bool.not_eq_true', Bool.not_eq_false', Bool.not_eq_true, Bool.not_eq_false] at hc11; omega) | omega)
                all_goals
                 try simp only [decide_eq_true_eq, decide_eq_false_iff_not, Bool.not_eq_true', Bool.not_eq_false', Bool.not_eq_true, Bool.not_eq_false, Option.isNone_none, Option.isNone_some, Option.isSome_none, Option.isSome_some, ne_eq, Decidable.not_not] at hc11
                 refine WC.seq ?_
                 refine WC.region ?_
                 refine WL.val rfl rfl rfl rfl (r_eql rfl (ev_t rfl) ev_c) ?_
                 refine WL.val rfl rfl rfl rfl (r_assign rfl (ev_t rfl)) ?_
                 refine WL.nil ?_
                 refine WX.keep [(2, _), (3, _), (7, _), (13, _), (20, _), (84, _)] ⟨rfl, rfl, rfl, rfl, rfl, rfl, trivial⟩ ?_
                 refine WX.next ?_
                 refine WC.cond rfl (ev_t rfl) (fun hc13 => ?_) (fun hc13 => ?_)
                 · try (exfalso; first | (simp at hc13; done) | (simp only [decide_eq_true_eq, decide_eq_false_iff_not, Bool.not_eq_true', Bool.not_eq_false', Bool.not_eq_true, Bool.not_eq_false] at hc13; omega) | omega)
                   all_goals
                    try simp only [decide_eq_true_eq, decide_eq_false_iff_not, Bool.not_eq_true', Bool.not_eq_false', Bool.not_eq_true, Bool.not_eq_false, Option.isNone_none, Option.isNone_some, Option.isSome_none, Option.isSome_some, ne_eq, Decidable.not_not] at hc13
                    refine WC.seq ?_
                    refine WC.region ?_
                    first | refine WL.val rfl rfl rfl rfl (r_field0 rfl (ev_t rfl) fld_44_1) ?_ | refine WL.val rfl rfl rfl rfl (r_fieldAt rfl (ev_t rfl) fld_44_1) ?_
                    first | refine WL.val rfl rfl rfl rfl (r_load rfl (ev_t rfl) flat_2 (Blk.cell hB1 rfl)) ?_ | refine WL.val rfl rfl rfl rfl (r_load rfl (ev_t rfl) flat_2 (Blk.cell hB2 rfl)) ?_
                    refine WL.val rfl rfl rfl rfl (r_geq rfl (ev_t rfl) ev_c) ?_
                    refine WL.val rfl rfl rfl rfl (r_move rfl (ev_t rfl)) ?_
                    refine WL.cases 89 rfl (fun hb14_3 => ?_) (fun hb14_3 => ?_)
                    · try (exfalso; first | (simp at hb14_3; done) | (simp only [decide_eq_true_eq, decide_eq_false_iff_not, Bool.not_eq_true', Bool.not_eq_false', Bool.not_eq_true, Bool.not_eq_false] at hb14_3; omega) | omega)
                      all_goals
                       try simp only [decide_eq_true_eq, decide_eq_false_iff_not, Bool.not_eq_true', Bool.not_eq_false', Bool.not_eq_true, Bool.not_eq_false, Option.isNone_none, Option.isNone_some, Option.isSome_none, Option.isSome_some, ne_eq, Decidable.not_not] at hb14_3
                       first | refine WL.val rfl rfl rfl rfl (r_field0 rfl (ev_t rfl) fld_44_1) ?_ | refine WL.val rfl rfl rfl rfl (r_fieldAt rfl (ev_t rfl) fld_44_1) ?_
                       first | refine WL.val rfl rfl rfl rfl (r_load rfl (ev_t rfl) flat_2 (Blk.cell hB1 rfl)) ?_ | refine WL.val rfl rfl rfl rfl (r_load rfl (ev_t rfl) flat_2 (Blk.cell hB2 rfl)) ?_
                       refine WL.val rfl rfl rfl rfl (r_move rfl (ev_t rfl)) ?_
                       refine WL.val rfl rfl rfl rfl (r_lss rfl (ev_t rfl) (ev_t rfl)) ?_
                       refine WL.val rfl rfl rfl rfl (r_pickT rfl (ev_t rfl) (ev_t rfl)) ?_
                       refine WL.val rfl rfl rfl rfl (r_move rfl (ev_t rfl)) ?_
                       refine WL.cases 95 rfl (fun hb14_9 => ?_) (fun hb14_9 => ?_)
                       · try (exfalso; first | (simp at hb14_9; done) | (simp only [decide_eq_true_eq, decide_eq_false_iff_not, Bool.not_eq_true', Bool.not_eq_false', Bool.not_eq_true, Bool.not_eq_false] at hb14_9; omega) | omega)
                         all_goals
                          try simp only [decide_eq_true_eq, decide_eq_false_iff_not, Bool.not_eq_true', Bool.not_eq_false', Bool.not_eq_true, Bool.not_eq_false, Option.isNone_none, Option.isNone_some, Option.isSome_none, Option.isSome_some, ne_eq, Decidable.not_not] at hb14_9
                          first | refine WL.val rfl rfl rfl rfl (r_field0 rfl (ev_t rfl) fld_44_1) ?_ | refine WL.val rfl rfl rfl rfl (r_fieldAt rfl (ev_t rfl) fld_44_1) ?_
                          first | refine WL.val rfl rfl rfl rfl (r_load rfl (ev_t rfl) flat_2 (Blk.cell hB1 rfl)) ?_ | refine WL.val rfl rfl rfl rfl (r_load rfl (ev_t rfl) flat_2 (Blk.cell hB2 rfl)) ?_
                          refine WL.val rfl rfl rfl rfl (r_leq rfl (ev_t rfl) ev_c) ?_
                          refine WL.val rfl rfl rfl rfl (r_pickT rfl (ev_t rfl) (ev_t rfl)) ?_
                          refine WL.val rfl rfl rfl rfl (r_assign rfl (ev_t rfl)) ?_
                          refine WL.nil ?_
                          refine WX.keep [(12, _)] ⟨rfl, trivial⟩ ?_
                          refine WX.next ?_
                          refine WC.ret ?_
                          refine WX.blockRet ?_
                          refine WX.thenRet ?_
                          refine WX.retE1 rfl rfl ?_
                          refine ⟨⟨_, rfl, (fun _ => by omega), fun _ => ?_⟩, hU⟩
                          simp (disch := omega) only [if_pos, if_neg]
                          try rw [Bool.eq_iff_iff]
                          try rw [wrap_i64_in (by omega) (by omega)]
                          try simp only [Bool.and_eq_true, decide_eq_true_eq, Bool.false_eq_true, false_iff]
                          try omega
                       · try (exfalso; first | (simp at hb14_9; done) | (simp only [decide_eq_true_eq, decide_eq_false_iff_not, Bool.not_eq_true', Bool.not_eq_false', Bool.not_eq_true, Bool.not_eq_false] at hb14_9; omega) | omega)
                         all_goals
                          try simp only [decide_eq_true_eq, decide_eq_false_iff_not, Bool.not_eq_true', Bool.not_eq_false', Bool.not_eq_true, Bool.not_eq_false, Option.isNone_none, Option.isNone_some, Option.isSome_none, Option.isSome_some, ne_eq, Decidable.not_not] at hb14_9
                          refine WL.skip rfl rfl rfl ?_
                          refine WL.skip rfl rfl rfl ?_
                          refine WL.skip rfl rfl rfl ?_
                          refine WL.val rfl rfl rfl rfl (r_pickF rfl (ev_t rfl) ev_c) ?_
                          refine WL.val rfl rfl rfl rfl (r_assign rfl (ev_t rfl)) ?_
                          refine WL.nil ?_
                          refine WX.keep [(12, _)] ⟨rfl, trivial⟩ ?_
                          refine WX.next ?_
                          refine WC.ret ?_
                          refine WX.blockRet ?_
                          refine WX.thenRet ?_
                          refine WX.retE1 rfl rfl ?_
                          refine ⟨⟨_, rfl, (fun _ => by omega), fun _ => ?_⟩, hU⟩
                          simp (disch := omega) only [if_pos, if_neg]
                          try rw [Bool.eq_iff_iff]
                          try rw [wrap_i64_in (by omega) (by omega)]
                          try simp only [Bool.and_eq_true, decide_eq_true_eq, Bool.false_eq_true, false_iff]
                          try omega
                    · try (exfalso; first | (simp at hb14_3; done) | (simp only [decide_eq_true_eq, decide_eq_false_iff_not, Bool.not_eq_true', Bool.not_eq_false', Bool.not_eq_true, Bool.not_eq_false] at hb14_3; omega) | omega)
                      all_goals
                       try simp only [decide_eq_true_eq, decide_eq_false_iff_not, Bool.not_eq_true', Bool.not_eq_false', Bool.not_eq_true, Bool.not_eq_false, Option.isNone_none, Option.isNone_some, Option.isSome_none, Option.isSome_some, ne_eq, Decidable.not_not] at hb14_3
                       refine WL.skip rfl rfl rfl ?_
                       refine WL.skip rfl rfl rfl ?_
                       refine WL.skip rfl rfl rfl ?_
                       refine WL.skip rfl rfl rfl ?_
                       refine WL.val rfl rfl rfl rfl (r_pickF rfl (ev_t rfl) ev_c) ?_
                       refine WL.val rfl rfl rfl rfl (r_move rfl (ev_t rfl)) ?_
                       refine WL.skip rfl rfl rfl ?_
                       refine WL.skip rfl rfl rfl ?_
                       refine WL.skip rfl rfl rfl ?_
                       refine WL.val rfl rfl rfl rfl (r_pickF rfl (ev_t rfl) ev_c) ?_
                       refine WL.val rfl rfl rfl rfl (r_assign rfl (ev_t rfl)) ?_
                       refine WL.nil ?_
                       refine WX.keep [(12, _)] ⟨rfl, trivial⟩ ?_
                       refine WX.next ?_
                       refine WC.ret ?_
                       refine WX.blockRet ?_
                       refine WX.thenRet ?_
                       refine WX.retE1 rfl rfl ?_
                       refine ⟨⟨_, rfl, (fun _ => by omega), fun _ => ?_⟩, hU⟩
                       simp (disch := omega) only [if_pos, if_neg]
                       try rw [Bool.eq_iff_iff]
                       try rw [wrap_i64_in (by omega) (by omega)]
                       try simp only [Bool.and_eq_true, decide_eq_true_eq, Bool.false_eq_true, false_iff]
                       try omega
                 · try (exfalso; first | (simp at hc13; done) | (simp only [decide_eq_true_eq, decide_eq_false_iff_not, Bool.not_eq_true', Bool.not_eq_false', Bool.not_eq_true, Bool.not_eq_false] at hc13; omega) | omega)
                   all_goals
                    try simp only [decide_eq_true_eq, decide_eq_false_iff_not, Bool.not_eq_true', Bool.not_eq_false', Bool.not_eq_true, Bool.not_eq_false, Option.isNone_none, Option.isNone_some, Option.isSome_none, Option.isSome_some, ne_eq, Decidable.not_not] at hc13
                    refine WC.seq ?_
                    refine WC.region ?_
                    refine WL.val rfl rfl rfl rfl (r_eql rfl (ev_t rfl) ev_c) ?_
                    refine WL.val rfl rfl rfl rfl (r_assign rfl (ev_t rfl)) ?_
                    refine WL.nil ?_
                    refine WX.keep [(2, _), (3, _), (7, _), (13, _), (20, _), (100, _)] ⟨rfl, rfl, rfl, rfl, rfl, rfl, trivial⟩ ?_
                    refine WX.next ?_
                    refine WC.cond rfl (ev_t rfl) (fun hc15 => ?_) (fun hc15 => ?_)
                    · try (exfalso; first | (simp at hc15; done) | (simp only [decide_eq_true_eq, decide_eq_false_iff_not, Bool.not_eq_true', Bool.not_eq_false', Bool.not_eq_true, Bool.not_eq_false] at hc15; omega) | omega)
                      all_goals
                       try simp only [decide_eq_true_eq, decide_eq_false_iff_not, Bool.not_eq_true', Bool.not_eq_false', Bool.not_eq_true, Bool.not_eq_false, Option.isNone_none, Option.isNone_some, Option.isSome_none, Option.isSome_some, ne_eq, Decidable.not_not] at hc15
                       refine WC.seq ?_
                       refine WC.region ?_
                       first | refine WL.val rfl rfl rfl rfl (r_field0 rfl (ev_t rfl) fld_44_1) ?_ | refine WL.val rfl rfl rfl rfl (r_fieldAt rfl (ev_t rfl) fld_44_1) ?_
                       first | refine WL.val rfl rfl rfl rfl (r_load rfl (ev_t rfl) flat_2 (Blk.cell hB1 rfl)) ?_ | refine WL.val rfl rfl rfl rfl (r_load rfl (ev_t rfl) flat_2 (Blk.cell hB2 rfl)) ?_
                       refine WL.val rfl rfl rfl rfl (r_geq rfl (ev_t rfl) ev_c) ?_
                       refine WL.val rfl rfl rfl rfl (r_move rfl (ev_t rfl)) ?_
                       refine WL.cases 105 rfl (fun hb16_3 => ?_) (fun hb16_3 => ?_)
                       · try (exfalso; first | (simp at hb16_3; done) | (simp only [decide_eq_true_eq, decide_eq_false_iff_not, Bool.not_eq_true', Bool.not_eq_false', Bool.not_eq_true, Bool.not_eq_false] at hb16_3; omega) | omega)
                         all_goals
                          try simp only [decide_eq_true_eq, decide_eq_false_iff_not, Bool.not_eq_true', Bool.not_eq_false', Bool.not_eq_true, Bool.not_eq_false, Option.isNone_none, Option.isNone_some, Option.isSome_none, Option.isSome_some, ne_eq, Decidable.not_not] at hb16_3
                          first | refine WL.val rfl rfl rfl rfl (r_field0 rfl (ev_t rfl) fld_44_1) ?_ | refine WL.val rfl rfl rfl rfl (r_fieldAt rfl (ev_t rfl) fld_44_1) ?_
                          first | refine WL.val rfl rfl rfl rfl (r_load rfl (ev_t rfl) flat_2 (Blk.cell hB1 rfl)) ?_ | refine WL.val rfl rfl rfl rfl (r_load rfl (ev_t rfl) flat_2 (Blk.cell hB2 rfl)) ?_
                          refine WL.val rfl rfl rfl rfl (r_move rfl (ev_t rfl)) ?_
                          first | refine WL.val rfl rfl rfl rfl (r_subN rfl (ev_t rfl) ev_c (by simp only [inK]; omega)) ?_ | refine WL.val rfl rfl rfl rfl (r_sub rfl (ev_t rfl) ev_c) ?_
                          refine WL.val rfl rfl rfl rfl (r_lss rfl (ev_t rfl) (ev_t rfl)) ?_
                          refine WL.val rfl rfl rfl rfl (r_pickT rfl (ev_t rfl) (ev_t rfl)) ?_
                          refine WL.val rfl rfl rfl rfl (r_assign rfl (ev_t rfl)) ?_
                          refine WL.nil ?_
                          refine WX.keep [(12, _)] ⟨rfl, trivial⟩ ?_
                          refine WX.next ?_
                          refine WC.ret ?_
                          refine WX.blockRet ?_
                          refine WX.thenRet ?_
                          refine WX.retE1 rfl rfl ?_
                          refine ⟨⟨_, rfl, (fun _ => by omega), fun _ => ?_⟩, hU⟩
                          simp (disch := omega) only [if_pos, if_neg]
                          try rw [Bool.eq_iff_iff]
                          try rw [wrap_i64_in (by omega) (by omega)]
                          try simp only [Bool.and_eq_true, decide_eq_true_eq, Bool.false_eq_true, false_iff]
                          try omega
                       · try (exfalso; first | (simp at hb16_3; done) | (simp only [decide_eq_true_eq, decide_eq_false_iff_not, Bool.not_eq_true', Bool.not_eq_false', Bool.not_eq_true, Bool.not_eq_false] at hb16_3; omega) | omega)
                         all_goals
                          try simp only [decide_eq_true_eq, decide_eq_false_iff_not, Bool.not_eq_true', Bool.not_eq_false', Bool.not_eq_true, Bool.not_eq_false, Option.isNone_none, Option.isNone_some, Option.isSome_none, Option.isSome_some, ne_eq, Decidable.not_not] at hb16_3
                          refine WL.skip rfl rfl rfl ?_
                          refine WL.skip rfl rfl rfl ?_
                          refine WL.skip rfl rfl rfl ?_
                          refine WL.skip rfl rfl rfl ?_
                          refine WL.skip rfl rfl rfl ?_
                          refine WL.val rfl rfl rfl rfl (r_pickF rfl (ev_t rfl) ev_c) ?_
                          refine WL.val rfl rfl rfl rfl (r_assign rfl (ev_t rfl)) ?_
                          refine WL.nil ?_
                          refine WX.keep [(12, _)] ⟨rfl, trivial⟩ ?_
                          refine WX.next ?_
                          refine WC.ret ?_
                          refine WX.blockRet ?_
                          refine WX.thenRet ?_
                          refine WX.retE1 rfl rfl ?_
                          refine ⟨⟨_, rfl, (fun _ => by omega), fun _ => ?_⟩, hU⟩
                          simp (disch := omega) only [if_pos, if_neg]
                          try rw [Bool.eq_iff_iff]
                          try rw [wrap_i64_in (by omega) (by omega)]
                          try simp only [Bool.and_eq_true, decide_eq_true_eq, Bool.false_eq_true, false_iff]
                          try omega
                    · try (exfalso; first | (simp at hc15; done) | (simp only [decide_eq_true_eq, decide_eq_false_iff_not, Bool.not_eq_true', Bool.not_eq_false', Bool.not_eq_true, Bool.not_eq_false] at hc15; omega) | omega)
                      all_goals
                       try simp only [decide_eq_true_eq, decide_eq_false_iff_not, Bool.not_eq_true', Bool.not_eq_false', Bool.not_eq_true, Bool.not_eq_false, Option.isNone_none, Option.isNone_some, Option.isSome_none, Option.isSome_some, ne_eq, Decidable.not_not] at hc15
                       refine WC.seq ?_
                       refine WC.region ?_
                       refine WL.val rfl rfl rfl rfl (r_eql rfl (ev_t rfl) ev_c) ?_
                       refine WL.val rfl rfl rfl rfl (r_assign rfl (ev_t rfl)) ?_
                       refine WL.nil ?_
                       refine WX.keep [(2, _), (3, _), (7, _), (20, _), (112, _)] ⟨rfl, rfl, rfl, rfl, rfl, trivial⟩ ?_
                       refine WX.next ?_
                       refine WC.cond rfl (ev_t rfl) (fun hc17 => ?_) (fun hc17 => ?_)
                       · try (exfalso; first | (simp at hc17; done) | (simp only [decide_eq_true_eq, decide_eq_false_iff_not, Bool.not_eq_true', Bool.not_eq_false', Bool.not_eq_true, Bool.not_eq_false] at hc17; omega) | omega)
                         all_goals
                          try simp only [decide_eq_true_eq, decide_eq_false_iff_not, Bool.not_eq_true', Bool.not_eq_false', Bool.not_eq_true, Bool.not_eq_false, Option.isNone_none, Option.isNone_some, Option.isSome_none, Option.isSome_some, ne_eq, Decidable.not_not] at hc17
                          refine WC.seq ?_
                          refine WC.region ?_
                          first | refine WL.val rfl rfl rfl rfl (r_field0 rfl (ev_t rfl) fld_44_1) ?_ | refine WL.val rfl rfl rfl rfl (r_fieldAt rfl (ev_t rfl) fld_44_1) ?_
                          first | refine WL.val rfl rfl rfl rfl (r_load rfl (ev_t rfl) flat_2 (Blk.cell hB1 rfl)) ?_ | refine WL.val rfl rfl rfl rfl (r_load rfl (ev_t rfl) flat_2 (Blk.cell hB2 rfl)) ?_
                          refine WL.val rfl rfl rfl rfl (r_geq rfl (ev_t rfl) ev_c) ?_
                          refine WL.val rfl rfl rfl rfl (r_move rfl (ev_t rfl)) ?_
                          refine WL.cases 117 rfl (fun hb18_3 => ?_) (fun hb18_3 => ?_)
                          · try (exfalso; first | (simp at hb18_3; done) | (simp only [decide_eq_true_eq, decide_eq_false_iff_not, Bool.not_eq_true', Bool.not_eq_false', Bool.not_eq_true, Bool.not_eq_false] at hb18_3; omega) | omega)
                            all_goals
                             try simp only [decide_eq_true_eq, decide_eq_false_iff_not, Bool.not_eq_true', Bool.not_eq_false', Bool.not_eq_true, Bool.not_eq_false, Option.isNone_none, Option.isNone_some, Option.isSome_none, Option.isSome_some, ne_eq, Decidable.not_not] at hb18_3
                             first | refine WL.val rfl rfl rfl rfl (r_field0 rfl (ev_t rfl) fld_44_1) ?_ | refine WL.val rfl rfl rfl rfl (r_fieldAt rfl (ev_t rfl) fld_44_1) ?_
                             first | refine WL.val rfl rfl rfl rfl (r_load rfl (ev_t rfl) flat_2 (Blk.cell hB1 rfl)) ?_ | refine WL.val rfl rfl rfl rfl (r_load rfl (ev_t rfl) flat_2 (Blk.cell hB2 rfl)) ?_
                             refine WL.val rfl rfl rfl rfl (r_leq rfl (ev_t rfl) ev_c) ?_
                             refine WL.val rfl rfl rfl rfl (r_pickT rfl (ev_t rfl) (ev_t rfl)) ?_
                             refine WL.val rfl rfl rfl rfl (r_move rfl (ev_t rfl)) ?_
                             refine WL.cases 122 rfl (fun hb18_8 => ?_) (fun hb18_8 => ?_)
                             · try (exfalso; first | (simp at hb18_8; done) | (simp only [decide_eq_true_eq, decide_eq_false_iff_not, Bool.not_eq_true', Bool.not_eq_false', Bool.not_eq_true, Bool.not_eq_false] at hb18_8; omega) | omega)
                               all_goals
                                try simp only [decide_eq_true_eq, decide_eq_false_iff_not, Bool.not_eq_true', Bool.not_eq_false', Bool.not_eq_true, Bool.not_eq_false, Option.isNone_none, Option.isNone_some, Option.isSome_none, Option.isSome_some, ne_eq, Decidable.not_not] at hb18_8
                                refine WL.val rfl rfl rfl rfl (r_move rfl (ev_t rfl)) ?_
                                refine WL.val rfl rfl rfl rfl (r_gtr rfl (ev_t rfl) ev_c) ?_
                                refine WL.val rfl rfl rfl rfl (r_pickT rfl (ev_t rfl) (ev_t rfl)) ?_
                                refine WL.val rfl rfl rfl rfl (r_assign rfl (ev_t rfl)) ?_
                                refine WL.nil ?_
                                refine WX.keep [(12, _)] ⟨rfl, trivial⟩ ?_
                                refine WX.next ?_
                                refine WC.ret ?_
                                refine WX.blockRet ?_
                                refine WX.thenRet ?_
                                refine WX.retE1 rfl rfl ?_
                                refine ⟨⟨_, rfl, (fun _ => by omega), fun _ => ?_⟩, hU⟩
                                simp (disch := omega) only [if_pos, if_neg]
                                try rw [Bool.eq_iff_iff]
                                try rw [wrap_i64_in (by omega) (by omega)]
                                try simp only [Bool.and_eq_true, decide_eq_true_eq, Bool.false_eq_true, false_iff]
                                try omega
                             · try (exfalso; first | (simp at hb18_8; done) | (simp only [decide_eq_true_eq, decide_eq_false_iff_not, Bool.not_eq_true', Bool.not_eq_false', Bool.not_eq_true, Bool.not_eq_false] at hb18_8; omega) | omega)
                               all_goals
                                try simp only [decide_eq_true_eq, decide_eq_false_iff_not, Bool.not_eq_true', Bool.not_eq_false', Bool.not_eq_true, Bool.not_eq_false, Option.isNone_none, Option.isNone_some, Option.isSome_none, Option.isSome_some, ne_eq, Decidable.not_not] at hb18_8
                                refine WL.skip rfl rfl rfl ?_
                                refine WL.skip rfl rfl rfl ?_
                                refine WL.val rfl rfl rfl rfl (r_pickF rfl (ev_t rfl) ev_c) ?_
                                refine WL.val rfl rfl rfl rfl (r_assign rfl (ev_t rfl)) ?_
                                refine WL.nil ?_
                                refine WX.keep [(12, _)] ⟨rfl, trivial⟩ ?_
                                refine WX.next ?_
                                refine WC.ret ?_
                                refine WX.blockRet ?_
                                refine WX.thenRet ?_
                                refine WX.retE1 rfl rfl ?_
                                refine ⟨⟨_, rfl, (fun _ => by omega), fun _ => ?_⟩, hU⟩
                                simp (disch := omega) only [if_pos, if_neg]
                                try rw [Bool.eq_iff_iff]
                                try rw [wrap_i64_in (by omega) (by omega)]
                                try simp only [Bool.and_eq_true, decide_eq_true_eq, Bool.false_eq_true, false_iff]
                                try omega
                          · try (exfalso; first | (simp at hb18_3; done) | (simp only [decide_eq_true_eq, decide_eq_false_iff_not, Bool.not_eq_true', Bool.not_eq_false', Bool.not_eq_true, Bool.not_eq_false] at hb18_3; omega) | omega)
                            all_goals
                             try simp only [decide_eq_true_eq, decide_eq_false_iff_not, Bool.not_eq_true', Bool.not_eq_false', Bool.not_eq_true, Bool.not_eq_false, Option.isNone_none, Option.isNone_some, Option.isSome_none, Option.isSome_some, ne_eq, Decidable.not_not] at hb18_3
                             refine WL.skip rfl rfl rfl ?_
                             refine WL.skip rfl rfl rfl ?_
                             refine WL.skip rfl rfl rfl ?_
                             refine WL.val rfl rfl rfl rfl (r_pickF rfl (ev_t rfl) ev_c) ?_
                             refine WL.val rfl rfl rfl rfl (r_move rfl (ev_t rfl)) ?_
                             refine WL.skip rfl rfl rfl ?_
                             refine WL.skip rfl rfl rfl ?_
                             refine WL.val rfl rfl rfl rfl (r_pickF rfl (ev_t rfl) ev_c) ?_
                             refine WL.val rfl rfl rfl rfl (r_assign rfl (ev_t rfl)) ?_
                             refine WL.nil ?_
                             refine WX.keep [(12, _)] ⟨rfl, trivial⟩ ?_
                             refine WX.next ?_
                             refine WC.ret ?_
                             refine WX.blockRet ?_
                             refine WX.thenRet ?_
                             refine WX.retE1 rfl rfl ?_
                             refine ⟨⟨_, rfl, (fun _ => by omega), fun _ => ?_⟩, hU⟩
                             simp (disch := omega) only [if_pos, if_neg]
                             try rw [Bool.eq_iff_iff]
                             try rw [wrap_i64_in (by omega) (by omega)]
                             try simp only [Bool.and_eq_true, decide_eq_true_eq, Bool.false_eq_true, false_iff]
                             try omega
                       · try (exfalso; first | (simp at hc17; done) | (simp only [decide_eq_true_eq, decide_eq_false_iff_not, Bool.not_eq_true', Bool.not_eq_false', Bool.not_eq_true, Bool.not_eq_false] at hc17; omega) | omega)
                         all_goals
                          try simp only [decide_eq_true_eq, decide_eq_false_iff_not, Bool.not_eq_true', Bool.not_eq_false', Bool.not_eq_true, Bool.not_eq_false, Option.isNone_none, Option.isNone_some, Option.isSome_none, Option.isSome_some, ne_eq, Decidable.not_not] at hc17
                          refine WC.seq ?_
                          refine WC.region ?_
                          refine WL.val rfl rfl rfl rfl (r_eql rfl (ev_t rfl) ev_c) ?_
                          refine WL.val rfl rfl rfl rfl (r_assign rfl (ev_t rfl)) ?_
                          refine WL.nil ?_
                          refine WX.keep [(2, _), (3, _), (7, _), (20, _), (126, _)] ⟨rfl, rfl, rfl, rfl, rfl, trivial⟩ ?_
                          refine WX.next ?_
                          refine WC.cond rfl (ev_t rfl) (fun hc19 => ?_) (fun hc19 => ?_)
                          · try (exfalso; first | (simp at hc19; done) | (simp only [decide_eq_true_eq, decide_eq_false_iff_not, Bool.not_eq_true', Bool.not_eq_false', Bool.not_eq_true, Bool.not_eq_false] at hc19; omega) | omega)
                            all_goals
                             try simp only [decide_eq_true_eq, decide_eq_false_iff_not, Bool.not_eq_true', Bool.not_eq_false', Bool.not_eq_true, Bool.not_eq_false, Option.isNone_none, Option.isNone_some, Option.isSome_none, Option.isSome_some, ne_eq, Decidable.not_not] at hc19
                             refine WC.seq ?_
                             refine WC.region ?_
                             refine WL.val rfl rfl rfl rfl (r_move rfl (ev_t rfl)) ?_
                             refine WL.val rfl rfl rfl rfl (r_gtr rfl (ev_t rfl) ev_c) ?_
                             refine WL.val rfl rfl rfl rfl (r_assign rfl (ev_t rfl)) ?_
                             refine WL.nil ?_
                             refine WX.keep [(12, _)] ⟨rfl, trivial⟩ ?_
                             refine WX.next ?_
                             refine WC.ret ?_
                             refine WX.blockRet ?_
                             refine WX.thenRet ?_
                             refine WX.retE1 rfl rfl ?_
                             refine ⟨⟨_, rfl, (fun _ => by omega), fun _ => ?_⟩, hU⟩
                             simp (disch := omega) only [if_pos, if_neg]
                             try rw [Bool.eq_iff_iff]
                             try rw [wrap_i64_in (by omega) (by omega)]
                             try simp only [Bool.and_eq_true, decide_eq_true_eq, Bool.false_eq_true, false_iff]
                             try omega
                          · try (exfalso; first | (simp at hc19; done) | (simp only [decide_eq_true_eq, decide_eq_false_iff_not, Bool.not_eq_true', Bool.not_eq_false', Bool.not_eq_true, Bool.not_eq_false] at hc19; omega) | omega)
                            all_goals
                             try simp only [decide_eq_true_eq, decide_eq_false_iff_not, Bool.not_eq_true', Bool.not_eq_false', Bool.not_eq_true, Bool.not_eq_false, Option.isNone_none, Option.isNone_some, Option.isSome_none, Option.isSome_some, ne_eq, Decidable.not_not] at hc19
                             refine WC.seq ?_
                             refine WC.region ?_
                             refine WL.val rfl rfl rfl rfl (r_eql rfl (ev_t rfl) ev_c) ?_
                             refine WL.val rfl rfl rfl rfl (r_assign rfl (ev_t rfl)) ?_
                             refine WL.nil ?_
                             refine WX.keep [(2, _), (3, _), (7, _), (20, _), (130, _)] ⟨rfl, rfl, rfl, rfl, rfl, trivial⟩ ?_
                             refine WX.next ?_
                             refine WC.cond rfl (ev_t rfl) (fun hc21 => ?_) (fun hc21 => ?_)
                             · try (exfalso; first | (simp at hc21; done) | (simp only [decide_eq_true_eq, decide_eq_false_iff_not, Bool.not_eq_true', Bool.not_eq_false', Bool.not_eq_true, Bool.not_eq_false] at hc21; omega) | omega)
                               all_goals
                                try simp only [decide_eq_true_eq, decide_eq_false_iff_not, Bool.not_eq_true', Bool.not_eq_false', Bool.not_eq_true, Bool.not_eq_false, Option.isNone_none, Option.isNone_some, Option.isSome_none, Option.isSome_some, ne_eq, Decidable.not_not] at hc21
                                refine WC.seq ?_
                                refine WC.region ?_
                                refine WL.val rfl rfl rfl rfl (r_move rfl (ev_t rfl)) ?_
                                refine WL.val rfl rfl rfl rfl (r_eql rfl (ev_t rfl) ev_c) ?_
                                refine WL.val rfl rfl rfl rfl (r_move rfl (ev_t rfl)) ?_
                                refine WL.cases 134 rfl (fun hb22_2 => ?_) (fun hb22_2 => ?_)
                                · try (exfalso; first | (simp at hb22_2; done) | (simp only [decide_eq_true_eq, decide_eq_false_iff_not, Bool.not_eq_true', Bool.not_eq_false', Bool.not_eq_true, Bool.not_eq_false] at hb22_2; omega) | omega)
                                  all_goals
                                   try simp only [decide_eq_true_eq, decide_eq_false_iff_not, Bool.not_eq_true', Bool.not_eq_false', Bool.not_eq_true, Bool.not_eq_false, Option.isNone_none, Option.isNone_some, Option.isSome_none, Option.isSome_some, ne_eq, Decidable.not_not] at hb22_2
                                   refine WL.val rfl rfl rfl rfl (r_move rfl (ev_t rfl)) ?_
                                   refine WL.val rfl rfl rfl rfl (r_eql rfl (ev_t rfl) ev_c) ?_
                                   refine WL.val rfl rfl rfl rfl (r_pickT rfl (ev_t rfl) (ev_t rfl)) ?_
                                   refine WL.val rfl rfl rfl rfl (r_assign rfl (ev_t rfl)) ?_
                                   refine WL.nil ?_
                                   refine WX.keep [(12, _)] ⟨rfl, trivial⟩ ?_
                                   refine WX.next ?_
                                   refine WC.ret ?_
                                   refine WX.blockRet ?_
                                   refine WX.thenRet ?_
                                   refine WX.retE1 rfl rfl ?_
                                   refine ⟨⟨_, rfl, (fun _ => by omega), fun _ => ?_⟩, hU⟩
                                   simp (disch := omega) only [if_pos, if_neg]
                                   try rw [Bool.eq_iff_iff]
                                   try rw [wrap_i64_in (by omega) (by omega)]
                                   try simp only [Bool.and_eq_true, decide_eq_true_eq, Bool.false_eq_true, false_iff]
                                   try omega
                                · try (exfalso; first | (simp at hb22_2; done) | (simp only [decide_eq_true_eq, decide_eq_false_iff_not, Bool.not_eq_true', Bool.not_eq_false', Bool.not_eq_true, Bool.not_eq_false] at hb22_2; omega) | omega)
                                  all_goals
                                   try simp only [decide_eq_true_eq, decide_eq_false_iff_not, Bool.not_eq_true', Bool.not_eq_false', Bool.not_eq_true, Bool.not_eq_false, Option.isNone_none, Option.isNone_some, Option.isSome_none, Option.isSome_some, ne_eq, Decidable.not_not] at hb22_2
                                   refine WL.skip rfl rfl rfl ?_
                                   refine WL.skip rfl rfl rfl ?_
                                   refine WL.val rfl rfl rfl rfl (r_pickF rfl (ev_t rfl) ev_c) ?_
                                   refine WL.val rfl rfl rfl rfl (r_assign rfl (ev_t rfl)) ?_
                                   refine WL.nil ?_
                                   refine WX.keep [(12, _)] ⟨rfl, trivial⟩ ?_
                                   refine WX.next ?_
                                   refine WC.ret ?_
                                   refine WX.blockRet ?_
                                   refine WX.thenRet ?_
                                   refine WX.retE1 rfl rfl ?_
                                   refine ⟨⟨_, rfl, (fun _ => by omega), fun _ => ?_⟩, hU⟩
                                   simp (disch := omega) only [if_pos, if_neg]
                                   try rw [Bool.eq_iff_iff]
                                   try rw [wrap_i64_in (by omega) (by omega)]
                                   try simp only [Bool.and_eq_true, decide_eq_true_eq, Bool.false_eq_true, false_iff]
                                   try omega
                             · try (exfalso; first | (simp at hc21; done) | (simp only [decide_eq_true_eq, decide_eq_false_iff_not, Bool.not_eq_true', Bool.not_eq_false', Bool.not_eq_true, Bool.not_eq_false] at hc21; omega) | omega)
                               all_goals
                                try simp only [decide_eq_true_eq, decide_eq_false_iff_not, Bool.not_eq_true', Bool.not_eq_false', Bool.not_eq_true, Bool.not_eq_false, Option.isNone_none, Option.isNone_some, Option.isSome_none, Option.isSome_some, ne_eq, Decidable.not_not] at hc21
                                refine WC.seq ?_
                                refine WC.seq ?_
                                refine WC.region ?_
                                refine WL.val rfl rfl rfl rfl (r_eql rfl (ev_t rfl) ev_c) ?_
                                refine WL.val rfl rfl rfl rfl (r_assign rfl (ev_t rfl)) ?_
                                refine WL.nil ?_
                                refine WX.keep [(2, _), (7, _), (20, _), (138, _)] ⟨rfl, rfl, rfl, rfl, trivial⟩ ?_
                                refine WX.next ?_
                                refine WC.cond rfl (ev_t rfl) (fun hc23 => ?_) (fun hc23 => ?_)
                                · try (exfalso; first | (simp at hc23; done) | (simp only [decide_eq_true_eq, decide_eq_false_iff_not, Bool.not_eq_true', Bool.not_eq_false', Bool.not_eq_true, Bool.not_eq_false] at hc23; omega) | omega)
                                  all_goals
                                   try simp only [decide_eq_true_eq, decide_eq_false_iff_not, Bool.not_eq_true', Bool.not_eq_false', Bool.not_eq_true, Bool.not_eq_false, Option.isNone_none, Option.isNone_some, Option.isSome_none, Option.isSome_some, ne_eq, Decidable.not_not] at hc23
                                   refine WC.skip ?_
                                   refine WX.next ?_
                                   refine WC.cond rfl (ev_t rfl) (fun hc23 => ?_) (fun hc23 => ?_)
                                   · try (exfalso; first | (simp at hc23; done) | (simp only [decide_eq_true_eq, decide_eq_false_iff_not, Bool.not_eq_true', Bool.not_eq_false', Bool.not_eq_true, Bool.not_eq_false] at hc23; omega) | omega)
                                     all_goals
                                      try simp only [decide_eq_true_eq, decide_eq_false_iff_not, Bool.not_eq_true', Bool.not_eq_false', Bool.not_eq_true, Bool.not_eq_false, Option.isNone_none, Option.isNone_some, Option.isSome_none, Option.isSome_some, ne_eq, Decidable.not_not] at hc23
                                      refine WC.seq ?_
                                      refine WC.region ?_
                                      first | refine WL.val rfl rfl rfl rfl (r_field0 rfl (ev_t rfl) fld_44_1) ?_ | refine WL.val rfl rfl rfl rfl (r_fieldAt rfl (ev_t rfl) fld_44_1) ?_
                                      first | refine WL.val rfl rfl rfl rfl (r_load rfl (ev_t rfl) flat_2 (Blk.cell hB1 rfl)) ?_ | refine WL.val rfl rfl rfl rfl (r_load rfl (ev_t rfl) flat_2 (Blk.cell hB2 rfl)) ?_
                                      refine WL.val rfl rfl rfl rfl (r_geq rfl (ev_t rfl) ev_c) ?_
                                      refine WL.val rfl rfl rfl rfl (r_move rfl (ev_t rfl)) ?_
                                      refine WL.cases 145 rfl (fun hb26_3 => ?_) (fun hb26_3 => ?_)
                                      · try (exfalso; first | (simp at hb26_3; done) | (simp only [decide_eq_true_eq, decide_eq_false_iff_not, Bool.not_eq_true', Bool.not_eq_false', Bool.not_eq_true, Bool.not_eq_false] at hb26_3; omega) | omega)
                                        all_goals
                                         try simp only [decide_eq_true_eq, decide_eq_false_iff_not, Bool.not_eq_true', Bool.not_eq_false', Bool.not_eq_true, Bool.not_eq_false, Option.isNone_none, Option.isNone_some, Option.isSome_none, Option.isSome_some, ne_eq, Decidable.not_not] at hb26_3
                                         first | refine WL.val rfl rfl rfl rfl (r_field0 rfl (ev_t rfl) fld_44_1) ?_ | refine WL.val rfl rfl rfl rfl (r_fieldAt rfl (ev_t rfl) fld_44_1) ?_
                                         first | refine WL.val rfl rfl rfl rfl (r_load rfl (ev_t rfl) flat_2 (Blk.cell hB1 rfl)) ?_ | refine WL.val rfl rfl rfl rfl (r_load rfl (ev_t rfl) flat_2 (Blk.cell hB2 rfl)) ?_
                                         refine WL.val rfl rfl rfl rfl (r_leq rfl (ev_t rfl) ev_c) ?_
                                         refine WL.val rfl rfl rfl rfl (r_pickT rfl (ev_t rfl) (ev_t rfl)) ?_
                                         refine WL.val rfl rfl rfl rfl (r_move rfl (ev_t rfl)) ?_
                                         refine WL.cases 150 rfl (fun hb26_8 => ?_) (fun hb26_8 => ?_)
                                         · try (exfalso; first | (simp at hb26_8; done) | (simp only [decide_eq_true_eq, decide_eq_false_iff_not, Bool.not_eq_true', Bool.not_eq_false', Bool.not_eq_true, Bool.not_eq_false] at hb26_8; omega) | omega)
                                           all_goals
                                            try simp only [decide_eq_true_eq, decide_eq_false_iff_not, Bool.not_eq_true', Bool.not_eq_false', Bool.not_eq_true, Bool.not_eq_false, Option.isNone_none, Option.isNone_some, Option.isSome_none, Option.isSome_some, ne_eq, Decidable.not_not] at hb26_8
                                            refine WL.val rfl rfl rfl rfl (r_move rfl (ev_t rfl)) ?_
                                            refine WL.val rfl rfl rfl rfl (r_gtr rfl (ev_t rfl) ev_c) ?_
                                            refine WL.val rfl rfl rfl rfl (r_pickT rfl (ev_t rfl) (ev_t rfl)) ?_
                                            refine WL.val rfl rfl rfl rfl (r_assign rfl (ev_t rfl)) ?_
                                            refine WL.nil ?_
                                            refine WX.keep [(12, _)] ⟨rfl, trivial⟩ ?_
                                            refine WX.next ?_
                                            refine WC.ret ?_
                                            refine WX.blockRet ?_
                                            refine WX.thenRet ?_
                                            refine WX.retE1 rfl rfl ?_
                                            refine ⟨⟨_, rfl, (fun _ => by omega), fun _ => ?_⟩, hU⟩
                                            simp (disch := omega) only [if_pos, if_neg]
                                            try rw [Bool.eq_iff_iff]
                                            try rw [wrap_i64_in (by omega) (by omega)]
                                            try simp only [Bool.and_eq_true, decide_eq_true_eq, Bool.false_eq_true, false_iff]
                                            try omega
                                         · try (exfalso; first | (simp at hb26_8; done) | (simp only [decide_eq_true_eq, decide_eq_false_iff_not, Bool.not_eq_true', Bool.not_eq_false', Bool.not_eq_true, Bool.not_eq_false] at hb26_8; omega) | omega)
                                           all_goals
                                            try simp only [decide_eq_true_eq, decide_eq_false_iff_not, Bool.not_eq_true', Bool.not_eq_false', Bool.not_eq_true, Bool.not_eq_false, Option.isNone_none, Option.isNone_some, Option.isSome_none, Option.isSome_some, ne_eq, Decidable.not_not] at hb26_8
                                            refine WL.skip rfl rfl rfl ?_
                                            refine WL.skip rfl rfl rfl ?_
                                            refine WL.val rfl rfl rfl rfl (r_pickF rfl (ev_t rfl) ev_c) ?_
                                            refine WL.val rfl rfl rfl rfl (r_assign rfl (ev_t rfl)) ?_
                                            refine WL.nil ?_
                                            refine WX.keep [(12, _)] ⟨rfl, trivial⟩ ?_
                                            refine WX.next ?_
                                            refine WC.ret ?_
                                            refine WX.blockRet ?_
                                            refine WX.thenRet ?_
                                            refine WX.retE1 rfl rfl ?_
                                            refine ⟨⟨_, rfl, (fun _ => by omega), fun _ => ?_⟩, hU⟩
                                            simp (disch := omega) only [if_pos, if_neg]
                                            try rw [Bool.eq_iff_iff]
                                            try rw [wrap_i64_in (by omega) (by omega)]
                                            try simp only [Bool.and_eq_true, decide_eq_true_eq, Bool.false_eq_true, false_iff]
                                            try omega
                                      · try (exfalso; first | (simp at hb26_3; done) | (simp only [decide_eq_true_eq, decide_eq_false_iff_not, Bool.not_eq_true', Bool.not_eq_false', Bool.not_eq_true, Bool.not_eq_false] at hb26_3; omega) | omega)
                                        all_goals
                                         try simp only [decide_eq_true_eq, decide_eq_false_iff_not, Bool.not_eq_true', Bool.not_eq_false', Bool.not_eq_true, Bool.not_eq_false, Option.isNone_none, Option.isNone_some, Option.isSome_none, Option.isSome_some, ne_eq, Decidable.not_not] at hb26_3
                                         refine WL.skip rfl rfl rfl ?_
                                         refine WL.skip rfl rfl rfl ?_
                                         refine WL.skip rfl rfl rfl ?_
                                         refine WL.val rfl rfl rfl rfl (r_pickF rfl (ev_t rfl) ev_c) ?_
                                         refine WL.val rfl rfl rfl rfl (r_move rfl (ev_t rfl)) ?_
                                         refine WL.skip rfl rfl rfl ?_
                                         refine WL.skip rfl rfl rfl ?_
                                         refine WL.val rfl rfl rfl rfl (r_pickF rfl (ev_t rfl) ev_c) ?_
                                         refine WL.val rfl rfl rfl rfl (r_assign rfl (ev_t rfl)) ?_
                                         refine WL.nil ?_
                                         refine WX.keep [(12, _)] ⟨rfl, trivial⟩ ?_
                                         refine WX.next ?_
                                         refine WC.ret ?_
                                         refine WX.blockRet ?_
                                         refine WX.thenRet ?_
                                         refine WX.retE1 rfl rfl ?_
                                         refine ⟨⟨_, rfl, (fun _ => by omega), fun _ => ?_⟩, hU⟩
                                         simp (disch := omega) only [if_pos, if_neg]
                                         try rw [Bool.eq_iff_iff]
                                         try rw [wrap_i64_in (by omega) (by omega)]
                                         try simp only [Bool.and_eq_true, decide_eq_true_eq, Bool.false_eq_true, false_iff]
                                         try omega
                                   · try (exfalso; first | (simp at hc23; done) | (simp only [decide_eq_true_eq, decide_eq_false_iff_not, Bool.not_eq_true', Bool.not_eq_false', Bool.not_eq_true, Bool.not_eq_false] at hc23; omega) | omega)
                                     all_goals
                                      try simp only [decide_eq_true_eq, decide_eq_false_iff_not, Bool.not_eq_true', Bool.not_eq_false', Bool.not_eq_true, Bool.not_eq_false, Option.isNone_none, Option.isNone_some, Option.isSome_none, Option.isSome_some, ne_eq, Decidable.not_not] at hc23
                                      refine WC.skip ?_
                                      refine WX.blockNormal ?_
                                      refine WX.next ?_
                                      refine WC.seq ?_
                                      refine WC.region ?_
                                      first | refine WL.val rfl rfl rfl rfl (r_field0 rfl (ev_t rfl) fld_44_0) ?_ | refine WL.val rfl rfl rfl rfl (r_fieldAt rfl (ev_t rfl) fld_44_0) ?_
                                      first | refine WL.val rfl rfl rfl rfl (r_load rfl (ev_t rfl) flat_5 (Blk.cell hB1 rfl)) ?_ | refine WL.val rfl rfl rfl rfl (r_load rfl (ev_t rfl) flat_5 (Blk.cell hB2 rfl)) ?_
                                      refine WL.val rfl rfl rfl rfl (r_indexArr rfl ev_g (ev_t rfl) arr_82 size_3 (by omega) (by omega)) ?_
                                      refine WL.val rfl rfl rfl rfl (r_load rfl (ev_t rfl) flat_3 (Rd.cell (hT.upd hU).1 (j := op) (by omega) (tkT_cell (by omega)))) ?_
                                      refine WL.val rfl rfl rfl rfl (r_move rfl (ev_t rfl)) ?_
                                      refine WL.val rfl rfl rfl rfl (r_lss rfl (ev_t rfl) (ev_t rfl)) ?_
                                      refine WL.val rfl rfl rfl rfl (r_assign rfl (ev_t rfl)) ?_
                                      refine WL.nil ?_
                                      refine WX.keep [(12, _)] ⟨rfl, trivial⟩ ?_
                                      refine WX.next ?_
                                      refine WC.ret ?_
                                      refine WX.retE1 rfl rfl ?_
                                      refine ⟨⟨_, rfl, (fun _ => by omega), fun _ => ?_⟩, hU⟩
                                      simp (disch := omega) only [if_pos, if_neg]
                                      try rw [Bool.eq_iff_iff]
                                      try rw [wrap_i64_in (by omega) (by omega)]
                                      try simp only [Bool.and_eq_true, decide_eq_true_eq, Bool.false_eq_true, false_iff]
                                      try omega
                                · try (exfalso; first | (simp at hc23; done) | (simp only [decide_eq_true_eq, decide_eq_false_iff_not, Bool.not_eq_true', Bool.not_eq_false', Bool.not_eq_true, Bool.not_eq_false] at hc23; omega) | omega)
                                  all_goals
                                   try simp only [decide_eq_true_eq, decide_eq_false_iff_not, Bool.not_eq_true', Bool.not_eq_false', Bool.not_eq_true, Bool.not_eq_false, Option.isNone_none, Option.isNone_some, Option.isSome_none, Option.isSome_some, ne_eq, Decidable.not_not] at hc23
                                   refine WC.seq ?_
                                   refine WC.region ?_
                                   refine WL.val rfl rfl rfl rfl (r_eql rfl (ev_t rfl) ev_c) ?_
                                   refine WL.val rfl rfl rfl rfl (r_assign rfl (ev_t rfl)) ?_
                                   refine WL.nil ?_
                                   refine WX.keep [(2, _), (7, _), (20, _), (138, _)] ⟨rfl, rfl, rfl, rfl, trivial⟩ ?_
                                   refine WX.next ?_
                                   refine WC.cond rfl (ev_t rfl) (fun hc24 => ?_) (fun hc24 => ?_)
                                   · try (exfalso; first | (simp at hc24; done) | (simp only [decide_eq_true_eq, decide_eq_false_iff_not, Bool.not_eq_true', Bool.not_eq_false', Bool.not_eq_true, Bool.not_eq_false] at hc24; omega) | omega)
                                     all_goals
                                      try simp only [decide_eq_true_eq, decide_eq_false_iff_not, Bool.not_eq_true', Bool.not_eq_false', Bool.not_eq_true, Bool.not_eq_false, Option.isNone_none, Option.isNone_some, Option.isSome_none, Option.isSome_some, ne_eq, Decidable.not_not] at hc24
                                      refine WC.skip ?_
                                      refine WX.next ?_
                                      refine WC.cond rfl (ev_t rfl) (fun hc24 => ?_) (fun hc24 => ?_)
                                      · try (exfalso; first | (simp at hc24; done) | (simp only [decide_eq_true_eq, decide_eq_false_iff_not, Bool.not_eq_true', Bool.not_eq_false', Bool.not_eq_true, Bool.not_eq_false] at hc24; omega) | omega)
                                        all_goals
                                         try simp only [decide_eq_true_eq, decide_eq_false_iff_not, Bool.not_eq_true', Bool.not_eq_false', Bool.not_eq_true, Bool.not_eq_false, Option.isNone_none, Option.isNone_some, Option.isSome_none, Option.isSome_some, ne_eq, Decidable.not_not] at hc24
                                         refine WC.seq ?_
                                         refine WC.region ?_
                                         first | refine WL.val rfl rfl rfl rfl (r_field0 rfl (ev_t rfl) fld_44_1) ?_ | refine WL.val rfl rfl rfl rfl (r_fieldAt rfl (ev_t rfl) fld_44_1) ?_
                                         first | refine WL.val rfl rfl rfl rfl (r_load rfl (ev_t rfl) flat_2 (Blk.cell hB1 rfl)) ?_ | refine WL.val rfl rfl rfl rfl (r_load rfl (ev_t rfl) flat_2 (Blk.cell hB2 rfl)) ?_
                                         refine WL.val rfl rfl rfl rfl (r_geq rfl (ev_t rfl) ev_c) ?_
                                         refine WL.val rfl rfl rfl rfl (r_move rfl (ev_t rfl)) ?_
                                         refine WL.cases 145 rfl (fun hb26_3 => ?_) (fun hb26_3 => ?_)
                                         · try (exfalso; first | (simp at hb26_3; done) | (simp only [decide_eq_true_eq, decide_eq_false_iff_not, Bool.not_eq_true', Bool.not_eq_false', Bool.not_eq_true, Bool.not_eq_false] at hb26_3; omega) | omega)
                                           all_goals
                                            try simp only [decide_eq_true_eq, decide_eq_false_iff_not, Bool.not_eq_true', Bool.not_eq_false', Bool.not_eq_true, Bool.not_eq_false, Option.isNone_none, Option.isNone_some, Option.isSome_none, Option.isSome_some, ne_eq, Decidable.not_not] at hb26_3
                                            first | refine WL.val rfl rfl rfl rfl (r_field0 rfl (ev_t rfl) fld_44_1) ?_ | refine WL.val rfl rfl rfl rfl (r_fieldAt rfl (ev_t rfl) fld_44_1) ?_
                                            first | refine WL.val rfl rfl rfl rfl (r_load rfl (ev_t rfl) flat_2 (Blk.cell hB1 rfl)) ?_ | refine WL.val rfl rfl rfl rfl (r_load rfl (ev_t rfl) flat_2 (Blk.cell hB2 rfl)) ?_
                                            refine WL.val rfl rfl rfl rfl (r_leq rfl (ev_t rfl) ev_c) ?_
                                            refine WL.val rfl rfl rfl rfl (r_pickT rfl (ev_t rfl) (ev_t rfl)) ?_
                                            refine WL.val rfl rfl rfl rfl (r_move rfl (ev_t rfl)) ?_
                                            refine WL.cases 150 rfl (fun hb26_8 => ?_) (fun hb26_8 => ?_)
                                            · try (exfalso; first | (simp at hb26_8; done) | (simp only [decide_eq_true_eq, decide_eq_false_iff_not, Bool.not_eq_true', Bool.not_eq_false', Bool.not_eq_true, Bool.not_eq_false] at hb26_8; omega) | omega)
                                              all_goals
                                               try simp only [decide_eq_true_eq, decide_eq_false_iff_not, Bool.not_eq_true', Bool.not_eq_false', Bool.not_eq_true, Bool.not_eq_false, Option.isNone_none, Option.isNone_some, Option.isSome_none, Option.isSome_some, ne_eq, Decidable.not_not] at hb26_8
                                               refine WL.val rfl rfl rfl rfl (r_move rfl (ev_t rfl)) ?_
                                               refine WL.val rfl rfl rfl rfl (r_gtr rfl (ev_t rfl) ev_c) ?_
                                               refine WL.val rfl rfl rfl rfl (r_pickT rfl (ev_t rfl) (ev_t rfl)) ?_
                                               refine WL.val rfl rfl rfl rfl (r_assign rfl (ev_t rfl)) ?_
                                               refine WL.nil ?_
                                               refine WX.keep [(12, _)] ⟨rfl, trivial⟩ ?_
                                               refine WX.next ?_
                                               refine WC.ret ?_
                                               refine WX.blockRet ?_
                                               refine WX.thenRet ?_
                                               refine WX.retE1 rfl rfl ?_
                                               refine ⟨⟨_, rfl, (fun _ => by omega), fun _ => ?_⟩, hU⟩
                                               simp (disch := omega) only [if_pos, if_neg]
                                               try rw [Bool.eq_iff_iff]
                                               try rw [wrap_i64_in (by omega) (by omega)]
                                               try simp only [Bool.and_eq_true, decide_eq_true_eq, Bool.false_eq_true, false_iff]
                                               try omega
                                            · try (exfalso; first | (simp at hb26_8; done) | (simp only [decide_eq_true_eq, decide_eq_false_iff_not, Bool.not_eq_true', Bool.not_eq_false', Bool.not_eq_true, Bool.not_eq_false] at hb26_8; omega) | omega)
                                              all_goals
                                               try simp only [decide_eq_true_eq, decide_eq_false_iff_not, Bool.not_eq_true', Bool.not_eq_false', Bool.not_eq_true, Bool.not_eq_false, Option.isNone_none, Option.isNone_some, Option.isSome_none, Option.isSome_some, ne_eq, Decidable.not_not] at hb26_8
                                               refine WL.skip rfl rfl rfl ?_
                                               refine WL.skip rfl rfl rfl ?_
                                               refine WL.val rfl rfl rfl rfl (r_pickF rfl (ev_t rfl) ev_c) ?_
                                               refine WL.val rfl rfl rfl rfl (r_assign rfl (ev_t rfl)) ?_
                                               refine WL.nil ?_
                                               refine WX.keep [(12, _)] ⟨rfl, trivial⟩ ?_
                                               refine WX.next ?_
                                               refine WC.ret ?_
                                               refine WX.blockRet ?_
                                               refine WX.thenRet ?_
                                               refine WX.retE1 rfl rfl ?_
                                               refine ⟨⟨_, rfl, (fun _ => by omega), fun _ => ?_⟩, hU⟩
                                               simp (disch := omega) only [if_pos, if_neg]
                                               try rw [Bool.eq_iff_iff]
                                               try rw [wrap_i64_in (by omega) (by omega)]
                                               try simp only [Bool.and_eq_true, decide_eq_true_eq, Bool.false_eq_true, false_iff]
                                               try omega
                                         · try (exfalso; first | (simp at hb26_3; done) | (simp only [decide_eq_true_eq, decide_eq_false_iff_not, Bool.not_eq_true', Bool.not_eq_false', Bool.not_eq_true, Bool.not_eq_false] at hb26_3; omega) | omega)
                                           all_goals
                                            try simp only [decide_eq_true_eq, decide_eq_false_iff_not, Bool.not_eq_true', Bool.not_eq_false', Bool.not_eq_true, Bool.not_eq_false, Option.isNone_none, Option.isNone_some, Option.isSome_none, Option.isSome_some, ne_eq, Decidable.not_not] at hb26_3
                                            refine WL.skip rfl rfl rfl ?_
                                            refine WL.skip rfl rfl rfl ?_
                                            refine WL.skip rfl rfl rfl ?_
                                            refine WL.val rfl rfl rfl rfl (r_pickF rfl (ev_t rfl) ev_c) ?_
                                            refine WL.val rfl rfl rfl rfl (r_move rfl (ev_t rfl)) ?_
                                            refine WL.skip rfl rfl rfl ?_
                                            refine WL.skip rfl rfl rfl ?_
                                            refine WL.val rfl rfl rfl rfl (r_pickF rfl (ev_t rfl) ev_c) ?_
                                            refine WL.val rfl rfl rfl rfl (r_assign rfl (ev_t rfl)) ?_
                                            refine WL.nil ?_
                                            refine WX.keep [(12, _)] ⟨rfl, trivial⟩ ?_
                                            refine WX.next ?_
                                            refine WC.ret ?_
                                            refine WX.blockRet ?_
                                            refine WX.thenRet ?_
                                            refine WX.retE1 rfl rfl ?_
                                            refine ⟨⟨_, rfl, (fun _ => by omega), fun _ => ?_⟩, hU⟩
                                            simp (disch := omega) only [if_pos, if_neg]
                                            try rw [Bool.eq_iff_iff]
                                            try rw [wrap_i64_in (by omega) (by omega)]
                                            try simp only [Bool.and_eq_true, decide_eq_true_eq, Bool.false_eq_true, false_iff]
                                            try omega
                                      · try (exfalso; first | (simp at hc24; done) | (simp only [decide_eq_true_eq, decide_eq_false_iff_not, Bool.not_eq_true', Bool.not_eq_false', Bool.not_eq_true, Bool.not_eq_false] at hc24; omega) | omega)
                                        all_goals
                                         try simp only [decide_eq_true_eq, decide_eq_false_iff_not, Bool.not_eq_true', Bool.not_eq_false', Bool.not_eq_true, Bool.not_eq_false, Option.isNone_none, Option.isNone_some, Option.isSome_none, Option.isSome_some, ne_eq, Decidable.not_not] at hc24
                                         refine WC.skip ?_
                                         refine WX.blockNormal ?_
                                         refine WX.next ?_
                                         refine WC.seq ?_
                                         refine WC.region ?_
                                         first | refine WL.val rfl rfl rfl rfl (r_field0 rfl (ev_t rfl) fld_44_0) ?_ | refine WL.val rfl rfl rfl rfl (r_fieldAt rfl (ev_t rfl) fld_44_0) ?_
                                         first | refine WL.val rfl rfl rfl rfl (r_load rfl (ev_t rfl) flat_5 (Blk.cell hB1 rfl)) ?_ | refine WL.val rfl rfl rfl rfl (r_load rfl (ev_t rfl) flat_5 (Blk.cell hB2 rfl)) ?_
                                         refine WL.val rfl rfl rfl rfl (r_indexArr rfl ev_g (ev_t rfl) arr_82 size_3 (by omega) (by omega)) ?_
                                         refine WL.val rfl rfl rfl rfl (r_load rfl (ev_t rfl) flat_3 (Rd.cell (hT.upd hU).1 (j := op) (by omega) (tkT_cell (by omega)))) ?_
                                         refine WL.val rfl rfl rfl rfl (r_move rfl (ev_t rfl)) ?_
                                         refine WL.val rfl rfl rfl rfl (r_lss rfl (ev_t rfl) (ev_t rfl)) ?_
                                         refine WL.val rfl rfl rfl rfl (r_assign rfl (ev_t rfl)) ?_
                                         refine WL.nil ?_
                                         refine WX.keep [(12, _)] ⟨rfl, trivial⟩ ?_
                                         refine WX.next ?_
                                         refine WC.ret ?_
                                         refine WX.retE1 rfl rfl ?_
                                         refine ⟨⟨_, rfl, (fun _ => by omega), fun _ => ?_⟩, hU⟩
                                         simp (disch := omega) only [if_pos, if_neg]
                                         try rw [Bool.eq_iff_iff]
                                         try rw [wrap_i64_in (by omega) (by omega)]
                                         try simp only [Bool.and_eq_true, decide_eq_true_eq, Bool.false_eq_true, false_iff]
                                         try omega
                                   · try (exfalso; first | (simp at hc24; done) | (simp only [decide_eq_true_eq, decide_eq_false_iff_not, Bool.not_eq_true', Bool.not_eq_false', Bool.not_eq_true, Bool.not_eq_false] at hc24; omega) | omega)
                                     all_goals
                                      try simp only [decide_eq_true_eq, decide_eq_false_iff_not, Bool.not_eq_true', Bool.not_eq_false', Bool.not_eq_true, Bool.not_eq_false, Option.isNone_none, Option.isNone_some, Option.isSome_none, Option.isSome_some, ne_eq, Decidable.not_not] at hc24
                                      refine WC.region ?_
                                      refine WL.val rfl rfl rfl rfl (r_eql rfl (ev_t rfl) ev_c) ?_
                                      refine WL.val rfl rfl rfl rfl (r_assign rfl (ev_t rfl)) ?_
                                      refine WL.nil ?_
                                      refine WX.keep [(2, _), (7, _), (138, _)] ⟨rfl, rfl, rfl, trivial⟩ ?_
                                      refine WX.next ?_
                                      refine WC.cond rfl (ev_t rfl) (fun hc25 => ?_) (fun hc25 => ?_)
                                      · try (exfalso; first | (simp at hc25; done) | (simp only [decide_eq_true_eq, decide_eq_false_iff_not, Bool.not_eq_true', Bool.not_eq_false', Bool.not_eq_true, Bool.not_eq_false] at hc25; omega) | omega)
                                        all_goals
                                         try simp only [decide_eq_true_eq, decide_eq_false_iff_not, Bool.not_eq_true', Bool.not_eq_false', Bool.not_eq_true, Bool.not_eq_false, Option.isNone_none, Option.isNone_some, Option.isSome_none, Option.isSome_some, ne_eq, Decidable.not_not] at hc25
                                         refine WC.seq ?_
                                         refine WC.region ?_
                                         first | refine WL.val rfl rfl rfl rfl (r_field0 rfl (ev_t rfl) fld_44_1) ?_ | refine WL.val rfl rfl rfl rfl (r_fieldAt rfl (ev_t rfl) fld_44_1) ?_
                                         first | refine WL.val rfl rfl rfl rfl (r_load rfl (ev_t rfl) flat_2 (Blk.cell hB1 rfl)) ?_ | refine WL.val rfl rfl rfl rfl (r_load rfl (ev_t rfl) flat_2 (Blk.cell hB2 rfl)) ?_
                                         refine WL.val rfl rfl rfl rfl (r_geq rfl (ev_t rfl) ev_c) ?_
                                         refine WL.val rfl rfl rfl rfl (r_move rfl (ev_t rfl)) ?_
                                         refine WL.cases 145 rfl (fun hb26_3 => ?_) (fun hb26_3 => ?_)
                                         · try (exfalso; first | (simp at hb26_3; done) | (simp only [decide_eq_true_eq, decide_eq_false_iff_not, Bool.not_eq_true', Bool.not_eq_false', Bool.not_eq_true, Bool.not_eq_false] at hb26_3; omega) | omega)
                                           all_goals
                                            try simp only [decide_eq_true_eq, decide_eq_false_iff_not, Bool.not_eq_true', Bool.not_eq_false', Bool.not_eq_true, Bool.not_eq_false, Option.isNone_none, Option.isNone_some, Option.isSome_none, Option.isSome_some, ne_eq, Decidable.not_not] at hb26_3
                                            first | refine WL.val rfl rfl rfl rfl (r_field0 rfl (ev_t rfl) fld_44_1) ?_ | refine WL.val rfl rfl rfl rfl (r_fieldAt rfl (ev_t rfl) fld_44_1) ?_
                                            first | refine WL.val rfl rfl rfl rfl (r_load rfl (ev_t rfl) flat_2 (Blk.cell hB1 rfl)) ?_ | refine WL.val rfl rfl rfl rfl (r_load rfl (ev_t rfl) flat_2 (Blk.cell hB2 rfl)) ?_
                                            refine WL.val rfl rfl rfl rfl (r_leq rfl (ev_t rfl) ev_c) ?_
                                            refine WL.val rfl rfl rfl rfl (r_pickT rfl (ev_t rfl) (ev_t rfl)) ?_
                                            refine WL.val rfl rfl rfl rfl (r_move rfl (ev_t rfl)) ?_
                                            refine WL.cases 150 rfl (fun hb26_8 => ?_) (fun hb26_8 => ?_)
                                            · try (exfalso; first | (simp at hb26_8; done) | (simp only [decide_eq_true_eq, decide_eq_false_iff_not, Bool.not_eq_true', Bool.not_eq_false', Bool.not_eq_true, Bool.not_eq_false] at hb26_8; omega) | omega)
                                              all_goals
                                               try simp only [decide_eq_true_eq, decide_eq_false_iff_not, Bool.not_eq_true', Bool.not_eq_false', Bool.not_eq_true, Bool.not_eq_false, Option.isNone_none, Option.isNone_some, Option.isSome_none, Option.isSome_some, ne_eq, Decidable.not_not] at hb26_8
                                               refine WL.val rfl rfl rfl rfl (r_move rfl (ev_t rfl)) ?_
                                               refine WL.val rfl rfl rfl rfl (r_gtr rfl (ev_t rfl) ev_c) ?_
                                               refine WL.val rfl rfl rfl rfl (r_pickT rfl (ev_t rfl) (ev_t rfl)) ?_
                                               refine WL.val rfl rfl rfl rfl (r_assign rfl (ev_t rfl)) ?_
                                               refine WL.nil ?_
                                               refine WX.keep [(12, _)] ⟨rfl, trivial⟩ ?_
                                               refine WX.next ?_
                                               refine WC.ret ?_
                                               refine WX.blockRet ?_
                                               refine WX.thenRet ?_
                                               refine WX.retE1 rfl rfl ?_
                                               refine ⟨⟨_, rfl, (fun _ => by omega), fun _ => ?_⟩, hU⟩
                                               simp (disch := omega) only [if_pos, if_neg]
                                               try rw [Bool.eq_iff_iff]
                                               try rw [wrap_i64_in (by omega) (by omega)]
                                               try simp only [Bool.and_eq_true, decide_eq_true_eq, Bool.false_eq_true, false_iff]
                                               try omega
                                            · try (exfalso; first | (simp at hb26_8; done) | (simp only [decide_eq_true_eq, decide_eq_false_iff_not, Bool.not_eq_true', Bool.not_eq_false', Bool.not_eq_true, Bool.not_eq_false] at hb26_8; omega) | omega)
                                              all_goals
                                               try simp only [decide_eq_true_eq, decide_eq_false_iff_not, Bool.not_eq_true', Bool.not_eq_false', Bool.not_eq_true, Bool.not_eq_false, Option.isNone_none, Option.isNone_some, Option.isSome_none, Option.isSome_some, ne_eq, Decidable.not_not] at hb26_8
                                               refine WL.skip rfl rfl rfl ?_
                                               refine WL.skip rfl rfl rfl ?_
                                               refine WL.val rfl rfl rfl rfl (r_pickF rfl (ev_t rfl) ev_c) ?_
                                               refine WL.val rfl rfl rfl rfl (r_assign rfl (ev_t rfl)) ?_
                                               refine WL.nil ?_
                                               refine WX.keep [(12, _)] ⟨rfl, trivial⟩ ?_
                                               refine WX.next ?_
                                               refine WC.ret ?_
                                               refine WX.blockRet ?_
                                               refine WX.thenRet ?_
                                               refine WX.retE1 rfl rfl ?_
                                               refine ⟨⟨_, rfl, (fun _ => by omega), fun _ => ?_⟩, hU⟩
                                               simp (disch := omega) only [if_pos, if_neg]
                                               try rw [Bool.eq_iff_iff]
                                               try rw [wrap_i64_in (by omega) (by omega)]
                                               try simp only [Bool.and_eq_true, decide_eq_true_eq, Bool.false_eq_true, false_iff]
                                               try omega
                                         · try (exfalso; first | (simp at hb26_3; done) | (simp only [decide_eq_true_eq, decide_eq_false_iff_not, Bool.not_eq_true', Bool.not_eq_false', Bool.not_eq_true, Bool.not_eq_false] at hb26_3; omega) | omega)
                                           all_goals
                                            try simp only [decide_eq_true_eq, decide_eq_false_iff_not, Bool.not_eq_true', Bool.not_eq_false', Bool.not_eq_true, Bool.not_eq_false, Option.isNone_none, Option.isNone_some, Option.isSome_none, Option.isSome_some, ne_eq, Decidable.not_not] at hb26_3
                                            refine WL.skip rfl rfl rfl ?_
                                            refine WL.skip rfl rfl rfl ?_
                                            refine WL.skip rfl rfl rfl ?_
                                            refine WL.val rfl rfl rfl rfl (r_pickF rfl (ev_t rfl) ev_c) ?_
                                            refine WL.val rfl rfl rfl rfl (r_move rfl (ev_t rfl)) ?_
                                            refine WL.skip rfl rfl rfl ?_
                                            refine WL.skip rfl rfl rfl ?_
                                            refine WL.val rfl rfl rfl rfl (r_pickF rfl (ev_t rfl) ev_c) ?_
                                            refine WL.val rfl rfl rfl rfl (r_assign rfl (ev_t rfl)) ?_
                                            refine WL.nil ?_
                                            refine WX.keep [(12, _)] ⟨rfl, trivial⟩ ?_
                                            refine WX.next ?_
                                            refine WC.ret ?_
                                            refine WX.blockRet ?_
                                            refine WX.thenRet ?_
                                            refine WX.retE1 rfl rfl ?_
                                            refine ⟨⟨_, rfl, (fun _ => by omega), fun _ => ?_⟩, hU⟩
                                            simp (disch := omega) only [if_pos, if_neg]
                                            try rw [Bool.eq_iff_iff]
                                            try rw [wrap_i64_in (by omega) (by omega)]
                                            try simp only [Bool.and_eq_true, decide_eq_true_eq, Bool.false_eq_true, false_iff]
                                            try omega
                                      · try (exfalso; first | (simp at hc25; done) | (simp only [decide_eq_true_eq, decide_eq_false_iff_not, Bool.not_eq_true', Bool.not_eq_false', Bool.not_eq_true, Bool.not_eq_false] at hc25; omega) | omega)
                                        all_goals
                                         try simp only [decide_eq_true_eq, decide_eq_false_iff_not, Bool.not_eq_true', Bool.not_eq_false', Bool.not_eq_true, Bool.not_eq_false, Option.isNone_none, Option.isNone_some, Option.isSome_none, Option.isSome_some, ne_eq, Decidable.not_not] at hc25
                                         refine WC.skip ?_
                                         refine WX.blockNormal ?_
                                         refine WX.next ?_
                                         refine WC.seq ?_
                                         refine WC.region ?_
                                         first | refine WL.val rfl rfl rfl rfl (r_field0 rfl (ev_t rfl) fld_44_0) ?_ | refine WL.val rfl rfl rfl rfl (r_fieldAt rfl (ev_t rfl) fld_44_0) ?_
                                         first | refine WL.val rfl rfl rfl rfl (r_load rfl (ev_t rfl) flat_5 (Blk.cell hB1 rfl)) ?_ | refine WL.val rfl rfl rfl rfl (r_load rfl (ev_t rfl) flat_5 (Blk.cell hB2 rfl)) ?_
                                         refine WL.val rfl rfl rfl rfl (r_indexArr rfl ev_g (ev_t rfl) arr_82 size_3 (by omega) (by omega)) ?_
                                         refine WL.val rfl rfl rfl rfl (r_load rfl (ev_t rfl) flat_3 (Rd.cell (hT.upd hU).1 (j := op) (by omega) (tkT_cell (by omega)))) ?_
                                         refine WL.val rfl rfl rfl rfl (r_move rfl (ev_t rfl)) ?_
                                         refine WL.val rfl rfl rfl rfl (r_lss rfl (ev_t rfl) (ev_t rfl)) ?_
                                         refine WL.val rfl rfl rfl rfl (r_assign rfl (ev_t rfl)) ?_
                                         refine WL.nil ?_
                                         refine WX.keep [(12, _)] ⟨rfl, trivial⟩ ?_
                                         refine WX.next ?_
                                         refine WC.ret ?_
                                         refine WX.retE1 rfl rfl ?_
                                         refine ⟨⟨_, rfl, (fun _ => by omega), fun _ => ?_⟩, hU⟩
                                         simp (disch := omega) only [if_pos, if_neg]
                                         try rw [Bool.eq_iff_iff]
                                         try rw [wrap_i64_in (by omega) (by omega)]
                                         try simp only [Bool.and_eq_true, decide_eq_true_eq, Bool.false_eq_true, false_iff]
                                         try omega

set_option maxHeartbeats 4000000 in
theorem after_ok {w : World} {i : In} {d t : Int} (hT : Tk w) (hi : i.ok) (hop : i.op < 27) (hd : inK .i64 d) (ht : inK .i64 t) :
    Ret Tryd.prog 36 #[.agg (insC i).toArray, .int .i64 d, .int .i64 t] w fun u w' => (∃ d' t', u = .tuple #[.bool (nextB i), .int .i64 d', .int .i64 t'] ∧ inK .i64 d' ∧ inK .i64 t' ∧ (0 ≤ nnI i → nnI i ≤ d → d ≤ 1000 → d' = d - nnI i + lvT i.op) ∧ (-1000 ≤ t → t ≤ 1000 → t' = t + dtI i)) ∧ Upd No w w' := by
  obtain ⟨h1, h2, h3, h4⟩ := hi
  simp only [inK] at h2 h3 hd ht
  obtain ⟨op, In_, Ia, Is⟩ := i
  simp only at h1 h2 h3 h4 hop
  have htk := tk_le hop
  unfold insC
  obtain ⟨nn, hnn⟩ : ∃ nn, nnI ⟨op, In_, Ia, Is⟩ = nn := ⟨_, rfl⟩
  obtain ⟨tt, htt⟩ : ∃ tt, dtI ⟨op, In_, Ia, Is⟩ = tt := ⟨_, rfl⟩
  obtain ⟨nx, hnx⟩ : ∃ nx, nextB ⟨op, In_, Ia, Is⟩ = nx := ⟨_, rfl⟩
  rw [hnn, htt, hnx]
  unfold nnI at hnn
  unfold dtI at htt
  unfold nextB at hnx
  simp only at hnn htt hnx ⊢
  refine enterRet (vs := [_, _, _]) (N := 59) Tryd.func36 rfl rfl rfl ?_
  have hU := Upd.refl No w
  refine WC.keep [(0, _), (1, _), (2, _)] ⟨rfl, rfl, rfl, trivial⟩ ?_
  refine WC.seq ?_
  refine WC.region ?_
  refine WL.cons (SO.alloc rfl rfl rfl rfl (r_boxAgg rfl (ev_t rfl)) ?_)
  intro w1 hu1 hB1 hz1
  have hs1 := hu1.size
  replace hU := hU.transA hu1
  refine WL.val rfl rfl rfl rfl (r_assign rfl ev_c) ?_
  refine WL.val rfl rfl rfl rfl (r_assign rfl ev_c) ?_
  refine WL.val rfl rfl rfl rfl (r_assign rfl ev_c) ?_
  refine WL.nil ?_
  refine WX.keep [(1, _), (2, _), (3, _)] ⟨rfl, rfl, rfl, trivial⟩ ?_
  refine WX.next ?_
  refine WC.seq ?_
  refine WC.region ?_
  first | refine WL.val rfl rfl rfl rfl (r_field0 rfl (ev_t rfl) fld_44_0) ?_ | refine WL.val rfl rfl rfl rfl (r_fieldAt rfl (ev_t rfl) fld_44_0) ?_
  refine WL.val rfl rfl rfl rfl (r_load rfl (ev_t rfl) flat_5 (Blk.cell hB1 rfl)) ?_
  refine WL.val rfl rfl rfl rfl (r_indexArr rfl ev_g (ev_t rfl) arr_82 size_3 (by omega) (by omega)) ?_
  refine WL.val rfl rfl rfl rfl (r_load rfl (ev_t rfl) flat_3 (Rd.cell (hT.upd hU).1 (j := op) (by omega) (tkT_cell (by omega)))) ?_
  refine WL.val rfl rfl rfl rfl (r_assign rfl (ev_t rfl)) ?_
  refine WL.nil ?_
  refine WX.keep [(1, _), (2, _), (3, _), (9, _)] ⟨rfl, rfl, rfl, rfl, trivial⟩ ?_
  refine WX.next ?_
  -- cut 2: live [1, 2, 3, 9]
  refine WC.cut (fun E w2 => w1 = w2 ∧ ∃ n9 t2 : Int, inK .i64 n9 ∧ inK .i64 t2 ∧ (inK .i64 nn → n9 = nn) ∧ (-1000 ≤ t → t ≤ 1000 → t2 = t + tt) ∧ E = [(1, .int .i64 d), (2, .int .i64 t2), (3, .pointer (some ⟨w.heap.size, 0, none⟩)), (9, .int .i64 n9)]) ?_ ?_
  · refine WC.seq ?_
    refine WC.region ?_
    first | refine WL.val rfl rfl rfl rfl (r_field0 rfl (ev_t rfl) fld_44_0) ?_ | refine WL.val rfl rfl rfl rfl (r_fieldAt rfl (ev_t rfl) fld_44_0) ?_
    refine WL.val rfl rfl rfl rfl (r_load rfl (ev_t rfl) flat_5 (Blk.cell hB1 rfl)) ?_
    refine WL.nil ?_
    refine WX.keep [(1, _), (2, _), (3, _), (9, _), (15, _)] ⟨rfl, rfl, rfl, rfl, rfl, trivial⟩ ?_
    refine WX.next ?_
    refine WC.block ?_
    refine WC.seq ?_
    refine WC.region ?_
    refine WL.val rfl rfl rfl rfl (r_eql rfl (ev_t rfl) ev_c) ?_
    refine WL.val rfl rfl rfl rfl (r_assign rfl (ev_t rfl)) ?_
    refine WL.nil ?_
    refine WX.keep [(1, _), (2, _), (3, _), (9, _), (15, _), (16, _)] ⟨rfl, rfl, rfl, rfl, rfl, rfl, trivial⟩ ?_
    refine WX.next ?_
    refine WC.cond rfl (ev_t rfl) (fun hc3 => ?_) (fun hc3 => ?_)
    · try (exfalso; first | (simp at hc3; done) | (simp only [decide_eq_true_eq, decide_eq_false_iff_not, Bool.not_eq_true', Bool.not_eq_false', Bool.not_eq_true, Bool.not_eq_false] at hc3; omega) | omega)
      all_goals
       try simp only [decide_eq_true_eq, decide_eq_false_iff_not, Bool.not_eq_true', Bool.not_eq_false', Bool.not_eq_true, Bool.not_eq_false, Option.isNone_none, Option.isNone_some, Option.isSome_none, Option.isSome_some, ne_eq, Decidable.not_not] at hc3
       refine WC.region ?_
       first | refine WL.val rfl rfl rfl rfl (r_field0 rfl (ev_t rfl) fld_44_2) ?_ | refine WL.val rfl rfl rfl rfl (r_fieldAt rfl (ev_t rfl) fld_44_2) ?_
       refine WL.val rfl rfl rfl rfl (r_load rfl (ev_t rfl) flat_3 (Blk.cell hB1 rfl)) ?_
       refine WL.val rfl rfl rfl rfl (r_assign rfl (ev_t rfl)) ?_
       refine WL.nil ?_
       refine WX.keep [(1, _), (2, _), (3, _), (9, _)] ⟨rfl, rfl, rfl, rfl, trivial⟩ ?_
       refine WX.blockNormal ?_
       refine WX.meet [(1, _), (2, _), (3, _), (9, _)] ⟨rfl, rfl, rfl, rfl, trivial⟩ ?_
       refine ⟨rfl, _, _, ?_, ?_, ?_, ?_, rfl⟩
       · first | exact wrap_inK _ _ | (simp only [inK]; omega)
       · first | exact wrap_inK _ _ | (simp only [inK]; omega)
       · intro hin
         simp (disch := omega) only [if_pos, if_neg] at hnn
         subst hnn
         first | rfl | exact wrap_in hin
       · intro _ _
         simp (disch := omega) only [if_pos, if_neg] at htt
         subst htt
         first | rfl | omega | exact wrap_i64_in (by omega) (by omega)
    · try (exfalso; first | (simp at hc3; done) | (simp only [decide_eq_true_eq, decide_eq_false_iff_not, Bool.not_eq_true', Bool.not_eq_false', Bool.not_eq_true, Bool.not_eq_false] at hc3; omega) | omega)
      all_goals
       try simp only [decide_eq_true_eq, decide_eq_false_iff_not, Bool.not_eq_true', Bool.not_eq_false', Bool.not_eq_true, Bool.not_eq_false, Option.isNone_none, Option.isNone_some, Option.isSome_none, Option.isSome_some, ne_eq, Decidable.not_not] at hc3
       refine WC.seq ?_
       refine WC.region ?_
       refine WL.val rfl rfl rfl rfl (r_eql rfl (ev_t rfl) ev_c) ?_
       refine WL.val rfl rfl rfl rfl (r_assign rfl (ev_t rfl)) ?_
       refine WL.nil ?_
       refine WX.keep [(1, _), (2, _), (3, _), (9, _), (15, _), (20, _)] ⟨rfl, rfl, rfl, rfl, rfl, rfl, trivial⟩ ?_
       refine WX.next ?_
       refine WC.cond rfl (ev_t rfl) (fun hc5 => ?_) (fun hc5 => ?_)
       · try (exfalso; first | (simp at hc5; done) | (simp only [decide_eq_true_eq, decide_eq_false_iff_not, Bool.not_eq_true', Bool.not_eq_false', Bool.not_eq_true, Bool.not_eq_false] at hc5; omega) | omega)
         all_goals
          try simp only [decide_eq_true_eq, decide_eq_false_iff_not, Bool.not_eq_true', Bool.not_eq_false', Bool.not_eq_true, Bool.not_eq_false, Option.isNone_none, Option.isNone_some, Option.isSome_none, Option.isSome_some, ne_eq, Decidable.not_not] at hc5
          refine WC.region ?_
          first | refine WL.val rfl rfl rfl rfl (r_field0 rfl (ev_t rfl) fld_44_1) ?_ | refine WL.val rfl rfl rfl rfl (r_fieldAt rfl (ev_t rfl) fld_44_1) ?_
          refine WL.val rfl rfl rfl rfl (r_load rfl (ev_t rfl) flat_2 (Blk.cell hB1 rfl)) ?_
          refine WL.val rfl rfl rfl rfl (r_assign rfl (ev_t rfl)) ?_
          refine WL.nil ?_
          refine WX.keep [(1, _), (2, _), (3, _), (9, _)] ⟨rfl, rfl, rfl, rfl, trivial⟩ ?_
          refine WX.blockNormal ?_
          refine WX.meet [(1, _), (2, _), (3, _), (9, _)] ⟨rfl, rfl, rfl, rfl, trivial⟩ ?_
          refine ⟨rfl, _, _, ?_, ?_, ?_, ?_, rfl⟩
          · first | exact wrap_inK _ _ | (simp only [inK]; omega)
          · first | exact wrap_inK _ _ | (simp only [inK]; omega)
          · intro hin
            simp (disch := omega) only [if_pos, if_neg] at hnn
            subst hnn
            first | rfl | exact wrap_in hin
          · intro _ _
            simp (disch := omega) only [if_pos, if_neg] at htt
            subst htt
            first | rfl | omega | exact wrap_i64_in (by omega) (by omega)
       · try (exfalso; first | (simp at hc5; done) | (simp only [decide_eq_true_eq, decide_eq_false_iff_not, Bool.not_eq_true', Bool.not_eq_false', Bool.not_eq_true, Bool.not_eq_false] at hc5; omega) | omega)
         all_goals
          try simp only [decide_eq_true_eq, decide_eq_false_iff_not, Bool.not_eq_true', Bool.not_eq_false', Bool.not_eq_true, Bool.not_eq_false, Option.isNone_none, Option.isNone_some, Option.isSome_none, Option.isSome_some, ne_eq, Decidable.not_not] at hc5
          refine WC.seq ?_
          refine WC.region ?_
          refine WL.val rfl rfl rfl rfl (r_eql rfl (ev_t rfl) ev_c) ?_
          refine WL.val rfl rfl rfl rfl (r_assign rfl (ev_t rfl)) ?_
          refine WL.nil ?_
          refine WX.keep [(1, _), (2, _), (3, _), (9, _), (15, _), (24, _)] ⟨rfl, rfl, rfl, rfl, rfl, rfl, trivial⟩ ?_
          refine WX.next ?_
          refine WC.cond rfl (ev_t rfl) (fun hc7 => ?_) (fun hc7 => ?_)
          · try (exfalso; first | (simp at hc7; done) | (simp only [decide_eq_true_eq, decide_eq_false_iff_not, Bool.not_eq_true', Bool.not_eq_false', Bool.not_eq_true, Bool.not_eq_false] at hc7; omega) | omega)
            all_goals
             try simp only [decide_eq_true_eq, decide_eq_false_iff_not, Bool.not_eq_true', Bool.not_eq_false', Bool.not_eq_true, Bool.not_eq_false, Option.isNone_none, Option.isNone_some, Option.isSome_none, Option.isSome_some, ne_eq, Decidable.not_not] at hc7
             refine WC.region ?_
             first | refine WL.val rfl rfl rfl rfl (r_field0 rfl (ev_t rfl) fld_44_1) ?_ | refine WL.val rfl rfl rfl rfl (r_fieldAt rfl (ev_t rfl) fld_44_1) ?_
             refine WL.val rfl rfl rfl rfl (r_load rfl (ev_t rfl) flat_2 (Blk.cell hB1 rfl)) ?_
             refine WL.val rfl rfl rfl rfl (r_add rfl (ev_t rfl) ev_c) ?_
             refine WL.val rfl rfl rfl rfl (r_assign rfl (ev_t rfl)) ?_
             refine WL.nil ?_
             refine WX.keep [(1, _), (2, _), (3, _), (9, _)] ⟨rfl, rfl, rfl, rfl, trivial⟩ ?_
             refine WX.blockNormal ?_
             refine WX.meet [(1, _), (2, _), (3, _), (9, _)] ⟨rfl, rfl, rfl, rfl, trivial⟩ ?_
             refine ⟨rfl, _, _, ?_, ?_, ?_, ?_, rfl⟩
             · first | exact wrap_inK _ _ | (simp only [inK]; omega)
             · first | exact wrap_inK _ _ | (simp only [inK]; omega)
             · intro hin
               simp (disch := omega) only [if_pos, if_neg] at hnn
               subst hnn
               first | rfl | exact wrap_in hin
             · intro _ _
               simp (disch := omega) only [if_pos, if_neg] at htt
               subst htt
               first | rfl | omega | exact wrap_i64_in (by omega) (by omega)
          · try (exfalso; first | (simp at hc7; done) | (simp only [decide_eq_true_eq, decide_eq_false_iff_not, Bool.not_eq_true', Bool.not_eq_false', Bool.not_eq_true, Bool.not_eq_false] at hc7; omega) | omega)
            all_goals
             try simp only [decide_eq_true_eq, decide_eq_false_iff_not, Bool.not_eq_true', Bool.not_eq_false', Bool.not_eq_true, Bool.not_eq_false, Option.isNone_none, Option.isNone_some, Option.isSome_none, Option.isSome_some, ne_eq, Decidable.not_not] at hc7
             refine WC.seq ?_
             refine WC.region ?_
             refine WL.val rfl rfl rfl rfl (r_eql rfl (ev_t rfl) ev_c) ?_
             refine WL.val rfl rfl rfl rfl (r_assign rfl (ev_t rfl)) ?_
             refine WL.nil ?_
             refine WX.keep [(1, _), (2, _), (3, _), (9, _), (15, _), (29, _)] ⟨rfl, rfl, rfl, rfl, rfl, rfl, trivial⟩ ?_
             refine WX.next ?_
             refine WC.cond rfl (ev_t rfl) (fun hc9 => ?_) (fun hc9 => ?_)
             · try (exfalso; first | (simp at hc9; done) | (simp only [decide_eq_true_eq, decide_eq_false_iff_not, Bool.not_eq_true', Bool.not_eq_false', Bool.not_eq_true, Bool.not_eq_false] at hc9; omega) | omega)
               all_goals
                try simp only [decide_eq_true_eq, decide_eq_false_iff_not, Bool.not_eq_true', Bool.not_eq_false', Bool.not_eq_true, Bool.not_eq_false, Option.isNone_none, Option.isNone_some, Option.isSome_none, Option.isSome_some, ne_eq, Decidable.not_not] at hc9
                refine WC.region ?_
                refine WL.val rfl rfl rfl rfl (r_move rfl (ev_t rfl)) ?_
                refine WL.val rfl rfl rfl rfl (r_add rfl (ev_t rfl) ev_c) ?_
                refine WL.val rfl rfl rfl rfl (r_assign rfl (ev_t rfl)) ?_
                refine WL.nil ?_
                refine WX.keep [(1, _), (2, _), (3, _), (9, _)] ⟨rfl, rfl, rfl, rfl, trivial⟩ ?_
                refine WX.blockNormal ?_
                refine WX.meet [(1, _), (2, _), (3, _), (9, _)] ⟨rfl, rfl, rfl, rfl, trivial⟩ ?_
                refine ⟨rfl, _, _, ?_, ?_, ?_, ?_, rfl⟩
                · first | exact wrap_inK _ _ | (simp only [inK]; omega)
                · first | exact wrap_inK _ _ | (simp only [inK]; omega)
                · intro hin
                  simp (disch := omega) only [if_pos, if_neg] at hnn
                  subst hnn
                  first | rfl | exact wrap_in hin
                · intro _ _
                  simp (disch := omega) only [if_pos, if_neg] at htt
                  subst htt
                  first | rfl | omega | exact wrap_i64_in (by omega) (by omega)
             · try (exfalso; first | (simp at hc9; done) | (simp only [decide_eq_true_eq, decide_eq_false_iff_not, Bool.not_eq_true', Bool.not_eq_false', Bool.not_eq_true, Bool.not_eq_false] at hc9; omega) | omega)
               all_goals
                try simp only [decide_eq_true_eq, decide_eq_false_iff_not, Bool.not_eq_true', Bool.not_eq_false', Bool.not_eq_true, Bool.not_eq_false, Option.isNone_none, Option.isNone_some, Option.isSome_none, Option.isSome_some, ne_eq, Decidable.not_not] at hc9
                refine WC.seq ?_
                refine WC.region ?_
                refine WL.val rfl rfl rfl rfl (r_eql rfl (ev_t rfl) ev_c) ?_
                refine WL.val rfl rfl rfl rfl (r_assign rfl (ev_t rfl)) ?_
                refine WL.nil ?_
                refine WX.keep [(1, _), (2, _), (3, _), (9, _), (33, _)] ⟨rfl, rfl, rfl, rfl, rfl, trivial⟩ ?_
                refine WX.next ?_
                refine WC.cond rfl (ev_t rfl) (fun hc11 => ?_) (fun hc11 => ?_)
                · try (exfalso; first | (simp at hc11; done) | (simp only [decide_eq_true_eq, decide_eq_false_iff_not, Bool.not_eq_true', Bool.not_eq_false', Bool.not_eq_true, Bool.not_eq_false] at hc11; omega) | omega)
                  all_goals
                   try simp only [decide_eq_true_eq, decide_eq_false_iff_not, Bool.not_eq_true', Bool.not_eq_false', Bool.not_eq_true, Bool.not_eq_false, Option.isNone_none, Option.isNone_some, Option.isSome_none, Option.isSome_some, ne_eq, Decidable.not_not] at hc11
                   refine WC.region ?_
                   refine WL.val rfl rfl rfl rfl (r_move rfl (ev_t rfl)) ?_
                   refine WL.val rfl rfl rfl rfl (r_sub rfl (ev_t rfl) ev_c) ?_
                   refine WL.val rfl rfl rfl rfl (r_assign rfl (ev_t rfl)) ?_
                   refine WL.nil ?_
                   refine WX.keep [(1, _), (2, _), (3, _), (9, _)] ⟨rfl, rfl, rfl, rfl, trivial⟩ ?_
                   refine WX.blockNormal ?_
                   refine WX.meet [(1, _), (2, _), (3, _), (9, _)] ⟨rfl, rfl, rfl, rfl, trivial⟩ ?_
                   refine ⟨rfl, _, _, ?_, ?_, ?_, ?_, rfl⟩
                   · first | exact wrap_inK _ _ | (simp only [inK]; omega)
                   · first | exact wrap_inK _ _ | (simp only [inK]; omega)
                   · intro hin
                     simp (disch := omega) only [if_pos, if_neg] at hnn
                     subst hnn
                     first | rfl | exact wrap_in hin
                   · intro _ _
                     simp (disch := omega) only [if_pos, if_neg] at htt
                     subst htt
                     first | rfl | omega | exact wrap_i64_in (by omega) (by omega)
                · try (exfalso; first | (simp at hc11; done) | (simp only [decide_eq_true_eq, decide_eq_false_iff_not, Bool.not_eq_true', Bool.not_eq_false', Bool.not_eq_true, Bool.not_eq_false] at hc11; omega) | omega)
                  all_goals
                   try simp only [decide_eq_true_eq, decide_eq_false_iff_not, Bool.not_eq_true', Bool.not_eq_false', Bool.not_eq_true, Bool.not_eq_false, Option.isNone_none, Option.isNone_some, Option.isSome_none, Option.isSome_some, ne_eq, Decidable.not_not] at hc11
                   refine WC.skip ?_
                   refine WX.blockNormal ?_
                   refine WX.meet [(1, _), (2, _), (3, _), (9, _)] ⟨rfl, rfl, rfl, rfl, trivial⟩ ?_
                   refine ⟨rfl, _, _, ?_, ?_, ?_, ?_, rfl⟩
                   · first | exact wrap_inK _ _ | (simp only [inK]; omega)
                   · first | exact wrap_inK _ _ | (simp only [inK]; omega)
                   · intro hin
                     simp (disch := omega) only [if_pos, if_neg] at hnn
                     subst hnn
                     first | rfl | exact wrap_in hin
                   · intro _ _
                     simp (disch := omega) only [if_pos, if_neg] at htt
                     subst htt
                     first | rfl | omega | exact wrap_i64_in (by omega) (by omega)
  · rintro E w2 ⟨rfl, n9, t2, hn9, ht2, hnq, htq, rfl⟩
    refine WC.seq ?_
    refine WC.draws' (fun u0_ u1_ => Upd No u0_ u1_) (fun j => [0, 0, 0, 0, 0, 0, 0, 0, 0, 0, 0, 0, 0, 0, 0, 0, 0, 1, 0, 1, 0, 0, 0, 0, 0].getD j 0) (.calm 0 (.calm 13 (.calm 14 (.calm 15 (.calm 16 (.calm 21 (.held 1 (.calm 2 (.calm 3 (.calm 4 (.held 5 (.calm 6 (.calm 7 (.calm 8 (.calm 9 (.held 10 (.calm 11 (.calm 12 (.calm 22 (.one 17 (.calm 18 (.one 19 (.calm 20 (.calm 23 (.calm 24 (.done)))))))))))))))))))))))))) mixed (by kernel_rfl) (by repeat (first | with_reducible exact Deaf.body | with_reducible apply Deaf.then | with_reducible apply Deaf.block)) ?_
    intro w2 hu2
    have hz2 := congrArg Array.size hu2.2.2.2
    replace hu2 := Upd.of_draw hu2
    have hs2 := hu2.size
    replace hU := hU.transA hu2
    replace hB1 := hB1.updA hu2
    have hS13 := Upd.refl No w2
    first | refine WN.calm _ rfl rfl rfl rfl rfl (fun _ => r_field0 rfl (ev_t rfl) fld_44_0) ?_ | refine WN.calm _ rfl rfl rfl rfl rfl (fun _ => r_fieldAt rfl (ev_t rfl) fld_44_0) ?_
    refine WN.calm _ rfl rfl rfl rfl rfl (fun _ => r_move rfl (ev_t rfl)) ?_
    refine WN.calm _ rfl rfl rfl rfl rfl (fun _ => r_move rfl (ev_t rfl)) ?_
    refine WN.calm _ rfl rfl rfl rfl rfl (fun _ => r_sub rfl (ev_t rfl) (ev_t rfl)) ?_
    first | refine WN.calm _ rfl rfl rfl rfl rfl (fun _ => r_field0 rfl (ev_t rfl) fld_44_0) ?_ | refine WN.calm _ rfl rfl rfl rfl rfl (fun _ => r_fieldAt rfl (ev_t rfl) fld_44_0) ?_
    refine WN.calm _ rfl rfl rfl rfl rfl (fun _ => r_move rfl (ev_t rfl)) ?_
    refine WN.held _ rfl rfl rfl rfl rfl hS13 (fun w' hS => r_load rfl (ev_t rfl) flat_5 (Blk.cell (hB1.upd hS (fun h => h)) rfl)) ?_
    refine WN.calm _ rfl rfl rfl rfl rfl (fun _ => r_neq rfl (ev_t rfl) ev_c) ?_
    refine WN.calm _ rfl rfl rfl rfl rfl (fun _ => r_move rfl (ev_t rfl)) ?_
    refine WN.cases 40 rfl (fun hb13_3 => ?_) (fun hb13_3 => ?_)
    · try (exfalso; first | (simp at hb13_3; done) | (simp only [decide_eq_true_eq, decide_eq_false_iff_not, Bool.not_eq_true', Bool.not_eq_false', Bool.not_eq_true, Bool.not_eq_false] at hb13_3; omega) | omega)
      all_goals
       try simp only [decide_eq_true_eq, decide_eq_false_iff_not, Bool.not_eq_true', Bool.not_eq_false', Bool.not_eq_true, Bool.not_eq_false, Option.isNone_none, Option.isNone_some, Option.isSome_none, Option.isSome_some, ne_eq, Decidable.not_not] at hb13_3
       first | refine WN.calm _ rfl rfl rfl rfl rfl (fun _ => r_field0 rfl (ev_t rfl) fld_44_0) ?_ | refine WN.calm _ rfl rfl rfl rfl rfl (fun _ => r_fieldAt rfl (ev_t rfl) fld_44_0) ?_
       refine WN.held _ rfl rfl rfl rfl rfl hS13 (fun w' hS => r_load rfl (ev_t rfl) flat_5 (Blk.cell (hB1.upd hS (fun h => h)) rfl)) ?_
       refine WN.calm _ rfl rfl rfl rfl rfl (fun _ => r_neq rfl (ev_t rfl) ev_c) ?_
       refine WN.calm _ rfl rfl rfl rfl rfl (fun _ => r_pickT rfl (ev_t rfl) (ev_t rfl)) ?_
       refine WN.calm _ rfl rfl rfl rfl rfl (fun _ => r_move rfl (ev_t rfl)) ?_
       refine WN.cases 45 rfl (fun hb13_8 => ?_) (fun hb13_8 => ?_)
       · try (exfalso; first | (simp at hb13_8; done) | (simp only [decide_eq_true_eq, decide_eq_false_iff_not, Bool.not_eq_true', Bool.not_eq_false', Bool.not_eq_true, Bool.not_eq_false] at hb13_8; omega) | omega)
         all_goals
          try simp only [decide_eq_true_eq, decide_eq_false_iff_not, Bool.not_eq_true', Bool.not_eq_false', Bool.not_eq_true, Bool.not_eq_false, Option.isNone_none, Option.isNone_some, Option.isSome_none, Option.isSome_some, ne_eq, Decidable.not_not] at hb13_8
          first | refine WN.calm _ rfl rfl rfl rfl rfl (fun _ => r_field0 rfl (ev_t rfl) fld_44_0) ?_ | refine WN.calm _ rfl rfl rfl rfl rfl (fun _ => r_fieldAt rfl (ev_t rfl) fld_44_0) ?_
          refine WN.held _ rfl rfl rfl rfl rfl hS13 (fun w' hS => r_load rfl (ev_t rfl) flat_5 (Blk.cell (hB1.upd hS (fun h => h)) rfl)) ?_
          refine WN.calm _ rfl rfl rfl rfl rfl (fun _ => r_neq rfl (ev_t rfl) ev_c) ?_
          refine WN.calm _ rfl rfl rfl rfl rfl (fun _ => r_pickT rfl (ev_t rfl) (ev_t rfl)) ?_
          refine WN.calm _ rfl rfl rfl rfl rfl (fun _ => r_assign rfl (ev_t rfl)) ?_
          refine WN.step _ rfl (SO.val rfl rfl rfl rfl (r_load rfl (ev_t rfl) flat_5 (Blk.cell hB1 rfl)) ?_)
          refine ⟨hS13, ?_⟩
          refine WN.calm _ rfl rfl rfl rfl rfl (fun _ => r_indexArr rfl ev_g (ev_t rfl) arr_82 size_3 (by omega) (by omega)) ?_
          refine WN.step _ rfl (SO.val rfl rfl rfl rfl (r_load rfl (ev_t rfl) flat_3 (Rd.cell (hT.upd hU).2 (j := op) (by omega) (lvT_cell (by omega)))) ?_)
          refine ⟨hS13, ?_⟩
          refine WN.calm _ rfl rfl rfl rfl rfl (fun _ => r_add rfl (ev_t rfl) (ev_t rfl)) ?_
          refine WN.calm _ rfl rfl rfl rfl rfl (fun _ => r_assign rfl (ev_t rfl)) ?_
          refine WN.calm _ rfl rfl rfl rfl rfl (fun _ => r_assign rfl (ev_t rfl)) ?_
          refine WN.done ?_
          refine WX.keep [(6, _), (7, _), (8, _)] ⟨rfl, rfl, rfl, trivial⟩ ?_
          refine WX.next ?_
          refine WC.ret ?_
          refine WX.retE (l := [.tmp 6, .tmp 7, .tmp 8]) (vs := [_, _, _]) rfl ⟨rfl, rfl, rfl, trivial⟩ ?_
          have key : ∀ b d' t', b = nx → (tupleOf [.bool b, .int .i64 d', .int .i64 t'] : Value) = .tuple #[.bool nx, .int .i64 d', .int .i64 t'] := fun b d' t' e => by subst e; rfl
          refine ⟨⟨_, _, key _ _ _ ?_, wrap_inK _ _, ht2, ?_, htq⟩, hU⟩
          · rw [← hnx, Bool.eq_iff_iff]
            simp only [Bool.and_eq_true, decide_eq_true_eq, Bool.false_eq_true, ne_eq, false_iff]
            omega
          · intro a1 a2 a3
            rw [hnq (by simp only [inK]; omega), wrap_i64_in (n := d - nn) (by omega) (by omega), wrap_i64_in (by omega) (by omega)]
       · try (exfalso; first | (simp at hb13_8; done) | (simp only [decide_eq_true_eq, decide_eq_false_iff_not, Bool.not_eq_true', Bool.not_eq_false', Bool.not_eq_true, Bool.not_eq_false] at hb13_8; omega) | omega)
         all_goals
          try simp only [decide_eq_true_eq, decide_eq_false_iff_not, Bool.not_eq_true', Bool.not_eq_false', Bool.not_eq_true, Bool.not_eq_false, Option.isNone_none, Option.isNone_some, Option.isSome_none, Option.isSome_some, ne_eq, Decidable.not_not] at hb13_8
          refine WN.skip _ rfl rfl rfl rfl ?_
          refine WN.heldSkip _ rfl rfl rfl rfl hS13 ?_
          refine WN.skip _ rfl rfl rfl rfl ?_
          refine WN.calm _ rfl rfl rfl rfl rfl (fun _ => r_pickF rfl (ev_t rfl) ev_c) ?_
          refine WN.calm _ rfl rfl rfl rfl rfl (fun _ => r_assign rfl (ev_t rfl)) ?_
          refine WN.step _ rfl (SO.val rfl rfl rfl rfl (r_load rfl (ev_t rfl) flat_5 (Blk.cell hB1 rfl)) ?_)
          refine ⟨hS13, ?_⟩
          refine WN.calm _ rfl rfl rfl rfl rfl (fun _ => r_indexArr rfl ev_g (ev_t rfl) arr_82 size_3 (by omega) (by omega)) ?_
          refine WN.step _ rfl (SO.val rfl rfl rfl rfl (r_load rfl (ev_t rfl) flat_3 (Rd.cell (hT.upd hU).2 (j := op) (by omega) (lvT_cell (by omega)))) ?_)
          refine ⟨hS13, ?_⟩
          refine WN.calm _ rfl rfl rfl rfl rfl (fun _ => r_add rfl (ev_t rfl) (ev_t rfl)) ?_
          refine WN.calm _ rfl rfl rfl rfl rfl (fun _ => r_assign rfl (ev_t rfl)) ?_
          refine WN.calm _ rfl rfl rfl rfl rfl (fun _ => r_assign rfl (ev_t rfl)) ?_
          refine WN.done ?_
          refine WX.keep [(6, _), (7, _), (8, _)] ⟨rfl, rfl, rfl, trivial⟩ ?_
          refine WX.next ?_
          refine WC.ret ?_
          refine WX.retE (l := [.tmp 6, .tmp 7, .tmp 8]) (vs := [_, _, _]) rfl ⟨rfl, rfl, rfl, trivial⟩ ?_
          have key : ∀ b d' t', b = nx → (tupleOf [.bool b, .int .i64 d', .int .i64 t'] : Value) = .tuple #[.bool nx, .int .i64 d', .int .i64 t'] := fun b d' t' e => by subst e; rfl
          refine ⟨⟨_, _, key _ _ _ ?_, wrap_inK _ _, ht2, ?_, htq⟩, hU⟩
          · rw [← hnx, Bool.eq_iff_iff]
            simp only [Bool.and_eq_true, decide_eq_true_eq, Bool.false_eq_true, ne_eq, false_iff]
            omega
          · intro a1 a2 a3
            rw [hnq (by simp only [inK]; omega), wrap_i64_in (n := d - nn) (by omega) (by omega), wrap_i64_in (by omega) (by omega)]
    · try (exfalso; first | (simp at hb13_3; done) | (simp only [decide_eq_true_eq, decide_eq_false_iff_not, Bool.not_eq_true', Bool.not_eq_false', Bool.not_eq_true, Bool.not_eq_false] at hb13_3; omega) | omega)
      all_goals
       try simp only [decide_eq_true_eq, decide_eq_false_iff_not, Bool.not_eq_true', Bool.not_eq_false', Bool.not_eq_true, Bool.not_eq_false, Option.isNone_none, Option.isNone_some, Option.isSome_none, Option.isSome_some, ne_eq, Decidable.not_not] at hb13_3
       refine WN.skip _ rfl rfl rfl rfl ?_
       refine WN.heldSkip _ rfl rfl rfl rfl hS13 ?_
       refine WN.skip _ rfl rfl rfl rfl ?_
       refine WN.calm _ rfl rfl rfl rfl rfl (fun _ => r_pickF rfl (ev_t rfl) ev_c) ?_
       refine WN.calm _ rfl rfl rfl rfl rfl (fun _ => r_move rfl (ev_t rfl)) ?_
       refine WN.skip _ rfl rfl rfl rfl ?_
       refine WN.heldSkip _ rfl rfl rfl rfl hS13 ?_
       refine WN.skip _ rfl rfl rfl rfl ?_
       refine WN.calm _ rfl rfl rfl rfl rfl (fun _ => r_pickF rfl (ev_t rfl) ev_c) ?_
       refine WN.calm _ rfl rfl rfl rfl rfl (fun _ => r_assign rfl (ev_t rfl)) ?_
       refine WN.step _ rfl (SO.val rfl rfl rfl rfl (r_load rfl (ev_t rfl) flat_5 (Blk.cell hB1 rfl)) ?_)
       refine ⟨hS13, ?_⟩
       refine WN.calm _ rfl rfl rfl rfl rfl (fun _ => r_indexArr rfl ev_g (ev_t rfl) arr_82 size_3 (by omega) (by omega)) ?_
       refine WN.step _ rfl (SO.val rfl rfl rfl rfl (r_load rfl (ev_t rfl) flat_3 (Rd.cell (hT.upd hU).2 (j := op) (by omega) (lvT_cell (by omega)))) ?_)
       refine ⟨hS13, ?_⟩
       refine WN.calm _ rfl rfl rfl rfl rfl (fun _ => r_add rfl (ev_t rfl) (ev_t rfl)) ?_
       refine WN.calm _ rfl rfl rfl rfl rfl (fun _ => r_assign rfl (ev_t rfl)) ?_
       refine WN.calm _ rfl rfl rfl rfl rfl (fun _ => r_assign rfl (ev_t rfl)) ?_
       refine WN.done ?_
       refine WX.keep [(6, _), (7, _), (8, _)] ⟨rfl, rfl, rfl, trivial⟩ ?_
       refine WX.next ?_
       refine WC.ret ?_
       refine WX.retE (l := [.tmp 6, .tmp 7, .tmp 8]) (vs := [_, _, _]) rfl ⟨rfl, rfl, rfl, trivial⟩ ?_
       have key : ∀ b d' t', b = nx → (tupleOf [.bool b, .int .i64 d', .int .i64 t'] : Value) = .tuple #[.bool nx, .int .i64 d', .int .i64 t'] := fun b d' t' e => by subst e; rfl
       refine ⟨⟨_, _, key _ _ _ ?_, wrap_inK _ _, ht2, ?_, htq⟩, hU⟩
       · rw [← hnx, Bool.eq_iff_iff]
         simp only [Bool.and_eq_true, decide_eq_true_eq, Bool.false_eq_true, ne_eq, false_iff]
         omega
       · intro a1 a2 a3
         rw [hnq (by simp only [inK]; omega), wrap_i64_in (n := d - nn) (by omega) (by omega), wrap_i64_in (by omega) (by omega)]
end Go.Proofs.YtipabhbnljadfaaDoor
