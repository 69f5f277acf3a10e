/-
  Several texts put together: Dr, Ds, Dt, Dv, Wq, Wbc.
-/
import Derived.Test.YtnjfhmlfpfkllaaZc
/-
  The drum's methods.
-/
namespace Go.Proofs.Ytnjfhmlfpfkllaa
open Go
set_option linter.unusedSimpArgs false
set_option linter.unusedVariables false

theorem blt_of {a b : Nat} (h : a < b) : Nat.blt a b = true := Eq.mpr Nat.blt_eq h

theorem look_nil {w : World} {i : Int} : Ret Try.prog 22 #[.pointer none, .int .i64 i] w fun v' w' => v' = .int .i64 6 ∧ w = w' := by
  refine enterRet (vs := [_, _]) (N := 25) Try.func22 rfl rfl rfl ?_
  refine WC.keep [(0, _), (1, _)] ⟨rfl, rfl, trivial⟩ ?_
  refine WC.seq ?_
  refine WC.region ?_
  refine WL.val rfl rfl rfl rfl (r_assign rfl ev_c) ?_
  refine WL.nil ?_
  refine WX.keep [(0, _), (1, _)] ⟨rfl, rfl, trivial⟩ ?_
  refine WX.next ?_
  refine WC.seq ?_
  refine WC.block ?_
  refine WC.seq ?_
  refine WC.region ?_
  refine WL.val rfl rfl rfl rfl (r_move rfl (ev_t rfl)) ?_
  refine WL.val rfl rfl rfl rfl (r_eqlPtrNil rfl (ev_t rfl) ev_c ptr_24) ?_
  refine WL.val rfl rfl rfl rfl (r_assign rfl (ev_t rfl)) ?_
  refine WL.nil ?_
  refine WX.keep [(0, _), (1, _), (5, _)] ⟨rfl, rfl, rfl, trivial⟩ ?_
  refine WX.next ?_
  refine WC.cond rfl (ev_t rfl) (fun hc1 => ?_) (fun hc1 => ?_)
  · try (exfalso; first | (simp at hc1; done) | (simp only [decide_eq_true_eq, decide_eq_false_iff_not, Bool.not_eq_true', Bool.not_eq_false', Bool.not_eq_true, Bool.not_eq_false] at hc1; omega) | omega)
    all_goals
     try simp only [decide_eq_true_eq, decide_eq_false_iff_not, Bool.not_eq_true', Bool.not_eq_false', Bool.not_eq_true, Bool.not_eq_false, Option.isNone_none, Option.isNone_some, Option.isSome_none, Option.isSome_some, ne_eq, Decidable.not_not] at hc1
     refine WC.seq ?_
     refine WC.region ?_
     refine WL.val rfl rfl rfl rfl (r_assign rfl ev_c) ?_
     refine WL.nil ?_
     refine WX.keep [(4, _)] ⟨rfl, trivial⟩ ?_
     refine WX.next ?_
     refine WC.ret ?_
     refine WX.blockRet ?_
     refine WX.thenRet ?_
     refine WX.retE1 rfl rfl ?_
     exact ⟨rfl, rfl⟩
  · try (exfalso; first | (simp at hc1; done) | (simp only [decide_eq_true_eq, decide_eq_false_iff_not, Bool.not_eq_true', Bool.not_eq_false', Bool.not_eq_true, Bool.not_eq_false] at hc1; omega) | omega)
    all_goals
     try simp only [decide_eq_true_eq, decide_eq_false_iff_not, Bool.not_eq_true', Bool.not_eq_false', Bool.not_eq_true, Bool.not_eq_false, Option.isNone_none, Option.isNone_some, Option.isSome_none, Option.isSome_some, ne_eq, Decidable.not_not] at hc1
     refine WC.seq ?_
     refine WC.region ?_
     refine WL.val rfl rfl rfl rfl (r_move rfl (ev_t rfl)) ?_
     refine WL.val rfl rfl rfl rfl (r_lss rfl (ev_t rfl) ev_c) ?_
     refine WL.val rfl rfl rfl rfl (r_move rfl (ev_t rfl)) ?_
     refine WL.cases 11 rfl (fun hb3_2 => ?_) (fun hb3_2 => ?_)
     · try (exfalso; first | (simp at hb3_2; done) | (simp only [decide_eq_true_eq, decide_eq_false_iff_not, Bool.not_eq_true', Bool.not_eq_false', Bool.not_eq_true, Bool.not_eq_false] at hb3_2; omega) | omega)
       all_goals
        try simp only [decide_eq_true_eq, decide_eq_false_iff_not, Bool.not_eq_true', Bool.not_eq_false', Bool.not_eq_true, Bool.not_eq_false, Option.isNone_none, Option.isNone_some, Option.isSome_none, Option.isSome_some, ne_eq, Decidable.not_not] at hb3_2
        refine WL.skip rfl rfl rfl ?_
        refine WL.skip rfl rfl rfl ?_
        refine WL.skip rfl rfl rfl ?_
        refine WL.skip rfl rfl rfl ?_
        refine WL.skip rfl rfl rfl ?_
        refine WL.skip rfl rfl rfl ?_
        refine WL.skip rfl rfl rfl ?_
        refine WL.val rfl rfl rfl rfl (r_pickT rfl (ev_t rfl) ev_c) ?_
        refine WL.val rfl rfl rfl rfl (r_assign rfl (ev_t rfl)) ?_
        refine WL.nil ?_
        refine WX.keep [(0, _), (8, _)] ⟨rfl, rfl, trivial⟩ ?_
        refine WX.next ?_
        refine WC.cond_true rfl (ev_t rfl) ?_
        refine WC.seq ?_
        refine WC.region ?_
        refine WL.val rfl rfl rfl rfl (r_assign rfl ev_c) ?_
        refine WL.nil ?_
        refine WX.keep [(4, _)] ⟨rfl, trivial⟩ ?_
        refine WX.next ?_
        refine WC.ret ?_
        refine WX.blockRet ?_
        refine WX.thenRet ?_
        refine WX.retE1 rfl rfl ?_
        fail
     · try (exfalso; first | (simp at hb3_2; done) | (simp only [decide_eq_true_eq, decide_eq_false_iff_not, Bool.not_eq_true', Bool.not_eq_false', Bool.not_eq_true, Bool.not_eq_false] at hb3_2; omega) | omega)
       all_goals
        try simp only [decide_eq_true_eq, decide_eq_false_iff_not, Bool.not_eq_true', Bool.not_eq_false', Bool.not_eq_true, Bool.not_eq_false, Option.isNone_none, Option.isNone_some, Option.isSome_none, Option.isSome_some, ne_eq, Decidable.not_not] at hb3_2
        refine WL.val rfl rfl rfl rfl (r_move rfl (ev_t rfl)) ?_
        refine WL.val rfl rfl rfl rfl (r_move rfl (ev_t rfl)) ?_
        refine WL.val rfl rfl rfl rfl (r_nilCheck rfl (ev_t rfl)) ?_
        first | refine WL.val rfl rfl rfl rfl (r_field0 rfl (ev_t rfl) fld_62_0) ?_ | refine WL.val rfl rfl rfl rfl (r_fieldAt rfl (ev_t rfl) fld_62_0) ?_
        fail -- load 3.7: no facts

theorem look_ok {w : World} {p g n : Nat} {D : DS} {i : Int} (hb : Blk w p (hdD g n D) 62) :
    Ret Try.prog 22 #[.pointer (some ⟨p, 0, none⟩), .int .i64 i] w fun v' w' => v' = .int .i64 (lookN n D.off i : Int) ∧ w = w' := by
  refine enterRet (vs := [_, _]) (N := 25) Try.func22 rfl rfl rfl ?_
  refine WC.keep [(0, _), (1, _)] ⟨rfl, rfl, trivial⟩ ?_
  refine WC.seq ?_
  refine WC.region ?_
  refine WL.val rfl rfl rfl rfl (r_assign rfl ev_c) ?_
  refine WL.nil ?_
  refine WX.keep [(0, _), (1, _)] ⟨rfl, rfl, trivial⟩ ?_
  refine WX.next ?_
  refine WC.seq ?_
  refine WC.block ?_
  refine WC.seq ?_
  refine WC.region ?_
  refine WL.val rfl rfl rfl rfl (r_move rfl (ev_t rfl)) ?_
  refine WL.val rfl rfl rfl rfl (r_eqlPtrNil rfl (ev_t rfl) ev_c ptr_24) ?_
  refine WL.val rfl rfl rfl rfl (r_assign rfl (ev_t rfl)) ?_
  refine WL.nil ?_
  refine WX.keep [(0, _), (1, _), (5, _)] ⟨rfl, rfl, rfl, trivial⟩ ?_
  refine WX.next ?_
  refine WC.cond rfl (ev_t rfl) (fun hc1 => ?_) (fun hc1 => ?_)
  · try (exfalso; first | (simp at hc1; done) | (simp only [decide_eq_true_eq, decide_eq_false_iff_not, Bool.not_eq_true', Bool.not_eq_false', Bool.not_eq_true, Bool.not_eq_false] at hc1; omega) | omega)
    all_goals
     try simp only [decide_eq_true_eq, decide_eq_false_iff_not, Bool.not_eq_true', Bool.not_eq_false', Bool.not_eq_true, Bool.not_eq_false, Option.isNone_none, Option.isNone_some, Option.isSome_none, Option.isSome_some, ne_eq, Decidable.not_not] at hc1
     refine WC.seq ?_
     refine WC.region ?_
     refine WL.val rfl rfl rfl rfl (r_assign rfl ev_c) ?_
     refine WL.nil ?_
     refine WX.keep [(4, _)] ⟨rfl, trivial⟩ ?_
     refine WX.next ?_
     refine WC.ret ?_
     refine WX.blockRet ?_
     refine WX.thenRet ?_
     refine WX.retE1 rfl rfl ?_
     fail
  · try (exfalso; first | (simp at hc1; done) | (simp only [decide_eq_true_eq, decide_eq_false_iff_not, Bool.not_eq_true', Bool.not_eq_false', Bool.not_eq_true, Bool.not_eq_false] at hc1; omega) | omega)
    all_goals
     try simp only [decide_eq_true_eq, decide_eq_false_iff_not, Bool.not_eq_true', Bool.not_eq_false', Bool.not_eq_true, Bool.not_eq_false, Option.isNone_none, Option.isNone_some, Option.isSome_none, Option.isSome_some, ne_eq, Decidable.not_not] at hc1
     refine WC.seq ?_
     refine WC.region ?_
     refine WL.val rfl rfl rfl rfl (r_move rfl (ev_t rfl)) ?_
     refine WL.val rfl rfl rfl rfl (r_lss rfl (ev_t rfl) ev_c) ?_
     refine WL.val rfl rfl rfl rfl (r_move rfl (ev_t rfl)) ?_
     refine WL.cases 11 rfl (fun hb3_2 => ?_) (fun hb3_2 => ?_)
     · try (exfalso; first | (simp at hb3_2; done) | (simp only [decide_eq_true_eq, decide_eq_false_iff_not, Bool.not_eq_true', Bool.not_eq_false', Bool.not_eq_true, Bool.not_eq_false] at hb3_2; omega) | omega)
       all_goals
        try simp only [decide_eq_true_eq, decide_eq_false_iff_not, Bool.not_eq_true', Bool.not_eq_false', Bool.not_eq_true, Bool.not_eq_false, Option.isNone_none, Option.isNone_some, Option.isSome_none, Option.isSome_some, ne_eq, Decidable.not_not] at hb3_2
        refine WL.skip rfl rfl rfl ?_
        refine WL.skip rfl rfl rfl ?_
        refine WL.skip rfl rfl rfl ?_
        refine WL.skip rfl rfl rfl ?_
        refine WL.skip rfl rfl rfl ?_
        refine WL.skip rfl rfl rfl ?_
        refine WL.skip rfl rfl rfl ?_
        refine WL.val rfl rfl rfl rfl (r_pickT rfl (ev_t rfl) ev_c) ?_
        refine WL.val rfl rfl rfl rfl (r_assign rfl (ev_t rfl)) ?_
        refine WL.nil ?_
        refine WX.keep [(0, _), (8, _)] ⟨rfl, rfl, trivial⟩ ?_
        refine WX.next ?_
        refine WC.cond_true rfl (ev_t rfl) ?_
        refine WC.seq ?_
        refine WC.region ?_
        refine WL.val rfl rfl rfl rfl (r_assign rfl ev_c) ?_
        refine WL.nil ?_
        refine WX.keep [(4, _)] ⟨rfl, trivial⟩ ?_
        refine WX.next ?_
        refine WC.ret ?_
        refine WX.blockRet ?_
        refine WX.thenRet ?_
        refine WX.retE1 rfl rfl ?_
        refine ⟨?_, rfl⟩
        unfold lookN
        rw [if_pos (by omega)]
        rfl
     · try (exfalso; first | (simp at hb3_2; done) | (simp only [decide_eq_true_eq, decide_eq_false_iff_not, Bool.not_eq_true', Bool.not_eq_false', Bool.not_eq_true, Bool.not_eq_false] at hb3_2; omega) | omega)
       all_goals
        try simp only [decide_eq_true_eq, decide_eq_false_iff_not, Bool.not_eq_true', Bool.not_eq_false', Bool.not_eq_true, Bool.not_eq_false, Option.isNone_none, Option.isNone_some, Option.isSome_none, Option.isSome_some, ne_eq, Decidable.not_not] at hb3_2
        refine WL.val rfl rfl rfl rfl (r_move rfl (ev_t rfl)) ?_
        refine WL.val rfl rfl rfl rfl (r_move rfl (ev_t rfl)) ?_
        refine WL.val rfl rfl rfl rfl (r_nilCheck rfl (ev_t rfl)) ?_
        first | refine WL.val rfl rfl rfl rfl (r_field0 rfl (ev_t rfl) fld_62_0) ?_ | refine WL.val rfl rfl rfl rfl (r_fieldAt rfl (ev_t rfl) fld_62_0) ?_
        refine WL.val rfl rfl rfl rfl (r_load rfl (ev_t rfl) flat_60 (Blk.cell hb rfl)) ?_
        refine WL.val rfl rfl rfl rfl (r_lenSlice (ts := #[]) rfl (ev_t rfl) elem_60) ?_
        refine WL.val rfl rfl rfl rfl (r_geq rfl (ev_t rfl) (ev_t rfl)) ?_
        refine WL.val rfl rfl rfl rfl (r_pickF rfl (ev_t rfl) (ev_t rfl)) ?_
        refine WL.val rfl rfl rfl rfl (r_assign rfl (ev_t rfl)) ?_
        refine WL.nil ?_
        refine WX.keep [(0, _), (8, _)] ⟨rfl, rfl, trivial⟩ ?_
        refine WX.next ?_
        refine WC.cond rfl (ev_t rfl) (fun hc3 => ?_) (fun hc3 => ?_)
        · try (exfalso; first | (simp at hc3; done) | (simp only [decide_eq_true_eq, decide_eq_false_iff_not, Bool.not_eq_true', Bool.not_eq_false', Bool.not_eq_true, Bool.not_eq_false] at hc3; omega) | omega)
          all_goals
           try simp only [decide_eq_true_eq, decide_eq_false_iff_not, Bool.not_eq_true', Bool.not_eq_false', Bool.not_eq_true, Bool.not_eq_false, Option.isNone_none, Option.isNone_some, Option.isSome_none, Option.isSome_some, ne_eq, Decidable.not_not] at hc3
           refine WC.seq ?_
           refine WC.region ?_
           refine WL.val rfl rfl rfl rfl (r_assign rfl ev_c) ?_
           refine WL.nil ?_
           refine WX.keep [(4, _)] ⟨rfl, trivial⟩ ?_
           refine WX.next ?_
           refine WC.ret ?_
           refine WX.blockRet ?_
           refine WX.thenRet ?_
           refine WX.retE1 rfl rfl ?_
           refine ⟨?_, rfl⟩
           unfold lookN
           rw [if_pos (by omega)]
           rfl
        · try (exfalso; first | (simp at hc3; done) | (simp only [decide_eq_true_eq, decide_eq_false_iff_not, Bool.not_eq_true', Bool.not_eq_false', Bool.not_eq_true, Bool.not_eq_false] at hc3; omega) | omega)
          all_goals
           try simp only [decide_eq_true_eq, decide_eq_false_iff_not, Bool.not_eq_true', Bool.not_eq_false', Bool.not_eq_true, Bool.not_eq_false, Option.isNone_none, Option.isNone_some, Option.isSome_none, Option.isSome_some, ne_eq, Decidable.not_not] at hc3
           refine WC.seq ?_
           refine WC.region ?_
           refine WL.val rfl rfl rfl rfl (r_move rfl (ev_t rfl)) ?_
           refine WL.val rfl rfl rfl rfl (r_nilCheck rfl (ev_t rfl)) ?_
           first | refine WL.val rfl rfl rfl rfl (r_field0 rfl (ev_t rfl) fld_62_4) ?_ | refine WL.val rfl rfl rfl rfl (r_fieldAt rfl (ev_t rfl) fld_62_4) ?_
           refine WL.val rfl rfl rfl rfl (r_load rfl (ev_t rfl) flat_4 (Blk.cell hb rfl)) ?_
           refine WL.val rfl rfl rfl rfl (r_assign rfl (ev_t rfl)) ?_
           refine WL.nil ?_
           refine WX.keep [(20, _)] ⟨rfl, trivial⟩ ?_
           refine WX.next ?_
           refine WC.cond rfl (ev_t rfl) (fun hc5 => ?_) (fun hc5 => ?_)
           · try (exfalso; first | (simp at hc5; done) | (simp only [decide_eq_true_eq, decide_eq_false_iff_not, Bool.not_eq_true', Bool.not_eq_false', Bool.not_eq_true, Bool.not_eq_false] at hc5; omega) | omega)
             all_goals
              try simp only [decide_eq_true_eq, decide_eq_false_iff_not, Bool.not_eq_true', Bool.not_eq_false', Bool.not_eq_true, Bool.not_eq_false, Option.isNone_none, Option.isNone_some, Option.isSome_none, Option.isSome_some, ne_eq, Decidable.not_not] at hc5
              refine WC.seq ?_
              refine WC.region ?_
              refine WL.val rfl rfl rfl rfl (r_assign rfl ev_c) ?_
              refine WL.nil ?_
              refine WX.keep [(4, _)] ⟨rfl, trivial⟩ ?_
              refine WX.next ?_
              refine WC.ret ?_
              refine WX.blockRet ?_
              refine WX.thenRet ?_
              refine WX.retE1 rfl rfl ?_
              refine ⟨?_, rfl⟩
              unfold lookN
              rw [if_neg (by omega), if_pos hc5]
              rfl
           · try (exfalso; first | (simp at hc5; done) | (simp only [decide_eq_true_eq, decide_eq_false_iff_not, Bool.not_eq_true', Bool.not_eq_false', Bool.not_eq_true, Bool.not_eq_false] at hc5; omega) | omega)
             all_goals
              try simp only [decide_eq_true_eq, decide_eq_false_iff_not, Bool.not_eq_true', Bool.not_eq_false', Bool.not_eq_true, Bool.not_eq_false, Option.isNone_none, Option.isNone_some, Option.isSome_none, Option.isSome_some, ne_eq, Decidable.not_not] at hc5
              refine WC.skip ?_
              refine WX.blockNormal ?_
              refine WX.next ?_
              refine WC.seq ?_
              refine WC.region ?_
              refine WL.val rfl rfl rfl rfl (r_assign rfl ev_c) ?_
              refine WL.nil ?_
              refine WX.keep [(4, _)] ⟨rfl, trivial⟩ ?_
              refine WX.next ?_
              refine WC.ret ?_
              refine WX.retE1 rfl rfl ?_
              refine ⟨?_, rfl⟩
              unfold lookN
              rw [if_neg (by omega), if_neg (by rw [hc5]; simp)]
              rfl

theorem begin_ok {w : World} {p g n : Nat} {D : DS} (hb : Blk w p (hdD g n D) 62) (ha : inK .i64 D.armed) :
    Ret Try.prog 23 #[.pointer (some ⟨p, 0, none⟩)] w fun v' w' => v' = .bool (!D.begin.off) ∧ Blk w' p (hdD g n D.begin) 62 ∧ Upd (At p) w w' := by
  simp only [inK] at ha
  refine enterRet (vs := [_]) (N := 35) Try.func23 rfl rfl rfl ?_
  have hU := Upd.refl (At p) w
  refine WC.keep [(0, _)] ⟨rfl, trivial⟩ ?_
  refine WC.seq ?_
  refine WC.region ?_
  refine WL.val rfl rfl rfl rfl (r_assign rfl ev_c) ?_
  refine WL.nil ?_
  refine WX.keep [(0, _)] ⟨rfl, trivial⟩ ?_
  refine WX.next ?_
  refine WC.seq ?_
  refine WC.region ?_
  refine WL.val rfl rfl rfl rfl (r_move rfl (ev_t rfl)) ?_
  refine WL.val rfl rfl rfl rfl (r_nilCheck rfl (ev_t rfl)) ?_
  first | refine WL.val rfl rfl rfl rfl (r_field0 rfl (ev_t rfl) fld_62_2) ?_ | refine WL.val rfl rfl rfl rfl (r_fieldAt rfl (ev_t rfl) fld_62_2) ?_
  refine WL.val rfl rfl rfl rfl (r_load rfl (ev_t rfl) flat_3 (Blk.cell hb rfl)) ?_
  refine WL.val rfl rfl rfl rfl (r_add rfl (ev_t rfl) ev_c) ?_
  refine WL.val rfl rfl rfl rfl (r_nilCheck rfl (ev_t rfl)) ?_
  first | refine WL.val rfl rfl rfl rfl (r_field0 rfl (ev_t rfl) fld_62_2) ?_ | refine WL.val rfl rfl rfl rfl (r_fieldAt rfl (ev_t rfl) fld_62_2) ?_
  refine WL.cons (SO.store rfl (ev_t rfl) (ev_t rfl) size_3 hb rfl rfl rfl rfl rfl ?_)
  intro w1 hu1 hb hz1
  have hs1 := hu1.size
  replace hU := hU.transA hu1
  refine WL.nil ?_
  refine WX.keep [(0, _)] ⟨rfl, trivial⟩ ?_
  refine WX.next ?_
  refine WC.seq ?_
  refine WC.seq ?_
  refine WC.region ?_
  refine WL.val rfl rfl rfl rfl (r_move rfl (ev_t rfl)) ?_
  refine WL.val rfl rfl rfl rfl (r_nilCheck rfl (ev_t rfl)) ?_
  first | refine WL.val rfl rfl rfl rfl (r_field0 rfl (ev_t rfl) fld_62_3) ?_ | refine WL.val rfl rfl rfl rfl (r_fieldAt rfl (ev_t rfl) fld_62_3) ?_
  refine WL.val rfl rfl rfl rfl (r_load rfl (ev_t rfl) flat_3 (Blk.cell hb rfl)) ?_
  refine WL.val rfl rfl rfl rfl (r_gtr rfl (ev_t rfl) ev_c) ?_
  refine WL.nil ?_
  refine WX.keep [(0, _), (14, _)] ⟨rfl, rfl, trivial⟩ ?_
  refine WX.next ?_
  refine WC.cond rfl (ev_t rfl) (fun hc2 => ?_) (fun hc2 => ?_)
  · try (exfalso; first | (simp at hc2; done) | (simp only [decide_eq_true_eq, decide_eq_false_iff_not, Bool.not_eq_true', Bool.not_eq_false', Bool.not_eq_true, Bool.not_eq_false] at hc2; omega) | omega)
    all_goals
     try simp only [decide_eq_true_eq, decide_eq_false_iff_not, Bool.not_eq_true', Bool.not_eq_false', Bool.not_eq_true, Bool.not_eq_false, Option.isNone_none, Option.isNone_some, Option.isSome_none, Option.isSome_some, ne_eq, Decidable.not_not] at hc2
     have e1 : D.begin = { D with ops := IntKind.i64.wrap (D.ops + 1), armed := D.armed - 1, off := decide (D.armed - 1 = 0) } := by unfold DS.begin armB; rw [if_pos (by omega)]
     refine WC.seq ?_
     refine WC.region ?_
     refine WL.val rfl rfl rfl rfl (r_move rfl (ev_t rfl)) ?_
     refine WL.val rfl rfl rfl rfl (r_nilCheck rfl (ev_t rfl)) ?_
     first | refine WL.val rfl rfl rfl rfl (r_field0 rfl (ev_t rfl) fld_62_3) ?_ | refine WL.val rfl rfl rfl rfl (r_fieldAt rfl (ev_t rfl) fld_62_3) ?_
     refine WL.val rfl rfl rfl rfl (r_load rfl (ev_t rfl) flat_3 (Blk.cell hb rfl)) ?_
     first | refine WL.val rfl rfl rfl rfl (r_subN rfl (ev_t rfl) ev_c (by simp only [inK]; omega)) ?_ | refine WL.val rfl rfl rfl rfl (r_sub rfl (ev_t rfl) ev_c) ?_
     refine WL.val rfl rfl rfl rfl (r_nilCheck rfl (ev_t rfl)) ?_
     first | refine WL.val rfl rfl rfl rfl (r_field0 rfl (ev_t rfl) fld_62_3) ?_ | refine WL.val rfl rfl rfl rfl (r_fieldAt rfl (ev_t rfl) fld_62_3) ?_
     refine WL.cons (SO.store rfl (ev_t rfl) (ev_t rfl) size_3 hb rfl rfl rfl rfl rfl ?_)
     intro w2 hu2 hb hz2
     have hs2 := hu2.size
     replace hU := hU.transA hu2
     refine WL.nil ?_
     refine WX.keep [(0, _)] ⟨rfl, trivial⟩ ?_
     refine WX.next ?_
     refine WC.region ?_
     refine WL.val rfl rfl rfl rfl (r_move rfl (ev_t rfl)) ?_
     refine WL.val rfl rfl rfl rfl (r_move rfl (ev_t rfl)) ?_
     refine WL.val rfl rfl rfl rfl (r_nilCheck rfl (ev_t rfl)) ?_
     first | refine WL.val rfl rfl rfl rfl (r_field0 rfl (ev_t rfl) fld_62_3) ?_ | refine WL.val rfl rfl rfl rfl (r_fieldAt rfl (ev_t rfl) fld_62_3) ?_
     refine WL.val rfl rfl rfl rfl (r_load rfl (ev_t rfl) flat_3 (Blk.cell hb rfl)) ?_
     refine WL.val rfl rfl rfl rfl (r_eql rfl (ev_t rfl) ev_c) ?_
     refine WL.val rfl rfl rfl rfl (r_nilCheck rfl (ev_t rfl)) ?_
     first | refine WL.val rfl rfl rfl rfl (r_field0 rfl (ev_t rfl) fld_62_4) ?_ | refine WL.val rfl rfl rfl rfl (r_fieldAt rfl (ev_t rfl) fld_62_4) ?_
     refine WL.cons (SO.store rfl (ev_t rfl) (ev_t rfl) size_4 hb rfl rfl rfl rfl rfl ?_)
     intro w3 hu3 hb hz3
     have hs3 := hu3.size
     replace hU := hU.transA hu3
     refine WL.nil ?_
     refine WX.keep [(0, _)] ⟨rfl, trivial⟩ ?_
     refine WX.next ?_
     refine WC.seq ?_
     refine WC.region ?_
     refine WL.val rfl rfl rfl rfl (r_move rfl (ev_t rfl)) ?_
     refine WL.val rfl rfl rfl rfl (r_nilCheck rfl (ev_t rfl)) ?_
     first | refine WL.val rfl rfl rfl rfl (r_field0 rfl (ev_t rfl) fld_62_4) ?_ | refine WL.val rfl rfl rfl rfl (r_fieldAt rfl (ev_t rfl) fld_62_4) ?_
     refine WL.val rfl rfl rfl rfl (r_load rfl (ev_t rfl) flat_4 (Blk.cell hb rfl)) ?_
     refine WL.val rfl rfl rfl rfl (r_not rfl (ev_t rfl)) ?_
     refine WL.val rfl rfl rfl rfl (r_assign rfl (ev_t rfl)) ?_
     refine WL.nil ?_
     refine WX.keep [(2, _)] ⟨rfl, trivial⟩ ?_
     refine WX.next ?_
     refine WC.ret ?_
     refine WX.retE1 rfl rfl ?_
     rw [e1]
     exact ⟨rfl, hb, hU⟩
  · try (exfalso; first | (simp at hc2; done) | (simp only [decide_eq_true_eq, decide_eq_false_iff_not, Bool.not_eq_true', Bool.not_eq_false', Bool.not_eq_true, Bool.not_eq_false] at hc2; omega) | omega)
    all_goals
     try simp only [decide_eq_true_eq, decide_eq_false_iff_not, Bool.not_eq_true', Bool.not_eq_false', Bool.not_eq_true, Bool.not_eq_false, Option.isNone_none, Option.isNone_some, Option.isSome_none, Option.isSome_some, ne_eq, Decidable.not_not] at hc2
     have e1 : D.begin = { D with ops := IntKind.i64.wrap (D.ops + 1) } := by unfold DS.begin armB; rw [if_neg (by omega)]
     refine WC.skip ?_
     refine WX.next ?_
     refine WC.seq ?_
     refine WC.region ?_
     refine WL.val rfl rfl rfl rfl (r_move rfl (ev_t rfl)) ?_
     refine WL.val rfl rfl rfl rfl (r_nilCheck rfl (ev_t rfl)) ?_
     first | refine WL.val rfl rfl rfl rfl (r_field0 rfl (ev_t rfl) fld_62_4) ?_ | refine WL.val rfl rfl rfl rfl (r_fieldAt rfl (ev_t rfl) fld_62_4) ?_
     refine WL.val rfl rfl rfl rfl (r_load rfl (ev_t rfl) flat_4 (Blk.cell hb rfl)) ?_
     refine WL.val rfl rfl rfl rfl (r_not rfl (ev_t rfl)) ?_
     refine WL.val rfl rfl rfl rfl (r_assign rfl (ev_t rfl)) ?_
     refine WL.nil ?_
     refine WX.keep [(2, _)] ⟨rfl, trivial⟩ ?_
     refine WX.next ?_
     refine WC.ret ?_
     refine WX.retE1 rfl rfl ?_
     rw [e1]
     exact ⟨rfl, hb, hU⟩
end Go.Proofs.Ytnjfhmlfpfkllaa

/-
  The drum's methods: New, On, Ops, Tracks, Most, Arm, Append, Read, Write, Sync.
-/
namespace Go.Proofs.Ytnjfhmlfpfkllaa
open Go
set_option linter.unusedSimpArgs false
set_option linter.unusedVariables false

def trkV0 : TrkV := ⟨.slice none 0 0, .slice none 0 0, false, fun _ => False, fun _ => False⟩
def DS.new (n : Nat) (most : Int) : DS := { l := List.replicate n ⟨[], [], false⟩, most := most, ops := 0, armed := 0, off := false }
theorem trkC_new : ∀ n, trkC (List.replicate n trkV0) = (List.replicate n [Value.slice none 0 0, .slice none 0 0, .bool false]).flatten
  | 0 => rfl
  | n + 1 => by rw [List.replicate_succ, List.replicate_succ, trkC_cons, List.flatten_cons, trkC_new n]; rfl

/-- the row's cells -/
theorem row_get {w : World} {g i q : Nat} {l : List TrkV} {t : TrkV} {T : TypeId} (h : Blk w g (trkC l).toArray T) (ht : l[i]? = some t) :
    (q = i * 3 → w.cell? ⟨g, q, none⟩ = some t.sv) ∧ (q = i * 3 + 1 → w.cell? ⟨g, q, none⟩ = some t.nv) ∧ (q = i * 3 + 2 → w.cell? ⟨g, q, none⟩ = some (.bool t.fr)) := by
  have h1 := trkC_get ht
  exact ⟨fun e => by subst e; exact h.cell (by simpa using h1.1), fun e => by subst e; exact h.cell (by simpa using h1.2.1), fun e => by subst e; exact h.cell (by simpa using h1.2.2)⟩
theorem row_set {w : World} {g i q : Nat} {l : List TrkV} {t : TrkV} {T : TypeId} (ht : l[i]? = some t) :
    (∀ v, q = i * 3 → Blk w g ((trkC l).toArray.setIfInBounds q v) T → Blk w g (trkC (l.set i { t with sv := v })).toArray T) ∧
    (∀ v, q = i * 3 + 1 → Blk w g ((trkC l).toArray.setIfInBounds q v) T → Blk w g (trkC (l.set i { t with nv := v })).toArray T) ∧
    (∀ b, q = i * 3 + 2 → Blk w g ((trkC l).toArray.setIfInBounds q (.bool b)) T → Blk w g (trkC (l.set i { t with fr := b })).toArray T) := by
  have h1 := trkC_set ht
  refine ⟨fun v e h => ?_, fun v e h => ?_, fun v e h => ?_⟩ <;> subst e
  · rw [← h1.1 v]; simpa using h
  · rw [← h1.2.1 v]; simpa using h
  · rw [← h1.2.2 v]; simpa using h
theorem trkC_size (l : List TrkV) : (trkC l).toArray.size = l.length * 3 := by rw [List.size_toArray, trkC_length]

theorem Dnew_bad {w : World} {n most : Int} (h : n < 1 ∨ 8 < n ∨ most < 1 ∨ 1048576 < most) :
    Ret Try.prog 15 #[.int .i64 n, .int .i64 most] w fun v' w' => v' = .tuple #[.pointer none, .int .i64 1] ∧ w = w' := by
  refine enterRet (vs := [_, _]) (N := 25) Try.func15 rfl rfl rfl ?_
  refine WC.keep [(0, _), (1, _)] ⟨rfl, rfl, trivial⟩ ?_
  refine WC.seq ?_
  refine WC.region ?_
  refine WL.val rfl rfl rfl rfl (r_assign rfl ev_c) ?_
  refine WL.val rfl rfl rfl rfl (r_assign rfl ev_c) ?_
  refine WL.nil ?_
  refine WX.keep [(0, _), (1, _)] ⟨rfl, rfl, trivial⟩ ?_
  refine WX.next ?_
  refine WC.seq ?_
  refine WC.seq ?_
  refine WC.region ?_
  refine WL.val rfl rfl rfl rfl (r_move rfl (ev_t rfl)) ?_
  refine WL.val rfl rfl rfl rfl (r_lss rfl (ev_t rfl) ev_c) ?_
  refine WL.val rfl rfl rfl rfl (r_move rfl (ev_t rfl)) ?_
  refine WL.cases 8 rfl (fun hb1_2 => ?_) (fun hb1_2 => ?_)
  · try (exfalso; first | (simp at hb1_2; done) | (simp only [decide_eq_true_eq, decide_eq_false_iff_not, Bool.not_eq_true', Bool.not_eq_false', Bool.not_eq_true, Bool.not_eq_false] at hb1_2; omega) | omega)
    all_goals
     try simp only [decide_eq_true_eq, decide_eq_false_iff_not, Bool.not_eq_true', Bool.not_eq_false', Bool.not_eq_true, Bool.not_eq_false, Option.isNone_none, Option.isNone_some, Option.isSome_none, Option.isSome_some, ne_eq, Decidable.not_not] at hb1_2
     refine WL.skip rfl rfl rfl ?_
     refine WL.skip rfl rfl rfl ?_
     refine WL.val rfl rfl rfl rfl (r_pickT rfl (ev_t rfl) ev_c) ?_
     refine WL.val rfl rfl rfl rfl (r_move rfl (ev_t rfl)) ?_
     refine WL.skip rfl rfl rfl ?_
     refine WL.skip rfl rfl rfl ?_
     refine WL.val rfl rfl rfl rfl (r_pickT rfl (ev_t rfl) ev_c) ?_
     refine WL.val rfl rfl rfl rfl (r_move rfl (ev_t rfl)) ?_
     refine WL.skip rfl rfl rfl ?_
     refine WL.skip rfl rfl rfl ?_
     refine WL.val rfl rfl rfl rfl (r_pickT rfl (ev_t rfl) ev_c) ?_
     refine WL.nil ?_
     refine WX.keep [(0, _), (1, _), (19, _)] ⟨rfl, rfl, rfl, trivial⟩ ?_
     refine WX.next ?_
     refine WC.cond_true rfl (ev_t rfl) ?_
     refine WC.seq ?_
     refine WC.region ?_
     refine WL.val rfl rfl rfl rfl (r_assign rfl ev_c) ?_
     refine WL.val rfl rfl rfl rfl (r_assign rfl ev_c) ?_
     refine WL.nil ?_
     refine WX.keep [(4, _), (5, _)] ⟨rfl, rfl, trivial⟩ ?_
     refine WX.next ?_
     refine WC.ret ?_
     refine WX.thenRet ?_
     refine WX.retE2 rfl rfl rfl ?_
     exact ⟨rfl, rfl⟩
  · try (exfalso; first | (simp at hb1_2; done) | (simp only [decide_eq_true_eq, decide_eq_false_iff_not, Bool.not_eq_true', Bool.not_eq_false', Bool.not_eq_true, Bool.not_eq_false] at hb1_2; omega) | omega)
    all_goals
     try simp only [decide_eq_true_eq, decide_eq_false_iff_not, Bool.not_eq_true', Bool.not_eq_false', Bool.not_eq_true, Bool.not_eq_false, Option.isNone_none, Option.isNone_some, Option.isSome_none, Option.isSome_some, ne_eq, Decidable.not_not] at hb1_2
     skip
     refine WL.val rfl rfl rfl rfl (r_move rfl (ev_t rfl)) ?_
     refine WL.val rfl rfl rfl rfl (r_gtr rfl (ev_t rfl) ev_c) ?_
     refine WL.val rfl rfl rfl rfl (r_pickF rfl (ev_t rfl) (ev_t rfl)) ?_
     refine WL.val rfl rfl rfl rfl (r_move rfl (ev_t rfl)) ?_
     refine WL.cases 12 rfl (fun hb1_6 => ?_) (fun hb1_6 => ?_)
     · try (exfalso; first | (simp at hb1_6; done) | (simp only [decide_eq_true_eq, decide_eq_false_iff_not, Bool.not_eq_true', Bool.not_eq_false', Bool.not_eq_true, Bool.not_eq_false] at hb1_6; omega) | omega)
       all_goals
        try simp only [decide_eq_true_eq, decide_eq_false_iff_not, Bool.not_eq_true', Bool.not_eq_false', Bool.not_eq_true, Bool.not_eq_false, Option.isNone_none, Option.isNone_some, Option.isSome_none, Option.isSome_some, ne_eq, Decidable.not_not] at hb1_6
        refine WL.skip rfl rfl rfl ?_
        refine WL.skip rfl rfl rfl ?_
        refine WL.val rfl rfl rfl rfl (r_pickT rfl (ev_t rfl) ev_c) ?_
        refine WL.val rfl rfl rfl rfl (r_move rfl (ev_t rfl)) ?_
        refine WL.skip rfl rfl rfl ?_
        refine WL.skip rfl rfl rfl ?_
        refine WL.val rfl rfl rfl rfl (r_pickT rfl (ev_t rfl) ev_c) ?_
        refine WL.nil ?_
        refine WX.keep [(0, _), (1, _), (19, _)] ⟨rfl, rfl, rfl, trivial⟩ ?_
        refine WX.next ?_
        refine WC.cond_true rfl (ev_t rfl) ?_
        refine WC.seq ?_
        refine WC.region ?_
        refine WL.val rfl rfl rfl rfl (r_assign rfl ev_c) ?_
        refine WL.val rfl rfl rfl rfl (r_assign rfl ev_c) ?_
        refine WL.nil ?_
        refine WX.keep [(4, _), (5, _)] ⟨rfl, rfl, trivial⟩ ?_
        refine WX.next ?_
        refine WC.ret ?_
        refine WX.thenRet ?_
        refine WX.retE2 rfl rfl rfl ?_
        exact ⟨rfl, rfl⟩
     · try (exfalso; first | (simp at hb1_6; done) | (simp only [decide_eq_true_eq, decide_eq_false_iff_not, Bool.not_eq_true', Bool.not_eq_false', Bool.not_eq_true, Bool.not_eq_false] at hb1_6; omega) | omega)
       all_goals
        try simp only [decide_eq_true_eq, decide_eq_false_iff_not, Bool.not_eq_true', Bool.not_eq_false', Bool.not_eq_true, Bool.not_eq_false, Option.isNone_none, Option.isNone_some, Option.isSome_none, Option.isSome_some, ne_eq, Decidable.not_not] at hb1_6
        refine WL.val rfl rfl rfl rfl (r_move rfl (ev_t rfl)) ?_
        refine WL.val rfl rfl rfl rfl (r_lss rfl (ev_t rfl) ev_c) ?_
        refine WL.val rfl rfl rfl rfl (r_pickF rfl (ev_t rfl) (ev_t rfl)) ?_
        refine WL.val rfl rfl rfl rfl (r_move rfl (ev_t rfl)) ?_
        refine WL.cases 16 rfl (fun hb1_10 => ?_) (fun hb1_10 => ?_)
        · try (exfalso; first | (simp at hb1_10; done) | (simp only [decide_eq_true_eq, decide_eq_false_iff_not, Bool.not_eq_true', Bool.not_eq_false', Bool.not_eq_true, Bool.not_eq_false] at hb1_10; omega) | omega)
          all_goals
           try simp only [decide_eq_true_eq, decide_eq_false_iff_not, Bool.not_eq_true', Bool.not_eq_false', Bool.not_eq_true, Bool.not_eq_false, Option.isNone_none, Option.isNone_some, Option.isSome_none, Option.isSome_some, ne_eq, Decidable.not_not] at hb1_10
           refine WL.skip rfl rfl rfl ?_
           refine WL.skip rfl rfl rfl ?_
           refine WL.val rfl rfl rfl rfl (r_pickT rfl (ev_t rfl) ev_c) ?_
           refine WL.nil ?_
           refine WX.keep [(0, _), (1, _), (19, _)] ⟨rfl, rfl, rfl, trivial⟩ ?_
           refine WX.next ?_
           refine WC.cond_true rfl (ev_t rfl) ?_
           refine WC.seq ?_
           refine WC.region ?_
           refine WL.val rfl rfl rfl rfl (r_assign rfl ev_c) ?_
           refine WL.val rfl rfl rfl rfl (r_assign rfl ev_c) ?_
           refine WL.nil ?_
           refine WX.keep [(4, _), (5, _)] ⟨rfl, rfl, trivial⟩ ?_
           refine WX.next ?_
           refine WC.ret ?_
           refine WX.thenRet ?_
           refine WX.retE2 rfl rfl rfl ?_
           exact ⟨rfl, rfl⟩
        · try (exfalso; first | (simp at hb1_10; done) | (simp only [decide_eq_true_eq, decide_eq_false_iff_not, Bool.not_eq_true', Bool.not_eq_false', Bool.not_eq_true, Bool.not_eq_false] at hb1_10; omega) | omega)
          all_goals
           try simp only [decide_eq_true_eq, decide_eq_false_iff_not, Bool.not_eq_true', Bool.not_eq_false', Bool.not_eq_true, Bool.not_eq_false, Option.isNone_none, Option.isNone_some, Option.isSome_none, Option.isSome_some, ne_eq, Decidable.not_not] at hb1_10
           refine WL.val rfl rfl rfl rfl (r_move rfl (ev_t rfl)) ?_
           refine WL.val rfl rfl rfl rfl (r_gtr rfl (ev_t rfl) ev_c) ?_
           refine WL.val rfl rfl rfl rfl (r_pickF rfl (ev_t rfl) (ev_t rfl)) ?_
           refine WL.nil ?_
           refine WX.keep [(0, _), (1, _), (19, _)] ⟨rfl, rfl, rfl, trivial⟩ ?_
           refine WX.next ?_
           refine WC.cond rfl (ev_t rfl) (fun hc1 => ?_) (fun hc1 => ?_)
           · try (exfalso; first | (simp at hc1; done) | (simp only [decide_eq_true_eq, decide_eq_false_iff_not, Bool.not_eq_true', Bool.not_eq_false', Bool.not_eq_true, Bool.not_eq_false] at hc1; omega) | omega)
             all_goals
              try simp only [decide_eq_true_eq, decide_eq_false_iff_not, Bool.not_eq_true', Bool.not_eq_false', Bool.not_eq_true, Bool.not_eq_false, Option.isNone_none, Option.isNone_some, Option.isSome_none, Option.isSome_some, ne_eq, Decidable.not_not] at hc1
              refine WC.seq ?_
              refine WC.region ?_
              refine WL.val rfl rfl rfl rfl (r_assign rfl ev_c) ?_
              refine WL.val rfl rfl rfl rfl (r_assign rfl ev_c) ?_
              refine WL.nil ?_
              refine WX.keep [(4, _), (5, _)] ⟨rfl, rfl, trivial⟩ ?_
              refine WX.next ?_
              refine WC.ret ?_
              refine WX.thenRet ?_
              refine WX.retE2 rfl rfl rfl ?_
              exact ⟨rfl, rfl⟩
           · try simp only [decide_eq_true_eq, decide_eq_false_iff_not, Bool.not_eq_true', Bool.not_eq_false', Bool.not_eq_true, Bool.not_eq_false, Option.isNone_none, Option.isNone_some, Option.isSome_none, Option.isSome_some, ne_eq, Decidable.not_not] at hc1
             exfalso
             omega

theorem Dnew_ok {w : World} {n : Nat} {most : Int} (h1 : 1 ≤ n ∧ n ≤ 8) (h2 : 1 ≤ most ∧ most ≤ 1048576) :
    Ret Try.prog 15 #[.int .i64 (n : Int), .int .i64 most] w fun v' w' => ∃ p, v' = .tuple #[.pointer (some ⟨p, 0, none⟩), .int .i64 0] ∧ IsD w' (New w w') p (DS.new n most) ∧ Upd No w w' := by
  refine enterRet (vs := [_, _]) (N := 25) Try.func15 rfl rfl rfl ?_
  have hU := Upd.refl No w
  refine WC.keep [(0, _), (1, _)] ⟨rfl, rfl, trivial⟩ ?_
  refine WC.seq ?_
  refine WC.region ?_
  refine WL.val rfl rfl rfl rfl (r_assign rfl ev_c) ?_
  refine WL.val rfl rfl rfl rfl (r_assign rfl ev_c) ?_
  refine WL.nil ?_
  refine WX.keep [(0, _), (1, _)] ⟨rfl, rfl, trivial⟩ ?_
  refine WX.next ?_
  refine WC.seq ?_
  refine WC.seq ?_
  refine WC.region ?_
  refine WL.val rfl rfl rfl rfl (r_move rfl (ev_t rfl)) ?_
  refine WL.val rfl rfl rfl rfl (r_lss rfl (ev_t rfl) ev_c) ?_
  refine WL.val rfl rfl rfl rfl (r_move rfl (ev_t rfl)) ?_
  refine WL.cases 8 rfl (fun hb1_2 => ?_) (fun hb1_2 => ?_)
  · try (exfalso; first | (simp at hb1_2; done) | (simp only [decide_eq_true_eq, decide_eq_false_iff_not, Bool.not_eq_true', Bool.not_eq_false', Bool.not_eq_true, Bool.not_eq_false] at hb1_2; omega) | omega)
    all_goals
     try simp only [decide_eq_true_eq, decide_eq_false_iff_not, Bool.not_eq_true', Bool.not_eq_false', Bool.not_eq_true, Bool.not_eq_false, Option.isNone_none, Option.isNone_some, Option.isSome_none, Option.isSome_some, ne_eq, Decidable.not_not] at hb1_2
     refine WL.skip rfl rfl rfl ?_
     refine WL.skip rfl rfl rfl ?_
     refine WL.val rfl rfl rfl rfl (r_pickT rfl (ev_t rfl) ev_c) ?_
     refine WL.val rfl rfl rfl rfl (r_move rfl (ev_t rfl)) ?_
     refine WL.skip rfl rfl rfl ?_
     refine WL.skip rfl rfl rfl ?_
     refine WL.val rfl rfl rfl rfl (r_pickT rfl (ev_t rfl) ev_c) ?_
     refine WL.val rfl rfl rfl rfl (r_move rfl (ev_t rfl)) ?_
     refine WL.skip rfl rfl rfl ?_
     refine WL.skip rfl rfl rfl ?_
     refine WL.val rfl rfl rfl rfl (r_pickT rfl (ev_t rfl) ev_c) ?_
     refine WL.nil ?_
     refine WX.keep [(0, _), (1, _), (19, _)] ⟨rfl, rfl, rfl, trivial⟩ ?_
     refine WX.next ?_
     refine WC.cond_true rfl (ev_t rfl) ?_
     refine WC.seq ?_
     refine WC.region ?_
     refine WL.val rfl rfl rfl rfl (r_assign rfl ev_c) ?_
     refine WL.val rfl rfl rfl rfl (r_assign rfl ev_c) ?_
     refine WL.nil ?_
     refine WX.keep [(4, _), (5, _)] ⟨rfl, rfl, trivial⟩ ?_
     refine WX.next ?_
     refine WC.ret ?_
     refine WX.thenRet ?_
     refine WX.retE2 rfl rfl rfl ?_
     fail
  · try (exfalso; first | (simp at hb1_2; done) | (simp only [decide_eq_true_eq, decide_eq_false_iff_not, Bool.not_eq_true', Bool.not_eq_false', Bool.not_eq_true, Bool.not_eq_false] at hb1_2; omega) | omega)
    all_goals
     try simp only [decide_eq_true_eq, decide_eq_false_iff_not, Bool.not_eq_true', Bool.not_eq_false', Bool.not_eq_true, Bool.not_eq_false, Option.isNone_none, Option.isNone_some, Option.isSome_none, Option.isSome_some, ne_eq, Decidable.not_not] at hb1_2
     refine WL.val rfl rfl rfl rfl (r_move rfl (ev_t rfl)) ?_
     refine WL.val rfl rfl rfl rfl (r_gtr rfl (ev_t rfl) ev_c) ?_
     refine WL.val rfl rfl rfl rfl (r_pickF rfl (ev_t rfl) (ev_t rfl)) ?_
     refine WL.val rfl rfl rfl rfl (r_move rfl (ev_t rfl)) ?_
     refine WL.cases 12 rfl (fun hb1_6 => ?_) (fun hb1_6 => ?_)
     · try (exfalso; first | (simp at hb1_6; done) | (simp only [decide_eq_true_eq, decide_eq_false_iff_not, Bool.not_eq_true', Bool.not_eq_false', Bool.not_eq_true, Bool.not_eq_false] at hb1_6; omega) | omega)
       all_goals
        try simp only [decide_eq_true_eq, decide_eq_false_iff_not, Bool.not_eq_true', Bool.not_eq_false', Bool.not_eq_true, Bool.not_eq_false, Option.isNone_none, Option.isNone_some, Option.isSome_none, Option.isSome_some, ne_eq, Decidable.not_not] at hb1_6
        refine WL.skip rfl rfl rfl ?_
        refine WL.skip rfl rfl rfl ?_
        refine WL.val rfl rfl rfl rfl (r_pickT rfl (ev_t rfl) ev_c) ?_
        refine WL.val rfl rfl rfl rfl (r_move rfl (ev_t rfl)) ?_
        refine WL.skip rfl rfl rfl ?_
        refine WL.skip rfl rfl rfl ?_
        refine WL.val rfl rfl rfl rfl (r_pickT rfl (ev_t rfl) ev_c) ?_
        refine WL.nil ?_
        refine WX.keep [(0, _), (1, _), (19, _)] ⟨rfl, rfl, rfl, trivial⟩ ?_
        refine WX.next ?_
        refine WC.cond_true rfl (ev_t rfl) ?_
        refine WC.seq ?_
        refine WC.region ?_
        refine WL.val rfl rfl rfl rfl (r_assign rfl ev_c) ?_
        refine WL.val rfl rfl rfl rfl (r_assign rfl ev_c) ?_
        refine WL.nil ?_
        refine WX.keep [(4, _), (5, _)] ⟨rfl, rfl, trivial⟩ ?_
        refine WX.next ?_
        refine WC.ret ?_
        refine WX.thenRet ?_
        refine WX.retE2 rfl rfl rfl ?_
        fail
     · try (exfalso; first | (simp at hb1_6; done) | (simp only [decide_eq_true_eq, decide_eq_false_iff_not, Bool.not_eq_true', Bool.not_eq_false', Bool.not_eq_true, Bool.not_eq_false] at hb1_6; omega) | omega)
       all_goals
        try simp only [decide_eq_true_eq, decide_eq_false_iff_not, Bool.not_eq_true', Bool.not_eq_false', Bool.not_eq_true, Bool.not_eq_false, Option.isNone_none, Option.isNone_some, Option.isSome_none, Option.isSome_some, ne_eq, Decidable.not_not] at hb1_6
        refine WL.val rfl rfl rfl rfl (r_move rfl (ev_t rfl)) ?_
        refine WL.val rfl rfl rfl rfl (r_lss rfl (ev_t rfl) ev_c) ?_
        refine WL.val rfl rfl rfl rfl (r_pickF rfl (ev_t rfl) (ev_t rfl)) ?_
        refine WL.val rfl rfl rfl rfl (r_move rfl (ev_t rfl)) ?_
        refine WL.cases 16 rfl (fun hb1_10 => ?_) (fun hb1_10 => ?_)
        · try (exfalso; first | (simp at hb1_10; done) | (simp only [decide_eq_true_eq, decide_eq_false_iff_not, Bool.not_eq_true', Bool.not_eq_false', Bool.not_eq_true, Bool.not_eq_false] at hb1_10; omega) | omega)
          all_goals
           try simp only [decide_eq_true_eq, decide_eq_false_iff_not, Bool.not_eq_true', Bool.not_eq_false', Bool.not_eq_true, Bool.not_eq_false, Option.isNone_none, Option.isNone_some, Option.isSome_none, Option.isSome_some, ne_eq, Decidable.not_not] at hb1_10
           refine WL.skip rfl rfl rfl ?_
           refine WL.skip rfl rfl rfl ?_
           refine WL.val rfl rfl rfl rfl (r_pickT rfl (ev_t rfl) ev_c) ?_
           refine WL.nil ?_
           refine WX.keep [(0, _), (1, _), (19, _)] ⟨rfl, rfl, rfl, trivial⟩ ?_
           refine WX.next ?_
           refine WC.cond_true rfl (ev_t rfl) ?_
           refine WC.seq ?_
           refine WC.region ?_
           refine WL.val rfl rfl rfl rfl (r_assign rfl ev_c) ?_
           refine WL.val rfl rfl rfl rfl (r_assign rfl ev_c) ?_
           refine WL.nil ?_
           refine WX.keep [(4, _), (5, _)] ⟨rfl, rfl, trivial⟩ ?_
           refine WX.next ?_
           refine WC.ret ?_
           refine WX.thenRet ?_
           refine WX.retE2 rfl rfl rfl ?_
           fail
        · try (exfalso; first | (simp at hb1_10; done) | (simp only [decide_eq_true_eq, decide_eq_false_iff_not, Bool.not_eq_true', Bool.not_eq_false', Bool.not_eq_true, Bool.not_eq_false] at hb1_10; omega) | omega)
          all_goals
           try simp only [decide_eq_true_eq, decide_eq_false_iff_not, Bool.not_eq_true', Bool.not_eq_false', Bool.not_eq_true, Bool.not_eq_false, Option.isNone_none, Option.isNone_some, Option.isSome_none, Option.isSome_some, ne_eq, Decidable.not_not] at hb1_10
           refine WL.val rfl rfl rfl rfl (r_move rfl (ev_t rfl)) ?_
           refine WL.val rfl rfl rfl rfl (r_gtr rfl (ev_t rfl) ev_c) ?_
           refine WL.val rfl rfl rfl rfl (r_pickF rfl (ev_t rfl) (ev_t rfl)) ?_
           refine WL.nil ?_
           refine WX.keep [(0, _), (1, _), (19, _)] ⟨rfl, rfl, rfl, trivial⟩ ?_
           refine WX.next ?_
           refine WC.cond rfl (ev_t rfl) (fun hc1 => ?_) (fun hc1 => ?_)
           · try (exfalso; first | (simp at hc1; done) | (simp only [decide_eq_true_eq, decide_eq_false_iff_not, Bool.not_eq_true', Bool.not_eq_false', Bool.not_eq_true, Bool.not_eq_false] at hc1; omega) | omega)
             all_goals
              try simp only [decide_eq_true_eq, decide_eq_false_iff_not, Bool.not_eq_true', Bool.not_eq_false', Bool.not_eq_true, Bool.not_eq_false, Option.isNone_none, Option.isNone_some, Option.isSome_none, Option.isSome_some, ne_eq, Decidable.not_not] at hc1
              refine WC.seq ?_
              refine WC.region ?_
              refine WL.val rfl rfl rfl rfl (r_assign rfl ev_c) ?_
              refine WL.val rfl rfl rfl rfl (r_assign rfl ev_c) ?_
              refine WL.nil ?_
              refine WX.keep [(4, _), (5, _)] ⟨rfl, rfl, trivial⟩ ?_
              refine WX.next ?_
              refine WC.ret ?_
              refine WX.thenRet ?_
              refine WX.retE2 rfl rfl rfl ?_
              fail
           · try (exfalso; first | (simp at hc1; done) | (simp only [decide_eq_true_eq, decide_eq_false_iff_not, Bool.not_eq_true', Bool.not_eq_false', Bool.not_eq_true, Bool.not_eq_false] at hc1; omega) | omega)
             all_goals
              try simp only [decide_eq_true_eq, decide_eq_false_iff_not, Bool.not_eq_true', Bool.not_eq_false', Bool.not_eq_true, Bool.not_eq_false, Option.isNone_none, Option.isNone_some, Option.isSome_none, Option.isSome_some, ne_eq, Decidable.not_not] at hc1
              refine WC.skip ?_
              refine WX.next ?_
              refine WC.seq ?_
              refine WC.region ?_
              refine WL.val rfl rfl rfl rfl (r_move rfl (ev_t rfl)) ?_
              refine WL.cons (SO.alloc rfl rfl rfl rfl (r_makeSlice (n := n) rfl (ev_t rfl) (ev_t rfl) row_60 (by omega) (by omega)) ?_)
              intro w1 hu1 hrow hzr
              have hs1 := hu1.size
              replace hU := hU.transA hu1
              refine WL.val rfl rfl rfl rfl (r_move rfl (ev_t rfl)) ?_
              refine WL.val rfl rfl rfl rfl (r_build (cs := #[_, _, _, _, _]) (vs := [(0, _), (1, _)]) rfl ⟨⟨rfl, (ev_t rfl)⟩, ⟨rfl, (ev_t rfl)⟩, trivial⟩ plc_62 zero_62 rfl) ?_
              refine WL.cons (SO.alloc rfl rfl rfl rfl (r_boxAgg rfl (ev_t rfl)) ?_)
              intro w2 hu2 hB2 hz2
              have hs2 := hu2.size
              replace hU := hU.transA hu2
              replace hrow := hrow.updA hu2
              refine WL.val rfl rfl rfl rfl (r_assign rfl (ev_t rfl)) ?_
              refine WL.val rfl rfl rfl rfl (r_assign rfl ev_c) ?_
              refine WL.nil ?_
              refine WX.keep [(4, _), (5, _)] ⟨rfl, rfl, trivial⟩ ?_
              refine WX.next ?_
              refine WC.ret ?_
              refine WX.retE2 rfl rfl rfl ?_
              have er : rowCells (.agg #[.slice none 0 0, .slice none 0 0, .bool false]) n = (trkC (List.replicate n trkV0)).toArray := by rw [trkC_new]; rfl
              rw [er] at hrow
              have get : ∀ (i : Nat) t, (List.replicate n trkV0)[i]? = some t → t = trkV0 := fun i t ht => by
                rw [List.getElem?_replicate] at ht
                split at ht
                · injection ht with ht; exact ht.symm
                · cases ht
              refine ⟨_, rfl, ⟨w.heap.size, List.replicate n trkV0, ?_⟩, hU⟩
              refine ⟨by rw [show (DS.new n most).l.length = n by simp [DS.new]]; exact hB2, hrow, by simp [DS.new], fun i t a ht ha => ?_, fun i j t u ht hu hij k hk => ?_, fun i t ht k hk => ?_, fun i t ht k hk => ?_, ⟨⟨by omega, by omega⟩, ⟨by omega, by omega⟩⟩, ?_⟩
              · rw [get i t ht]
                have : a = ⟨[], [], false⟩ := List.eq_of_mem_replicate (List.mem_of_getElem? ha)
                rw [this]
                exact ⟨Own.nil _ _ _ _, Own.nil _ _ _ _, rfl⟩
              · rw [get i t ht] at hk
                exact hk.elim (fun h => h.elim) (fun h => h.elim)
              · rw [get i t ht] at hk
                exact hk.elim
              · rw [get i t ht] at hk
                exact hk.elim (fun h => h.elim) (fun h => h.elim)
              · refine ⟨by simp only [DS.new]; omega, by simp [DS.new]; omega, by simp [DS.new, inK], fun t ht => ?_⟩
                rw [List.eq_of_mem_replicate ht]
                simp only [DS.new, List.length_nil]
                omega

theorem Tracks_ok {w : World} {F : Nat → Prop} {p : Nat} {D : DS} (h : IsD w F p D) : Ret Try.prog 24 #[.pointer (some ⟨p, 0, none⟩)] w fun v' w' => v' = .int .i64 (D.l.length : Int) ∧ w = w' := by
  obtain ⟨g, l, h⟩ := h
  have hb := h.hd
  refine enterRet (vs := [_]) (N := 10) Try.func24 rfl rfl rfl ?_
  refine WC.keep [(0, _)] ⟨rfl, trivial⟩ ?_
  refine WC.seq ?_
  refine WC.region ?_
  refine WL.val rfl rfl rfl rfl (r_assign rfl ev_c) ?_
  refine WL.nil ?_
  refine WX.keep [(0, _)] ⟨rfl, trivial⟩ ?_
  refine WX.next ?_
  refine WC.seq ?_
  refine WC.seq ?_
  refine WC.region ?_
  refine WL.val rfl rfl rfl rfl (r_move rfl (ev_t rfl)) ?_
  refine WL.val rfl rfl rfl rfl (r_eqlPtrNil rfl (ev_t rfl) ev_c ptr_24) ?_
  refine WL.nil ?_
  refine WX.keep [(0, _), (4, _)] ⟨rfl, rfl, trivial⟩ ?_
  refine WX.next ?_
  refine WC.cond rfl (ev_t rfl) (fun hc1 => ?_) (fun hc1 => ?_)
  · try (exfalso; first | (simp at hc1; done) | (simp only [decide_eq_true_eq, decide_eq_false_iff_not, Bool.not_eq_true', Bool.not_eq_false', Bool.not_eq_true, Bool.not_eq_false] at hc1; omega) | omega)
    all_goals
     try simp only [decide_eq_true_eq, decide_eq_false_iff_not, Bool.not_eq_true', Bool.not_eq_false', Bool.not_eq_true, Bool.not_eq_false, Option.isNone_none, Option.isNone_some, Option.isSome_none, Option.isSome_some, ne_eq, Decidable.not_not] at hc1
     refine WC.seq ?_
     refine WC.region ?_
     refine WL.val rfl rfl rfl rfl (r_assign rfl ev_c) ?_
     refine WL.nil ?_
     refine WX.keep [(2, _)] ⟨rfl, trivial⟩ ?_
     refine WX.next ?_
     refine WC.ret ?_
     refine WX.thenRet ?_
     refine WX.retE1 rfl rfl ?_
     exact ⟨rfl, rfl⟩
  · try (exfalso; first | (simp at hc1; done) | (simp only [decide_eq_true_eq, decide_eq_false_iff_not, Bool.not_eq_true', Bool.not_eq_false', Bool.not_eq_true, Bool.not_eq_false] at hc1; omega) | omega)
    all_goals
     try simp only [decide_eq_true_eq, decide_eq_false_iff_not, Bool.not_eq_true', Bool.not_eq_false', Bool.not_eq_true, Bool.not_eq_false, Option.isNone_none, Option.isNone_some, Option.isSome_none, Option.isSome_some, ne_eq, Decidable.not_not] at hc1
     refine WC.skip ?_
     refine WX.next ?_
     refine WC.seq ?_
     refine WC.region ?_
     refine WL.val rfl rfl rfl rfl (r_move rfl (ev_t rfl)) ?_
     refine WL.val rfl rfl rfl rfl (r_nilCheck rfl (ev_t rfl)) ?_
     first | refine WL.val rfl rfl rfl rfl (r_field0 rfl (ev_t rfl) fld_62_0) ?_ | refine WL.val rfl rfl rfl rfl (r_fieldAt rfl (ev_t rfl) fld_62_0) ?_
     refine WL.val rfl rfl rfl rfl (r_load rfl (ev_t rfl) flat_60 (Blk.cell hb rfl)) ?_
     refine WL.val rfl rfl rfl rfl (r_lenSlice (ts := #[]) rfl (ev_t rfl) elem_60) ?_
     refine WL.val rfl rfl rfl rfl (r_assign rfl (ev_t rfl)) ?_
     refine WL.nil ?_
     refine WX.keep [(2, _)] ⟨rfl, trivial⟩ ?_
     refine WX.next ?_
     refine WC.ret ?_
     refine WX.retE1 rfl rfl ?_
     exact ⟨rfl, rfl⟩
theorem Tracks_nil {w : World} : Ret Try.prog 24 #[.pointer none] w fun v' w' => v' = .int .i64 0 ∧ w = w' := by
  refine enterRet (vs := [_]) (N := 10) Try.func24 rfl rfl rfl ?_
  refine WC.keep [(0, _)] ⟨rfl, trivial⟩ ?_
  refine WC.seq ?_
  refine WC.region ?_
  refine WL.val rfl rfl rfl rfl (r_assign rfl ev_c) ?_
  refine WL.nil ?_
  refine WX.keep [(0, _)] ⟨rfl, trivial⟩ ?_
  refine WX.next ?_
  refine WC.seq ?_
  refine WC.seq ?_
  refine WC.region ?_
  refine WL.val rfl rfl rfl rfl (r_move rfl (ev_t rfl)) ?_
  refine WL.val rfl rfl rfl rfl (r_eqlPtrNil rfl (ev_t rfl) ev_c ptr_24) ?_
  refine WL.nil ?_
  refine WX.keep [(0, _), (4, _)] ⟨rfl, rfl, trivial⟩ ?_
  refine WX.next ?_
  refine WC.cond rfl (ev_t rfl) (fun hc1 => ?_) (fun hc1 => ?_)
  · try (exfalso; first | (simp at hc1; done) | (simp only [decide_eq_true_eq, decide_eq_false_iff_not, Bool.not_eq_true', Bool.not_eq_false', Bool.not_eq_true, Bool.not_eq_false] at hc1; omega) | omega)
    all_goals
     try simp only [decide_eq_true_eq, decide_eq_false_iff_not, Bool.not_eq_true', Bool.not_eq_false', Bool.not_eq_true, Bool.not_eq_false, Option.isNone_none, Option.isNone_some, Option.isSome_none, Option.isSome_some, ne_eq, Decidable.not_not] at hc1
     refine WC.seq ?_
     refine WC.region ?_
     refine WL.val rfl rfl rfl rfl (r_assign rfl ev_c) ?_
     refine WL.nil ?_
     refine WX.keep [(2, _)] ⟨rfl, trivial⟩ ?_
     refine WX.next ?_
     refine WC.ret ?_
     refine WX.thenRet ?_
     refine WX.retE1 rfl rfl ?_
     exact ⟨rfl, rfl⟩
  · try (exfalso; first | (simp at hc1; done) | (simp only [decide_eq_true_eq, decide_eq_false_iff_not, Bool.not_eq_true', Bool.not_eq_false', Bool.not_eq_true, Bool.not_eq_false] at hc1; omega) | omega)
    all_goals
     try simp only [decide_eq_true_eq, decide_eq_false_iff_not, Bool.not_eq_true', Bool.not_eq_false', Bool.not_eq_true, Bool.not_eq_false, Option.isNone_none, Option.isNone_some, Option.isSome_none, Option.isSome_some, ne_eq, Decidable.not_not] at hc1
     refine WC.skip ?_
     refine WX.next ?_
     refine WC.seq ?_
     refine WC.region ?_
     refine WL.val rfl rfl rfl rfl (r_move rfl (ev_t rfl)) ?_
     refine WL.val rfl rfl rfl rfl (r_nilCheck rfl (ev_t rfl)) ?_
     first | refine WL.val rfl rfl rfl rfl (r_field0 rfl (ev_t rfl) fld_62_0) ?_ | refine WL.val rfl rfl rfl rfl (r_fieldAt rfl (ev_t rfl) fld_62_0) ?_
     fail -- load 3.3: no facts
end Go.Proofs.Ytnjfhmlfpfkllaa

/-
  The drum's methods: Read, Append, Write, Sync.
-/
namespace Go.Proofs.Ytnjfhmlfpfkllaa
open Go
set_option linter.unusedSimpArgs false
set_option linter.unusedVariables false

theorem lookN_ok {n : Nat} {off : Bool} {i : Int} (h : lookN n off i = 0) : 0 ≤ i ∧ i < (n : Int) ∧ off = false := by
  unfold lookN at h
  split at h
  · cases h
  · split at h
    · cases h
    · rename_i h1 h2
      exact ⟨by omega, by omega, by simpa using h2⟩
theorem DrumAt.at {w : World} {F : Nat → Prop} {p g : Nat} {l : List TrkV} {D : DS} {i : Int} (h : DrumAt w F p g l D) (hi : D.look i = 0) : ∃ t, l[i.toNat]? = some t ∧ TrkOK w t (D.track i.toNat) ∧ i.toNat < D.l.length := by
  have h1 := lookN_ok hi
  have h2 : i.toNat < D.l.length := by omega
  have h3 : i.toNat < l.length := by rw [h.len]; exact h2
  exact ⟨_, List.getElem?_eq_getElem h3, h.ok _ _ _ (List.getElem?_eq_getElem h3) (DS.track_get h2), h2⟩

theorem trkC_fp {l : List TrkV} {i : Nat} {a b : Value} {c : Bool} {F1 F2 G1 G2 : Nat → Prop} : trkC (l.set i ⟨a, b, c, F1, F2⟩) = trkC (l.set i ⟨a, b, c, G1, G2⟩) := by
  induction l generalizing i with
  | nil => rfl
  | cons x l ih =>
    cases i with
    | zero => rfl
    | succ i => rw [List.set_cons_succ, List.set_cons_succ, trkC_cons, trkC_cons, ih]
theorem Own.one {w : World} {F : Nat → Prop} {T : TypeId} {sz n : Nat} {v : Value} {xs : List Value} (h : Own w F T sz v n xs) : v.oneCell' = true := by
  obtain ⟨A, c, rfl, _⟩ := h.form
  rfl

theorem Read_bad {w : World} {F : Nat → Prop} {p : Nat} {D : DS} {i : Int} (h : IsD w F p D) (hi : D.look i ≠ 0) : Ret Try.prog 25 #[.pointer (some ⟨p, 0, none⟩), .int .i64 i] w fun v' w' => v' = .tuple #[.slice none 0 0, .int .i64 (D.look i : Int)] ∧ w = w' := by
  obtain ⟨g, l, h⟩ := h
  have hb := h.hd
  refine enterRet (vs := [_, _]) (N := 22) Try.func25 rfl rfl rfl ?_
  refine WC.keep [(0, _), (1, _)] ⟨rfl, rfl, trivial⟩ ?_
  refine WC.seq ?_
  refine WC.region ?_
  refine WL.val rfl rfl rfl rfl (r_assign rfl ev_c) ?_
  refine WL.val rfl rfl rfl rfl (r_assign rfl ev_c) ?_
  refine WL.nil ?_
  refine WX.keep [(0, _), (1, _)] ⟨rfl, rfl, trivial⟩ ?_
  refine WX.next ?_
  refine WC.seq ?_
  refine WC.seq ?_
  refine WC.region ?_
  refine WL.val rfl rfl rfl rfl (r_move rfl (ev_t rfl)) ?_
  refine WL.val rfl rfl rfl rfl (r_move rfl (ev_t rfl)) ?_
  refine WL.cons (SO.call (look_ok hb) rfl body_22 ⟨(ev_t rfl), (ev_t rfl), trivial⟩ rfl rfl rfl rfl ?_)
  rintro v w' ⟨rfl, rfl⟩
  refine WL.val rfl rfl rfl rfl (r_assign rfl (ev_t rfl)) ?_
  refine WL.nil ?_
  refine WX.keep [(0, _), (1, _), (6, _)] ⟨rfl, rfl, rfl, trivial⟩ ?_
  refine WX.next ?_
  refine WC.seq ?_
  refine WC.region ?_
  refine WL.val rfl rfl rfl rfl (r_move rfl (ev_t rfl)) ?_
  refine WL.val rfl rfl rfl rfl (r_neq rfl (ev_t rfl) ev_c) ?_
  refine WL.nil ?_
  refine WX.keep [(0, _), (1, _), (6, _), (11, _)] ⟨rfl, rfl, rfl, rfl, trivial⟩ ?_
  refine WX.next ?_
  refine WC.cond rfl (ev_t rfl) (fun hc2 => ?_) (fun hc2 => ?_)
  · try (exfalso; first | (simp at hc2; done) | (simp only [decide_eq_true_eq, decide_eq_false_iff_not, Bool.not_eq_true', Bool.not_eq_false', Bool.not_eq_true, Bool.not_eq_false] at hc2; omega) | omega)
    all_goals
     try simp only [decide_eq_true_eq, decide_eq_false_iff_not, Bool.not_eq_true', Bool.not_eq_false', Bool.not_eq_true, Bool.not_eq_false, Option.isNone_none, Option.isNone_some, Option.isSome_none, Option.isSome_some, ne_eq, Decidable.not_not] at hc2
     refine WC.seq ?_
     refine WC.region ?_
     refine WL.val rfl rfl rfl rfl (r_move rfl (ev_t rfl)) ?_
     refine WL.val rfl rfl rfl rfl (r_assign rfl ev_c) ?_
     refine WL.val rfl rfl rfl rfl (r_assign rfl (ev_t rfl)) ?_
     refine WL.nil ?_
     refine WX.keep [(4, _), (5, _)] ⟨rfl, rfl, trivial⟩ ?_
     refine WX.next ?_
     refine WC.ret ?_
     refine WX.thenRet ?_
     refine WX.retE2 rfl rfl rfl ?_
     exact ⟨rfl, rfl⟩
  · try simp only [decide_eq_true_eq, decide_eq_false_iff_not, Bool.not_eq_true', Bool.not_eq_false', Bool.not_eq_true, Bool.not_eq_false, Option.isNone_none, Option.isNone_some, Option.isSome_none, Option.isSome_some, ne_eq, Decidable.not_not] at hc2
    exfalso
    exact hi (by simp only [DS.look]; omega)
theorem Read_nil {w : World} {i : Int} : Ret Try.prog 25 #[.pointer none, .int .i64 i] w fun v' w' => v' = .tuple #[.slice none 0 0, .int .i64 6] ∧ w = w' := by
  refine enterRet (vs := [_, _]) (N := 22) Try.func25 rfl rfl rfl ?_
  refine WC.keep [(0, _), (1, _)] ⟨rfl, rfl, trivial⟩ ?_
  refine WC.seq ?_
  refine WC.region ?_
  refine WL.val rfl rfl rfl rfl (r_assign rfl ev_c) ?_
  refine WL.val rfl rfl rfl rfl (r_assign rfl ev_c) ?_
  refine WL.nil ?_
  refine WX.keep [(0, _), (1, _)] ⟨rfl, rfl, trivial⟩ ?_
  refine WX.next ?_
  refine WC.seq ?_
  refine WC.seq ?_
  refine WC.region ?_
  refine WL.val rfl rfl rfl rfl (r_move rfl (ev_t rfl)) ?_
  refine WL.val rfl rfl rfl rfl (r_move rfl (ev_t rfl)) ?_
  refine WL.cons (SO.call (look_nil) rfl body_22 ⟨(ev_t rfl), (ev_t rfl), trivial⟩ rfl rfl rfl rfl ?_)
  rintro v w' ⟨rfl, rfl⟩
  refine WL.val rfl rfl rfl rfl (r_assign rfl (ev_t rfl)) ?_
  refine WL.nil ?_
  refine WX.keep [(0, _), (1, _), (6, _)] ⟨rfl, rfl, rfl, trivial⟩ ?_
  refine WX.next ?_
  refine WC.seq ?_
  refine WC.region ?_
  refine WL.val rfl rfl rfl rfl (r_move rfl (ev_t rfl)) ?_
  refine WL.val rfl rfl rfl rfl (r_neq rfl (ev_t rfl) ev_c) ?_
  refine WL.nil ?_
  refine WX.keep [(0, _), (1, _), (6, _), (11, _)] ⟨rfl, rfl, rfl, rfl, trivial⟩ ?_
  refine WX.next ?_
  refine WC.cond rfl (ev_t rfl) (fun hc2 => ?_) (fun hc2 => ?_)
  · try (exfalso; first | (simp at hc2; done) | (simp only [decide_eq_true_eq, decide_eq_false_iff_not, Bool.not_eq_true', Bool.not_eq_false', Bool.not_eq_true, Bool.not_eq_false] at hc2; omega) | omega)
    all_goals
     try simp only [decide_eq_true_eq, decide_eq_false_iff_not, Bool.not_eq_true', Bool.not_eq_false', Bool.not_eq_true, Bool.not_eq_false, Option.isNone_none, Option.isNone_some, Option.isSome_none, Option.isSome_some, ne_eq, Decidable.not_not] at hc2
     refine WC.seq ?_
     refine WC.region ?_
     refine WL.val rfl rfl rfl rfl (r_move rfl (ev_t rfl)) ?_
     refine WL.val rfl rfl rfl rfl (r_assign rfl ev_c) ?_
     refine WL.val rfl rfl rfl rfl (r_assign rfl (ev_t rfl)) ?_
     refine WL.nil ?_
     refine WX.keep [(4, _), (5, _)] ⟨rfl, rfl, trivial⟩ ?_
     refine WX.next ?_
     refine WC.ret ?_
     refine WX.thenRet ?_
     refine WX.retE2 rfl rfl rfl ?_
     exact ⟨rfl, rfl⟩
  · try simp only [decide_eq_true_eq, decide_eq_false_iff_not, Bool.not_eq_true', Bool.not_eq_false', Bool.not_eq_true, Bool.not_eq_false, Option.isNone_none, Option.isNone_some, Option.isSome_none, Option.isSome_some, ne_eq, Decidable.not_not] at hc2
    exfalso
    omega
theorem Read_good {w : World} {F : Nat → Prop} {p : Nat} {D : DS} {i : Int} (h : IsD w F p D) (hi : D.look i = 0) : Ret Try.prog 25 #[.pointer (some ⟨p, 0, none⟩), .int .i64 i] w fun v' w' =>
    ∃ v, v' = .tuple #[v, .int .i64 0] ∧ Own w' (New w w') 5 1 v (D.track i.toNat).now.length ((D.track i.toNat).now.map U8) ∧ Upd No w w' := by
  obtain ⟨g, l, h⟩ := h
  obtain ⟨t, ht, hok, hil⟩ := h.at hi
  have hb := h.hd
  have hrow := h.row
  have hi' := lookN_ok hi
  have hl := h.len
  have hwf := (h.wf.trk _ (DS.track_mem hil)).2
  have hm := h.wf.most
  refine enterRet (vs := [_, _]) (N := 22) Try.func25 rfl rfl rfl ?_
  have hU := Upd.refl No w
  refine WC.keep [(0, _), (1, _)] ⟨rfl, rfl, trivial⟩ ?_
  refine WC.seq ?_
  refine WC.region ?_
  refine WL.val rfl rfl rfl rfl (r_assign rfl ev_c) ?_
  refine WL.val rfl rfl rfl rfl (r_assign rfl ev_c) ?_
  refine WL.nil ?_
  refine WX.keep [(0, _), (1, _)] ⟨rfl, rfl, trivial⟩ ?_
  refine WX.next ?_
  refine WC.seq ?_
  refine WC.seq ?_
  refine WC.region ?_
  refine WL.val rfl rfl rfl rfl (r_move rfl (ev_t rfl)) ?_
  refine WL.val rfl rfl rfl rfl (r_move rfl (ev_t rfl)) ?_
  refine WL.cons (SO.call (look_ok hb) rfl body_22 ⟨(ev_t rfl), (ev_t rfl), trivial⟩ rfl rfl rfl rfl ?_)
  rintro v w' ⟨rfl, rfl⟩
  refine WL.val rfl rfl rfl rfl (r_assign rfl (ev_t rfl)) ?_
  refine WL.nil ?_
  refine WX.keep [(0, _), (1, _), (6, _)] ⟨rfl, rfl, rfl, trivial⟩ ?_
  refine WX.next ?_
  refine WC.seq ?_
  refine WC.region ?_
  refine WL.val rfl rfl rfl rfl (r_move rfl (ev_t rfl)) ?_
  refine WL.val rfl rfl rfl rfl (r_neq rfl (ev_t rfl) ev_c) ?_
  refine WL.nil ?_
  refine WX.keep [(0, _), (1, _), (6, _), (11, _)] ⟨rfl, rfl, rfl, rfl, trivial⟩ ?_
  refine WX.next ?_
  refine WC.cond rfl (ev_t rfl) (fun hc2 => ?_) (fun hc2 => ?_)
  · try simp only [decide_eq_true_eq, decide_eq_false_iff_not, Bool.not_eq_true', Bool.not_eq_false', Bool.not_eq_true, Bool.not_eq_false, Option.isNone_none, Option.isNone_some, Option.isSome_none, Option.isSome_some, ne_eq, Decidable.not_not] at hc2
    exfalso
    exact hc2 (by simp only [DS.look] at hi; omega)
  · try (exfalso; first | (simp at hc2; done) | (simp only [decide_eq_true_eq, decide_eq_false_iff_not, Bool.not_eq_true', Bool.not_eq_false', Bool.not_eq_true, Bool.not_eq_false] at hc2; omega) | omega)
    all_goals
     try simp only [decide_eq_true_eq, decide_eq_false_iff_not, Bool.not_eq_true', Bool.not_eq_false', Bool.not_eq_true, Bool.not_eq_false, Option.isNone_none, Option.isNone_some, Option.isSome_none, Option.isSome_some, ne_eq, Decidable.not_not] at hc2
     refine WC.skip ?_
     refine WX.next ?_
     refine WC.seq ?_
     refine WC.region ?_
     refine WL.val rfl rfl rfl rfl (r_move rfl (ev_t rfl)) ?_
     refine WL.val rfl rfl rfl rfl (r_nilCheck rfl (ev_t rfl)) ?_
     first | refine WL.val rfl rfl rfl rfl (r_field0 rfl (ev_t rfl) fld_62_0) ?_ | refine WL.val rfl rfl rfl rfl (r_fieldAt rfl (ev_t rfl) fld_62_0) ?_
     refine WL.val rfl rfl rfl rfl (r_load rfl (ev_t rfl) flat_60 (Blk.cell hb rfl)) ?_
     refine WL.val rfl rfl rfl rfl (r_move rfl (ev_t rfl)) ?_
     refine WL.val rfl rfl rfl rfl (r_indexAddr rfl (ev_t rfl) (ev_t rfl) elem_60 size_64 (by omega) (by omega)) ?_
     first | refine WL.val rfl rfl rfl rfl (r_field0 rfl (ev_t rfl) fld_64_1) ?_ | refine WL.val rfl rfl rfl rfl (r_fieldAt rfl (ev_t rfl) fld_64_1) ?_
     refine WL.val rfl rfl rfl rfl (r_load rfl (ev_t rfl) flat_22 ((row_get hrow ht).2.1 (by omega))) ?_
     refine WL.cons (SO.call (clone_ok (hok.now.rd (by omega))) rfl body_18 ⟨(ev_t rfl), trivial⟩ rfl rfl rfl rfl ?_)
     rintro v w2 ⟨ho, hu2⟩
     have hs2 := hu2.size
     replace hU := hU.transA hu2
     refine WL.val rfl rfl rfl rfl (r_assign rfl (ev_t rfl)) ?_
     refine WL.val rfl rfl rfl rfl (r_assign rfl ev_c) ?_
     refine WL.nil ?_
     refine WX.keep [(4, _), (5, _)] ⟨rfl, rfl, trivial⟩ ?_
     refine WX.next ?_
     refine WC.ret ?_
     refine WX.retE2 rfl rfl rfl ?_
     exact ⟨_, rfl, ho, hU⟩

theorem Append_bad {w : World} {F : Nat → Prop} {p : Nat} {D : DS} {i : Int} {qv : Value} (h : IsD w F p D) (hi : D.look i ≠ 0) : Ret Try.prog 13 #[.pointer (some ⟨p, 0, none⟩), .int .i64 i, qv] w fun v' w' => v' = .int .i64 (D.look i : Int) ∧ w = w' := by
  obtain ⟨g, l, h⟩ := h
  have hb := h.hd
  refine enterRet (vs := [_, _, _]) (N := 48) Try.func13 rfl rfl rfl ?_
  refine WC.keep [(0, _), (1, _), (2, _)] ⟨rfl, rfl, rfl, trivial⟩ ?_
  refine WC.seq ?_
  refine WC.region ?_
  refine WL.val rfl rfl rfl rfl (r_assign rfl ev_c) ?_
  refine WL.nil ?_
  refine WX.keep [(0, _), (1, _), (2, _)] ⟨rfl, rfl, rfl, trivial⟩ ?_
  refine WX.next ?_
  refine WC.seq ?_
  refine WC.seq ?_
  refine WC.region ?_
  refine WL.val rfl rfl rfl rfl (r_move rfl (ev_t rfl)) ?_
  refine WL.val rfl rfl rfl rfl (r_move rfl (ev_t rfl)) ?_
  refine WL.cons (SO.call (look_ok hb) rfl body_22 ⟨(ev_t rfl), (ev_t rfl), trivial⟩ rfl rfl rfl rfl ?_)
  rintro v w' ⟨rfl, rfl⟩
  refine WL.val rfl rfl rfl rfl (r_assign rfl (ev_t rfl)) ?_
  refine WL.nil ?_
  refine WX.keep [(0, _), (1, _), (2, _), (7, _)] ⟨rfl, rfl, rfl, rfl, trivial⟩ ?_
  refine WX.next ?_
  refine WC.seq ?_
  refine WC.region ?_
  refine WL.val rfl rfl rfl rfl (r_move rfl (ev_t rfl)) ?_
  refine WL.val rfl rfl rfl rfl (r_neq rfl (ev_t rfl) ev_c) ?_
  refine WL.nil ?_
  refine WX.keep [(0, _), (1, _), (2, _), (7, _), (14, _)] ⟨rfl, rfl, rfl, rfl, rfl, trivial⟩ ?_
  refine WX.next ?_
  refine WC.cond rfl (ev_t rfl) (fun hc2 => ?_) (fun hc2 => ?_)
  · try (exfalso; first | (simp at hc2; done) | (simp only [decide_eq_true_eq, decide_eq_false_iff_not, Bool.not_eq_true', Bool.not_eq_false', Bool.not_eq_true, Bool.not_eq_false] at hc2; omega) | omega)
    all_goals
     try simp only [decide_eq_true_eq, decide_eq_false_iff_not, Bool.not_eq_true', Bool.not_eq_false', Bool.not_eq_true, Bool.not_eq_false, Option.isNone_none, Option.isNone_some, Option.isSome_none, Option.isSome_some, ne_eq, Decidable.not_not] at hc2
     refine WC.seq ?_
     refine WC.region ?_
     refine WL.val rfl rfl rfl rfl (r_move rfl (ev_t rfl)) ?_
     refine WL.val rfl rfl rfl rfl (r_assign rfl (ev_t rfl)) ?_
     refine WL.nil ?_
     refine WX.keep [(6, _)] ⟨rfl, trivial⟩ ?_
     refine WX.next ?_
     refine WC.ret ?_
     refine WX.thenRet ?_
     refine WX.retE1 rfl rfl ?_
     exact ⟨rfl, rfl⟩
  · try simp only [decide_eq_true_eq, decide_eq_false_iff_not, Bool.not_eq_true', Bool.not_eq_false', Bool.not_eq_true, Bool.not_eq_false, Option.isNone_none, Option.isNone_some, Option.isSome_none, Option.isSome_some, ne_eq, Decidable.not_not] at hc2
    exfalso
    exact hi (by simp only [DS.look]; omega)
theorem Append_nil {w : World} {i : Int} {qv : Value} : Ret Try.prog 13 #[.pointer none, .int .i64 i, qv] w fun v' w' => v' = .int .i64 6 ∧ w = w' := by
  refine enterRet (vs := [_, _, _]) (N := 48) Try.func13 rfl rfl rfl ?_
  refine WC.keep [(0, _), (1, _), (2, _)] ⟨rfl, rfl, rfl, trivial⟩ ?_
  refine WC.seq ?_
  refine WC.region ?_
  refine WL.val rfl rfl rfl rfl (r_assign rfl ev_c) ?_
  refine WL.nil ?_
  refine WX.keep [(0, _), (1, _), (2, _)] ⟨rfl, rfl, rfl, trivial⟩ ?_
  refine WX.next ?_
  refine WC.seq ?_
  refine WC.seq ?_
  refine WC.region ?_
  refine WL.val rfl rfl rfl rfl (r_move rfl (ev_t rfl)) ?_
  refine WL.val rfl rfl rfl rfl (r_move rfl (ev_t rfl)) ?_
  refine WL.cons (SO.call (look_nil) rfl body_22 ⟨(ev_t rfl), (ev_t rfl), trivial⟩ rfl rfl rfl rfl ?_)
  rintro v w' ⟨rfl, rfl⟩
  refine WL.val rfl rfl rfl rfl (r_assign rfl (ev_t rfl)) ?_
  refine WL.nil ?_
  refine WX.keep [(0, _), (1, _), (2, _), (7, _)] ⟨rfl, rfl, rfl, rfl, trivial⟩ ?_
  refine WX.next ?_
  refine WC.seq ?_
  refine WC.region ?_
  refine WL.val rfl rfl rfl rfl (r_move rfl (ev_t rfl)) ?_
  refine WL.val rfl rfl rfl rfl (r_neq rfl (ev_t rfl) ev_c) ?_
  refine WL.nil ?_
  refine WX.keep [(0, _), (1, _), (2, _), (7, _), (14, _)] ⟨rfl, rfl, rfl, rfl, rfl, trivial⟩ ?_
  refine WX.next ?_
  refine WC.cond rfl (ev_t rfl) (fun hc2 => ?_) (fun hc2 => ?_)
  · try (exfalso; first | (simp at hc2; done) | (simp only [decide_eq_true_eq, decide_eq_false_iff_not, Bool.not_eq_true', Bool.not_eq_false', Bool.not_eq_true, Bool.not_eq_false] at hc2; omega) | omega)
    all_goals
     try simp only [decide_eq_true_eq, decide_eq_false_iff_not, Bool.not_eq_true', Bool.not_eq_false', Bool.not_eq_true, Bool.not_eq_false, Option.isNone_none, Option.isNone_some, Option.isSome_none, Option.isSome_some, ne_eq, Decidable.not_not] at hc2
     refine WC.seq ?_
     refine WC.region ?_
     refine WL.val rfl rfl rfl rfl (r_move rfl (ev_t rfl)) ?_
     refine WL.val rfl rfl rfl rfl (r_assign rfl (ev_t rfl)) ?_
     refine WL.nil ?_
     refine WX.keep [(6, _)] ⟨rfl, trivial⟩ ?_
     refine WX.next ?_
     refine WC.ret ?_
     refine WX.thenRet ?_
     refine WX.retE1 rfl rfl ?_
     exact ⟨rfl, rfl⟩
  · try simp only [decide_eq_true_eq, decide_eq_false_iff_not, Bool.not_eq_true', Bool.not_eq_false', Bool.not_eq_true, Bool.not_eq_false, Option.isNone_none, Option.isNone_some, Option.isSome_none, Option.isSome_some, ne_eq, Decidable.not_not] at hc2
    exfalso
    omega
theorem Append_good {w : World} {F G : Nat → Prop} {p : Nat} {D : DS} {i : Int} {qv : Value} {m : Nat} {q : List UInt8} (h : IsD w F p D) (hi : D.look i = 0) (hr : Rd w G qv m 1 (q.map U8)) (hG : ∀ k, G k → k < w.heap.size → ¬ F k) :
    Ret Try.prog 13 #[.pointer (some ⟨p, 0, none⟩), .int .i64 i, qv] w fun v' w' => v' = .int .i64 ((D.append i q).2 : Int) ∧ IsD w' (Grow F w w') p (D.append i q).1 ∧ Upd F w w' := by
  obtain ⟨g, l, h⟩ := h
  obtain ⟨t, ht, hok, hil⟩ := h.at hi
  have hb := h.hd
  have hrow := h.row
  have hi' := lookN_ok hi
  have hl := h.len
  have hwf := (h.wf.trk _ (DS.track_mem hil)).2
  have hws := (h.wf.trk _ (DS.track_mem hil)).1
  have hm := h.wf.most
  have hpg := h.ne
  have hfp := h.fp _ _ ht
  have h2 := h.two _ _ ht
  have hq := hr.lenB
  obtain ⟨Aq, cq, rfl, hcq⟩ := hr.slice_form
  have hqm := hr.le
  obtain ⟨sv, nv, fr, FS, FN⟩ := t
  obtain ⟨hsure, hnow, hfr⟩ := hok
  dsimp only at hsure hnow hfr hfp h2
  obtain ⟨An, cn, rfl, hcn⟩ := Own.form hnow
  have hSF : ∀ k, k < w.heap.size → trkS p g ⟨sv, .slice An (D.track i.toNat).now.length cn, fr, FS, FN⟩ k → F k := fun k _ hk => by
    rcases hk with rfl | rfl | hk
    · exact h.own.1
    · exact h.own.2
    · exact (hfp k hk).1
  refine enterRet (vs := [_, _, _]) (N := 48) Try.func13 rfl rfl rfl ?_
  have hU := Upd.refl (trkS p g ⟨sv, .slice An (D.track i.toNat).now.length cn, fr, FS, FN⟩) w
  replace hr := hr.bound
  refine WC.keep [(0, _), (1, _), (2, _)] ⟨rfl, rfl, rfl, trivial⟩ ?_
  refine WC.seq ?_
  refine WC.region ?_
  refine WL.val rfl rfl rfl rfl (r_assign rfl ev_c) ?_
  refine WL.nil ?_
  refine WX.keep [(0, _), (1, _), (2, _)] ⟨rfl, rfl, rfl, trivial⟩ ?_
  refine WX.next ?_
  refine WC.seq ?_
  refine WC.seq ?_
  refine WC.region ?_
  refine WL.val rfl rfl rfl rfl (r_move rfl (ev_t rfl)) ?_
  refine WL.val rfl rfl rfl rfl (r_move rfl (ev_t rfl)) ?_
  refine WL.cons (SO.call (look_ok hb) rfl body_22 ⟨(ev_t rfl), (ev_t rfl), trivial⟩ rfl rfl rfl rfl ?_)
  rintro v w' ⟨rfl, rfl⟩
  refine WL.val rfl rfl rfl rfl (r_assign rfl (ev_t rfl)) ?_
  refine WL.nil ?_
  refine WX.keep [(0, _), (1, _), (2, _), (7, _)] ⟨rfl, rfl, rfl, rfl, trivial⟩ ?_
  refine WX.next ?_
  refine WC.seq ?_
  refine WC.region ?_
  refine WL.val rfl rfl rfl rfl (r_move rfl (ev_t rfl)) ?_
  refine WL.val rfl rfl rfl rfl (r_neq rfl (ev_t rfl) ev_c) ?_
  refine WL.nil ?_
  refine WX.keep [(0, _), (1, _), (2, _), (7, _), (14, _)] ⟨rfl, rfl, rfl, rfl, rfl, trivial⟩ ?_
  refine WX.next ?_
  refine WC.cond rfl (ev_t rfl) (fun hc2 => ?_) (fun hc2 => ?_)
  · try simp only [decide_eq_true_eq, decide_eq_false_iff_not, Bool.not_eq_true', Bool.not_eq_false', Bool.not_eq_true, Bool.not_eq_false, Option.isNone_none, Option.isNone_some, Option.isSome_none, Option.isSome_some, ne_eq, Decidable.not_not] at hc2
    exfalso
    exact hc2 (by simp only [DS.look] at hi; omega)
  · try (exfalso; first | (simp at hc2; done) | (simp only [decide_eq_true_eq, decide_eq_false_iff_not, Bool.not_eq_true', Bool.not_eq_false', Bool.not_eq_true, Bool.not_eq_false] at hc2; omega) | omega)
    all_goals
     try simp only [decide_eq_true_eq, decide_eq_false_iff_not, Bool.not_eq_true', Bool.not_eq_false', Bool.not_eq_true, Bool.not_eq_false, Option.isNone_none, Option.isNone_some, Option.isSome_none, Option.isSome_some, ne_eq, Decidable.not_not] at hc2
     refine WC.skip ?_
     refine WX.next ?_
     refine WC.seq ?_
     refine WC.region ?_
     refine WL.val rfl rfl rfl rfl (r_move rfl (ev_t rfl)) ?_
     refine WL.val rfl rfl rfl rfl (r_nilCheck rfl (ev_t rfl)) ?_
     first | refine WL.val rfl rfl rfl rfl (r_field0 rfl (ev_t rfl) fld_62_0) ?_ | refine WL.val rfl rfl rfl rfl (r_fieldAt rfl (ev_t rfl) fld_62_0) ?_
     refine WL.val rfl rfl rfl rfl (r_load rfl (ev_t rfl) flat_60 (Blk.cell hb rfl)) ?_
     refine WL.val rfl rfl rfl rfl (r_move rfl (ev_t rfl)) ?_
     refine WL.val rfl rfl rfl rfl (r_indexAddr rfl (ev_t rfl) (ev_t rfl) elem_60 size_64 (by omega) (by omega)) ?_
     refine WL.val rfl rfl rfl rfl (r_assign rfl (ev_t rfl)) ?_
     refine WL.nil ?_
     refine WX.keep [(0, _), (2, _), (8, _)] ⟨rfl, rfl, rfl, trivial⟩ ?_
     refine WX.next ?_
     refine WC.seq ?_
     refine WC.seq ?_
     refine WC.draws' (fun u0_ u1_ => Upd No u0_ u1_) (fun j => [0, 0, 0, 0, 0, 0, 0, 0, 0, 1, 0, 0, 0].getD j 0) (.calm 0 (.calm 1 (.calm 2 (.calm 3 (.calm 4 (.calm 6 (.calm 7 (.calm 8 (.held 5 (.one 9 (.calm 10 (.calm 11 (.calm 12 (.done)))))))))))))) mixed (by kernel_rfl) (by repeat (first | with_reducible exact Deaf.body | with_reducible apply Deaf.then | with_reducible apply Deaf.block)) ?_
     intro w2 hu2
     have hz2 := congrArg Array.size hu2.2.2.2
     replace hu2 := Upd.of_draw hu2
     have hs2 := hu2.size
     replace hU := hU.trans hu2 (by first | exact (fun _ _ h => h) | exact (fun _ _ h => h.elim) | (intro k hl hk; (try simp only [At, New, Grow, From, No] at hk ⊢); omega) | (intro k hl hk; first | exact .inl hk | exact .inr (.inl hk) | exact .inr (.inr (.inr hk))))
     replace hb := hb.upd hu2 (by first | exact (fun h => h) | exact (fun h => (hfp _ (.inr h)).2.1 rfl) | exact hpg)
     replace hrow := hrow.upd hu2 (by first | exact (fun h => h) | exact (fun e => hpg e.symm) | exact (fun h => (hfp _ (.inr h)).2.2.1 rfl))
     replace hsure := hsure.upd hu2 (by first | exact (fun _ _ _ h => h) | exact (fun k hk _ e => (hfp k (.inl hk)).2.1 e) | exact (fun k hk _ e => (hfp k (.inl hk)).2.2.1 e) | exact (fun k hk _ e => h2 k hk e))
     replace hnow := hnow.upd hu2 (by first | exact (fun _ _ _ h => h) | exact (fun k hk _ e => (hfp k (.inr hk)).2.1 e) | (intro k hk hl e; simp only [At] at e; subst e; exact hk.elim (fun hk => (hfp _ (.inr hk)).2.2.1 rfl) (fun hk => by have := h.row.lt; omega)))
     replace hr := hr.upd hu2 (by first | exact (fun _ _ _ h => h) | (intro k hk hl e; exact hG k hk.1 hk.2 (by first | exact (e ▸ h.own.1) | exact (e ▸ h.own.2) | exact (hfp k (.inr e)).1)))
     have hS5 := Upd.refl No w2
     refine WN.calm _ rfl rfl rfl rfl rfl (fun _ => r_move rfl (ev_t rfl)) ?_
     refine WN.calm _ rfl rfl rfl rfl rfl (fun _ => r_lenSlice (ts := #[]) rfl (ev_t rfl) elem_22) ?_
     refine WN.calm _ rfl rfl rfl rfl rfl (fun _ => r_move rfl (ev_t rfl)) ?_
     refine WN.calm _ rfl rfl rfl rfl rfl (fun _ => r_nilCheck rfl (ev_t rfl)) ?_
     first | refine WN.calm _ rfl rfl rfl rfl rfl (fun _ => r_field0 rfl (ev_t rfl) fld_62_1) ?_ | refine WN.calm _ rfl rfl rfl rfl rfl (fun _ => r_fieldAt rfl (ev_t rfl) fld_62_1) ?_
     refine WN.calm _ rfl rfl rfl rfl rfl (fun _ => r_move rfl (ev_t rfl)) ?_
     refine WN.calm _ rfl rfl rfl rfl rfl (fun _ => r_nilCheck rfl (ev_t rfl)) ?_
     first | refine WN.calm _ rfl rfl rfl rfl rfl (fun _ => r_field0 rfl (ev_t rfl) fld_64_1) ?_ | refine WN.calm _ rfl rfl rfl rfl rfl (fun _ => r_fieldAt rfl (ev_t rfl) fld_64_1) ?_
     refine WN.held _ rfl rfl rfl rfl rfl hS5 (fun w' hS => r_load rfl (ev_t rfl) flat_3 (Blk.cell (hb.upd hS (fun h => h)) rfl)) ?_
     refine WN.step _ rfl (SO.val rfl rfl rfl rfl (r_load rfl (ev_t rfl) flat_22 ((row_get hrow ht).2.1 (by omega))) ?_)
     refine ⟨hS5, ?_⟩
     refine WN.calm _ rfl rfl rfl rfl rfl (fun _ => r_lenSlice (ts := #[]) rfl (ev_t rfl) elem_22) ?_
     first | refine WN.calm _ rfl rfl rfl rfl rfl (fun _ => r_subN rfl (ev_t rfl) (ev_t rfl) (by simp only [inK]; omega)) ?_ | refine WN.calm _ rfl rfl rfl rfl rfl (fun _ => r_sub rfl (ev_t rfl) (ev_t rfl)) ?_
     refine WN.calm _ rfl rfl rfl rfl rfl (fun _ => r_gtr rfl (ev_t rfl) (ev_t rfl)) ?_
     refine WN.done ?_
     refine WX.keep [(0, _), (2, _), (8, _), (34, _)] ⟨rfl, rfl, rfl, rfl, trivial⟩ ?_
     refine WX.next ?_
     refine WC.cond rfl (ev_t rfl) (fun hc5 => ?_) (fun hc5 => ?_)
     · try (exfalso; first | (simp at hc5; done) | (simp only [decide_eq_true_eq, decide_eq_false_iff_not, Bool.not_eq_true', Bool.not_eq_false', Bool.not_eq_true, Bool.not_eq_false] at hc5; omega) | omega)
       all_goals
        try simp only [decide_eq_true_eq, decide_eq_false_iff_not, Bool.not_eq_true', Bool.not_eq_false', Bool.not_eq_true, Bool.not_eq_false, Option.isNone_none, Option.isNone_some, Option.isSome_none, Option.isSome_some, ne_eq, Decidable.not_not] at hc5
        refine WC.seq ?_
        refine WC.region ?_
        refine WL.val rfl rfl rfl rfl (r_assign rfl ev_c) ?_
        refine WL.nil ?_
        refine WX.keep [(6, _)] ⟨rfl, trivial⟩ ?_
        refine WX.next ?_
        refine WC.ret ?_
        refine WX.thenRet ?_
        refine WX.retE1 rfl rfl ?_
        have e1 : D.append i q = (D, 13) := by unfold DS.append; rw [if_neg (by omega), if_pos (by omega)]
        rw [e1]
        exact ⟨rfl, ⟨g, l, (h.upd hu2 (fun _ _ _ h => h)).mono (fun k hk _ => .inl hk)⟩, hU.mono hSF⟩
     · try (exfalso; first | (simp at hc5; done) | (simp only [decide_eq_true_eq, decide_eq_false_iff_not, Bool.not_eq_true', Bool.not_eq_false', Bool.not_eq_true, Bool.not_eq_false] at hc5; omega) | omega)
       all_goals
        try simp only [decide_eq_true_eq, decide_eq_false_iff_not, Bool.not_eq_true', Bool.not_eq_false', Bool.not_eq_true, Bool.not_eq_false, Option.isNone_none, Option.isNone_some, Option.isSome_none, Option.isSome_some, ne_eq, Decidable.not_not] at hc5
        refine WC.skip ?_
        refine WX.next ?_
        refine WC.seq ?_
        refine WC.region ?_
        refine WL.val rfl rfl rfl rfl (r_move rfl (ev_t rfl)) ?_
        refine WL.cons (SO.call (begin_ok hb h.wf.armed) rfl body_23 ⟨(ev_t rfl), trivial⟩ rfl rfl rfl rfl ?_)
        rintro v w3 ⟨rfl, hb, hu3⟩
        have hs3 := hu3.size
        replace hU := hU.trans hu3 (by first | exact (fun _ _ h => h) | exact (fun _ _ h => h.elim) | (intro k hl hk; (try simp only [At, New, Grow, From, No] at hk ⊢); omega) | (intro k hl hk; first | exact .inl hk | exact .inr (.inl hk) | exact .inr (.inr (.inr hk))))
        replace hrow := hrow.upd hu3 (by first | exact (fun h => h) | exact (fun e => hpg e.symm) | exact (fun h => (hfp _ (.inr h)).2.2.1 rfl))
        replace hsure := hsure.upd hu3 (by first | exact (fun _ _ _ h => h) | exact (fun k hk _ e => (hfp k (.inl hk)).2.1 e) | exact (fun k hk _ e => (hfp k (.inl hk)).2.2.1 e) | exact (fun k hk _ e => h2 k hk e))
        replace hnow := hnow.upd hu3 (by first | exact (fun _ _ _ h => h) | exact (fun k hk _ e => (hfp k (.inr hk)).2.1 e) | (intro k hk hl e; simp only [At] at e; subst e; exact hk.elim (fun hk => (hfp _ (.inr hk)).2.2.1 rfl) (fun hk => by have := h.row.lt; omega)))
        replace hr := hr.upd hu3 (by first | exact (fun _ _ _ h => h) | (intro k hk hl e; exact hG k hk.1 hk.2 (by first | exact (e ▸ h.own.1) | exact (e ▸ h.own.2) | exact (hfp k (.inr e)).1)))
        refine WL.val rfl rfl rfl rfl (r_assign rfl (ev_t rfl)) ?_
        refine WL.nil ?_
        refine WX.keep [(2, _), (8, _), (9, _)] ⟨rfl, rfl, rfl, trivial⟩ ?_
        refine WX.next ?_
        refine WC.seq ?_
        refine WC.region ?_
        refine WL.val rfl rfl rfl rfl (r_move rfl (ev_t rfl)) ?_
        refine WL.val rfl rfl rfl rfl (r_move rfl (ev_t rfl)) ?_
        refine WL.val rfl rfl rfl rfl (r_nilCheck rfl (ev_t rfl)) ?_
        first | refine WL.val rfl rfl rfl rfl (r_field0 rfl (ev_t rfl) fld_64_1) ?_ | refine WL.val rfl rfl rfl rfl (r_fieldAt rfl (ev_t rfl) fld_64_1) ?_
        refine WL.val rfl rfl rfl rfl (r_load rfl (ev_t rfl) flat_22 ((row_get hrow ht).2.1 (by omega))) ?_
        refine WL.val rfl rfl rfl rfl (r_move rfl (ev_t rfl)) ?_
        refine WL.cons (SO.append hnow hr row_22 (U8_one _) (le_maxLen (by omega)) (by omega) rfl (ev_t rfl) (ev_t rfl) rfl rfl rfl rfl ?_)
        intro v4 w4 hnow hu4
        have hs4 := hu4.size
        replace hU := hU.trans hu4 (by first | exact (fun _ _ h => h) | exact (fun _ _ h => h.elim) | (intro k hl hk; (try simp only [At, New, Grow, From, No] at hk ⊢); omega) | (intro k hl hk; first | exact .inl hk | exact .inr (.inl hk) | exact .inr (.inr (.inr hk))))
        replace hb := hb.upd hu4 (by first | exact (fun h => h) | exact (fun h => (hfp _ (.inr h)).2.1 rfl) | exact hpg)
        replace hrow := hrow.upd hu4 (by first | exact (fun h => h) | exact (fun e => hpg e.symm) | exact (fun h => (hfp _ (.inr h)).2.2.1 rfl))
        replace hsure := hsure.upd hu4 (by first | exact (fun _ _ _ h => h) | exact (fun k hk _ e => (hfp k (.inl hk)).2.1 e) | exact (fun k hk _ e => (hfp k (.inl hk)).2.2.1 e) | exact (fun k hk _ e => h2 k hk e))
        replace hr := hr.upd hu4 (by first | exact (fun _ _ _ h => h) | (intro k hk hl e; exact hG k hk.1 hk.2 (by first | exact (e ▸ h.own.1) | exact (e ▸ h.own.2) | exact (hfp k (.inr e)).1)))
        obtain ⟨A4, c4, rfl, hc4⟩ := Own.form hnow
        refine WL.val rfl rfl rfl rfl (r_nilCheck rfl (ev_t rfl)) ?_
        first | refine WL.val rfl rfl rfl rfl (r_field0 rfl (ev_t rfl) fld_64_1) ?_ | refine WL.val rfl rfl rfl rfl (r_fieldAt rfl (ev_t rfl) fld_64_1) ?_
        refine WL.cons (SO.store rfl (ev_t rfl) (ev_t rfl) size_22 hrow (blt_of (by rw [trkC_size]; omega)) rfl rfl rfl rfl ?_)
        intro w5 hu5 hrow hzs
        have hs5 := hu5.size
        replace hU := hU.trans hu5 (by first | exact (fun _ _ h => h) | exact (fun _ _ h => h.elim) | (intro k hl hk; (try simp only [At, New, Grow, From, No] at hk ⊢); omega) | (intro k hl hk; first | exact .inl hk | exact .inr (.inl hk) | exact .inr (.inr (.inr hk))))
        replace hb := hb.upd hu5 (by first | exact (fun h => h) | exact (fun h => (hfp _ (.inr h)).2.1 rfl) | exact hpg)
        replace hsure := hsure.upd hu5 (by first | exact (fun _ _ _ h => h) | exact (fun k hk _ e => (hfp k (.inl hk)).2.1 e) | exact (fun k hk _ e => (hfp k (.inl hk)).2.2.1 e) | exact (fun k hk _ e => h2 k hk e))
        replace hnow := hnow.upd hu5 (by first | exact (fun _ _ _ h => h) | exact (fun k hk _ e => (hfp k (.inr hk)).2.1 e) | (intro k hk hl e; simp only [At] at e; subst e; exact hk.elim (fun hk => (hfp _ (.inr hk)).2.2.1 rfl) (fun hk => by have := h.row.lt; omega)))
        replace hr := hr.upd hu5 (by first | exact (fun _ _ _ h => h) | (intro k hk hl e; exact hG k hk.1 hk.2 (by first | exact (e ▸ h.own.1) | exact (e ▸ h.own.2) | exact (hfp k (.inr e)).1)))
        replace hrow := (row_set ht).2.1 _ (by omega) hrow
        refine WL.nil ?_
        refine WX.keep [(9, _)] ⟨rfl, trivial⟩ ?_
        have e1 : D.append i q = (D.begin.setT i.toNat { D.track i.toNat with now := (D.track i.toNat).now ++ q }, D.begin.code) := by unfold DS.append; rw [if_neg (by omega), if_neg (by omega)]
        have hfin : IsD w5 (Grow F w w5) p (D.append i q).1 := by
          rw [e1]
          dsimp only
          refine ⟨g, _, h.put (a' := { D.track i.toNat with now := (D.track i.toNat).now ++ q }) (t' := ⟨sv, .slice A4 ((D.track i.toNat).now.length + m) c4, fr, FS, Grow FN w3 w4⟩) ht hU hb (by rw [trkC_fp]; exact hrow) ⟨hsure, ?_, hfr⟩ rfl (h.wf.begin.setT hws ?_) (fun k hk => ?_) (fun k hk hk' => ?_)⟩
          · simp only
            rw [List.length_append, List.map_append, hq]
            exact hnow
          · simp only [List.length_append]
            show _ ≤ D.most
            omega
          · rcases hk with hk | hk | hk
            · exact ⟨.inl hk, by have := (hfp k (.inl hk)).2.2.2; omega⟩
            · exact ⟨.inr (.inl hk), by have := (hfp k (.inr hk)).2.2.2; omega⟩
            · exact ⟨.inr (.inr (by omega)), by omega⟩
          · rcases hk' with hk' | hk'
            · exact h2 k hk hk'
            · have := (hfp k (.inl hk)).2.2.2; omega
        refine WX.next ?_
        refine WC.seq ?_
        refine WC.seq ?_
        refine WC.region ?_
        refine WL.val rfl rfl rfl rfl (r_move rfl (ev_t rfl)) ?_
        refine WL.val rfl rfl rfl rfl (r_not rfl (ev_t rfl)) ?_
        refine WL.nil ?_
        refine WX.keep [(47, _)] ⟨rfl, trivial⟩ ?_
        refine WX.next ?_
        refine WC.cond rfl (ev_t rfl) (fun hc9 => ?_) (fun hc9 => ?_)
        · try (exfalso; first | (simp at hc9; done) | (simp only [decide_eq_true_eq, decide_eq_false_iff_not, Bool.not_eq_true', Bool.not_eq_false', Bool.not_eq_true, Bool.not_eq_false] at hc9; omega) | omega)
          all_goals
           try simp only [decide_eq_true_eq, decide_eq_false_iff_not, Bool.not_eq_true', Bool.not_eq_false', Bool.not_eq_true, Bool.not_eq_false, Option.isNone_none, Option.isNone_some, Option.isSome_none, Option.isSome_some, ne_eq, Decidable.not_not] at hc9
           refine WC.seq ?_
           refine WC.region ?_
           refine WL.val rfl rfl rfl rfl (r_assign rfl ev_c) ?_
           refine WL.nil ?_
           refine WX.keep [(6, _)] ⟨rfl, trivial⟩ ?_
           refine WX.next ?_
           refine WC.ret ?_
           refine WX.thenRet ?_
           refine WX.retE1 rfl rfl ?_
           exact ⟨by rw [e1]; simp [DS.code, hc9], hfin, hU.mono hSF⟩
        · try (exfalso; first | (simp at hc9; done) | (simp only [decide_eq_true_eq, decide_eq_false_iff_not, Bool.not_eq_true', Bool.not_eq_false', Bool.not_eq_true, Bool.not_eq_false] at hc9; omega) | omega)
          all_goals
           try simp only [decide_eq_true_eq, decide_eq_false_iff_not, Bool.not_eq_true', Bool.not_eq_false', Bool.not_eq_true, Bool.not_eq_false, Option.isNone_none, Option.isNone_some, Option.isSome_none, Option.isSome_some, ne_eq, Decidable.not_not] at hc9
           refine WC.skip ?_
           refine WX.next ?_
           refine WC.seq ?_
           refine WC.region ?_
           refine WL.val rfl rfl rfl rfl (r_assign rfl ev_c) ?_
           refine WL.nil ?_
           refine WX.keep [(6, _)] ⟨rfl, trivial⟩ ?_
           refine WX.next ?_
           refine WC.ret ?_
           refine WX.retE1 rfl rfl ?_
           exact ⟨by rw [e1]; simp [DS.code, hc9], hfin, hU.mono hSF⟩

theorem Write_bad {w : World} {F : Nat → Prop} {p : Nat} {D : DS} {i : Int} {qv : Value} (h : IsD w F p D) (hi : D.look i ≠ 0) : Ret Try.prog 11 #[.pointer (some ⟨p, 0, none⟩), .int .i64 i, qv] w fun v' w' => v' = .int .i64 (D.look i : Int) ∧ w = w' := by
  obtain ⟨g, l, h⟩ := h
  have hb := h.hd
  refine enterRet (vs := [_, _, _]) (N := 42) Try.func11 rfl rfl rfl ?_
  refine WC.keep [(0, _), (1, _), (2, _)] ⟨rfl, rfl, rfl, trivial⟩ ?_
  refine WC.seq ?_
  refine WC.region ?_
  refine WL.val rfl rfl rfl rfl (r_assign rfl ev_c) ?_
  refine WL.nil ?_
  refine WX.keep [(0, _), (1, _), (2, _)] ⟨rfl, rfl, rfl, trivial⟩ ?_
  refine WX.next ?_
  refine WC.seq ?_
  refine WC.seq ?_
  refine WC.region ?_
  refine WL.val rfl rfl rfl rfl (r_move rfl (ev_t rfl)) ?_
  refine WL.val rfl rfl rfl rfl (r_move rfl (ev_t rfl)) ?_
  refine WL.cons (SO.call (look_ok hb) rfl body_22 ⟨(ev_t rfl), (ev_t rfl), trivial⟩ rfl rfl rfl rfl ?_)
  rintro v w' ⟨rfl, rfl⟩
  refine WL.val rfl rfl rfl rfl (r_assign rfl (ev_t rfl)) ?_
  refine WL.nil ?_
  refine WX.keep [(0, _), (1, _), (2, _), (7, _)] ⟨rfl, rfl, rfl, rfl, trivial⟩ ?_
  refine WX.next ?_
  refine WC.seq ?_
  refine WC.region ?_
  refine WL.val rfl rfl rfl rfl (r_move rfl (ev_t rfl)) ?_
  refine WL.val rfl rfl rfl rfl (r_neq rfl (ev_t rfl) ev_c) ?_
  refine WL.nil ?_
  refine WX.keep [(0, _), (1, _), (2, _), (7, _), (13, _)] ⟨rfl, rfl, rfl, rfl, rfl, trivial⟩ ?_
  refine WX.next ?_
  refine WC.cond rfl (ev_t rfl) (fun hc2 => ?_) (fun hc2 => ?_)
  · try (exfalso; first | (simp at hc2; done) | (simp only [decide_eq_true_eq, decide_eq_false_iff_not, Bool.not_eq_true', Bool.not_eq_false', Bool.not_eq_true, Bool.not_eq_false] at hc2; omega) | omega)
    all_goals
     try simp only [decide_eq_true_eq, decide_eq_false_iff_not, Bool.not_eq_true', Bool.not_eq_false', Bool.not_eq_true, Bool.not_eq_false, Option.isNone_none, Option.isNone_some, Option.isSome_none, Option.isSome_some, ne_eq, Decidable.not_not] at hc2
     refine WC.seq ?_
     refine WC.region ?_
     refine WL.val rfl rfl rfl rfl (r_move rfl (ev_t rfl)) ?_
     refine WL.val rfl rfl rfl rfl (r_assign rfl (ev_t rfl)) ?_
     refine WL.nil ?_
     refine WX.keep [(6, _)] ⟨rfl, trivial⟩ ?_
     refine WX.next ?_
     refine WC.ret ?_
     refine WX.thenRet ?_
     refine WX.retE1 rfl rfl ?_
     exact ⟨rfl, rfl⟩
  · try simp only [decide_eq_true_eq, decide_eq_false_iff_not, Bool.not_eq_true', Bool.not_eq_false', Bool.not_eq_true, Bool.not_eq_false, Option.isNone_none, Option.isNone_some, Option.isSome_none, Option.isSome_some, ne_eq, Decidable.not_not] at hc2
    exfalso
    exact hi (by simp only [DS.look]; omega)
theorem Write_nil {w : World} {i : Int} {qv : Value} : Ret Try.prog 11 #[.pointer none, .int .i64 i, qv] w fun v' w' => v' = .int .i64 6 ∧ w = w' := by
  refine enterRet (vs := [_, _, _]) (N := 42) Try.func11 rfl rfl rfl ?_
  refine WC.keep [(0, _), (1, _), (2, _)] ⟨rfl, rfl, rfl, trivial⟩ ?_
  refine WC.seq ?_
  refine WC.region ?_
  refine WL.val rfl rfl rfl rfl (r_assign rfl ev_c) ?_
  refine WL.nil ?_
  refine WX.keep [(0, _), (1, _), (2, _)] ⟨rfl, rfl, rfl, trivial⟩ ?_
  refine WX.next ?_
  refine WC.seq ?_
  refine WC.seq ?_
  refine WC.region ?_
  refine WL.val rfl rfl rfl rfl (r_move rfl (ev_t rfl)) ?_
  refine WL.val rfl rfl rfl rfl (r_move rfl (ev_t rfl)) ?_
  refine WL.cons (SO.call (look_nil) rfl body_22 ⟨(ev_t rfl), (ev_t rfl), trivial⟩ rfl rfl rfl rfl ?_)
  rintro v w' ⟨rfl, rfl⟩
  refine WL.val rfl rfl rfl rfl (r_assign rfl (ev_t rfl)) ?_
  refine WL.nil ?_
  refine WX.keep [(0, _), (1, _), (2, _), (7, _)] ⟨rfl, rfl, rfl, rfl, trivial⟩ ?_
  refine WX.next ?_
  refine WC.seq ?_
  refine WC.region ?_
  refine WL.val rfl rfl rfl rfl (r_move rfl (ev_t rfl)) ?_
  refine WL.val rfl rfl rfl rfl (r_neq rfl (ev_t rfl) ev_c) ?_
  refine WL.nil ?_
  refine WX.keep [(0, _), (1, _), (2, _), (7, _), (13, _)] ⟨rfl, rfl, rfl, rfl, rfl, trivial⟩ ?_
  refine WX.next ?_
  refine WC.cond rfl (ev_t rfl) (fun hc2 => ?_) (fun hc2 => ?_)
  · try (exfalso; first | (simp at hc2; done) | (simp only [decide_eq_true_eq, decide_eq_false_iff_not, Bool.not_eq_true', Bool.not_eq_false', Bool.not_eq_true, Bool.not_eq_false] at hc2; omega) | omega)
    all_goals
     try simp only [decide_eq_true_eq, decide_eq_false_iff_not, Bool.not_eq_true', Bool.not_eq_false', Bool.not_eq_true, Bool.not_eq_false, Option.isNone_none, Option.isNone_some, Option.isSome_none, Option.isSome_some, ne_eq, Decidable.not_not] at hc2
     refine WC.seq ?_
     refine WC.region ?_
     refine WL.val rfl rfl rfl rfl (r_move rfl (ev_t rfl)) ?_
     refine WL.val rfl rfl rfl rfl (r_assign rfl (ev_t rfl)) ?_
     refine WL.nil ?_
     refine WX.keep [(6, _)] ⟨rfl, trivial⟩ ?_
     refine WX.next ?_
     refine WC.ret ?_
     refine WX.thenRet ?_
     refine WX.retE1 rfl rfl ?_
     exact ⟨rfl, rfl⟩
  · try simp only [decide_eq_true_eq, decide_eq_false_iff_not, Bool.not_eq_true', Bool.not_eq_false', Bool.not_eq_true, Bool.not_eq_false, Option.isNone_none, Option.isNone_some, Option.isSome_none, Option.isSome_some, ne_eq, Decidable.not_not] at hc2
    exfalso
    omega
theorem Write_good {w : World} {F G : Nat → Prop} {p : Nat} {D : DS} {i : Int} {qv : Value} {m : Nat} {q : List UInt8} (h : IsD w F p D) (hi : D.look i = 0) (hr : Rd w G qv m 1 (q.map U8)) (hG : ∀ k, G k → k < w.heap.size → ¬ F k) :
    Ret Try.prog 11 #[.pointer (some ⟨p, 0, none⟩), .int .i64 i, qv] w fun v' w' => v' = .int .i64 ((D.write i q).2 : Int) ∧ IsD w' (Grow F w w') p (D.write i q).1 ∧ Upd F w w' := by
  obtain ⟨g, l, h⟩ := h
  obtain ⟨t, ht, hok, hil⟩ := h.at hi
  have hb := h.hd
  have hrow := h.row
  have hi' := lookN_ok hi
  have hl := h.len
  have hws := (h.wf.trk _ (DS.track_mem hil)).1
  have hm := h.wf.most
  have hpg := h.ne
  have hfp := h.fp _ _ ht
  have h2 := h.two _ _ ht
  have hq := hr.lenB
  obtain ⟨Aq, cq, rfl, hcq⟩ := hr.slice_form
  obtain ⟨sv, nv, fr, FS, FN⟩ := t
  obtain ⟨hsure, hnow, hfr⟩ := hok
  dsimp only at hsure hnow hfr hfp h2
  have hSF : ∀ k, k < w.heap.size → trkS p g ⟨sv, nv, fr, FS, FN⟩ k → F k := fun k _ hk => by
    rcases hk with rfl | rfl | hk
    · exact h.own.1
    · exact h.own.2
    · exact (hfp k hk).1
  refine enterRet (vs := [_, _, _]) (N := 42) Try.func11 rfl rfl rfl ?_
  have hU := Upd.refl (trkS p g ⟨sv, nv, fr, FS, FN⟩) w
  replace hr := hr.bound
  refine WC.keep [(0, _), (1, _), (2, _)] ⟨rfl, rfl, rfl, trivial⟩ ?_
  refine WC.seq ?_
  refine WC.region ?_
  refine WL.val rfl rfl rfl rfl (r_assign rfl ev_c) ?_
  refine WL.nil ?_
  refine WX.keep [(0, _), (1, _), (2, _)] ⟨rfl, rfl, rfl, trivial⟩ ?_
  refine WX.next ?_
  refine WC.seq ?_
  refine WC.seq ?_
  refine WC.region ?_
  refine WL.val rfl rfl rfl rfl (r_move rfl (ev_t rfl)) ?_
  refine WL.val rfl rfl rfl rfl (r_move rfl (ev_t rfl)) ?_
  refine WL.cons (SO.call (look_ok hb) rfl body_22 ⟨(ev_t rfl), (ev_t rfl), trivial⟩ rfl rfl rfl rfl ?_)
  rintro v w' ⟨rfl, rfl⟩
  refine WL.val rfl rfl rfl rfl (r_assign rfl (ev_t rfl)) ?_
  refine WL.nil ?_
  refine WX.keep [(0, _), (1, _), (2, _), (7, _)] ⟨rfl, rfl, rfl, rfl, trivial⟩ ?_
  refine WX.next ?_
  refine WC.seq ?_
  refine WC.region ?_
  refine WL.val rfl rfl rfl rfl (r_move rfl (ev_t rfl)) ?_
  refine WL.val rfl rfl rfl rfl (r_neq rfl (ev_t rfl) ev_c) ?_
  refine WL.nil ?_
  refine WX.keep [(0, _), (1, _), (2, _), (7, _), (13, _)] ⟨rfl, rfl, rfl, rfl, rfl, trivial⟩ ?_
  refine WX.next ?_
  refine WC.cond rfl (ev_t rfl) (fun hc2 => ?_) (fun hc2 => ?_)
  · try simp only [decide_eq_true_eq, decide_eq_false_iff_not, Bool.not_eq_true', Bool.not_eq_false', Bool.not_eq_true, Bool.not_eq_false, Option.isNone_none, Option.isNone_some, Option.isSome_none, Option.isSome_some, ne_eq, Decidable.not_not] at hc2
    exfalso
    exact hc2 (by simp only [DS.look] at hi; omega)
  · try (exfalso; first | (simp at hc2; done) | (simp only [decide_eq_true_eq, decide_eq_false_iff_not, Bool.not_eq_true', Bool.not_eq_false', Bool.not_eq_true, Bool.not_eq_false] at hc2; omega) | omega)
    all_goals
     try simp only [decide_eq_true_eq, decide_eq_false_iff_not, Bool.not_eq_true', Bool.not_eq_false', Bool.not_eq_true, Bool.not_eq_false, Option.isNone_none, Option.isNone_some, Option.isSome_none, Option.isSome_some, ne_eq, Decidable.not_not] at hc2
     refine WC.skip ?_
     refine WX.next ?_
     refine WC.seq ?_
     refine WC.seq ?_
     refine WC.region ?_
     refine WL.val rfl rfl rfl rfl (r_move rfl (ev_t rfl)) ?_
     refine WL.val rfl rfl rfl rfl (r_lenSlice (ts := #[]) rfl (ev_t rfl) elem_22) ?_
     refine WL.val rfl rfl rfl rfl (r_move rfl (ev_t rfl)) ?_
     refine WL.val rfl rfl rfl rfl (r_nilCheck rfl (ev_t rfl)) ?_
     first | refine WL.val rfl rfl rfl rfl (r_field0 rfl (ev_t rfl) fld_62_1) ?_ | refine WL.val rfl rfl rfl rfl (r_fieldAt rfl (ev_t rfl) fld_62_1) ?_
     refine WL.val rfl rfl rfl rfl (r_load rfl (ev_t rfl) flat_3 (Blk.cell hb rfl)) ?_
     refine WL.val rfl rfl rfl rfl (r_gtr rfl (ev_t rfl) (ev_t rfl)) ?_
     refine WL.nil ?_
     refine WX.keep [(0, _), (1, _), (2, _), (21, _)] ⟨rfl, rfl, rfl, rfl, trivial⟩ ?_
     refine WX.next ?_
     refine WC.cond rfl (ev_t rfl) (fun hc4 => ?_) (fun hc4 => ?_)
     · try (exfalso; first | (simp at hc4; done) | (simp only [decide_eq_true_eq, decide_eq_false_iff_not, Bool.not_eq_true', Bool.not_eq_false', Bool.not_eq_true, Bool.not_eq_false] at hc4; omega) | omega)
       all_goals
        try simp only [decide_eq_true_eq, decide_eq_false_iff_not, Bool.not_eq_true', Bool.not_eq_false', Bool.not_eq_true, Bool.not_eq_false, Option.isNone_none, Option.isNone_some, Option.isSome_none, Option.isSome_some, ne_eq, Decidable.not_not] at hc4
        refine WC.seq ?_
        refine WC.region ?_
        refine WL.val rfl rfl rfl rfl (r_assign rfl ev_c) ?_
        refine WL.nil ?_
        refine WX.keep [(6, _)] ⟨rfl, trivial⟩ ?_
        refine WX.next ?_
        refine WC.ret ?_
        refine WX.thenRet ?_
        refine WX.retE1 rfl rfl ?_
        have e1 : D.write i q = (D, 13) := by unfold DS.write; rw [if_neg (by omega), if_pos (by omega)]
        rw [e1]
        exact ⟨rfl, ⟨g, l, h.mono (fun k hk _ => .inl hk)⟩, Upd.refl _ _⟩
     · try (exfalso; first | (simp at hc4; done) | (simp only [decide_eq_true_eq, decide_eq_false_iff_not, Bool.not_eq_true', Bool.not_eq_false', Bool.not_eq_true, Bool.not_eq_false] at hc4; omega) | omega)
       all_goals
        try simp only [decide_eq_true_eq, decide_eq_false_iff_not, Bool.not_eq_true', Bool.not_eq_false', Bool.not_eq_true, Bool.not_eq_false, Option.isNone_none, Option.isNone_some, Option.isSome_none, Option.isSome_some, ne_eq, Decidable.not_not] at hc4
        refine WC.skip ?_
        refine WX.next ?_
        refine WC.seq ?_
        refine WC.region ?_
        refine WL.val rfl rfl rfl rfl (r_move rfl (ev_t rfl)) ?_
        refine WL.cons (SO.call (begin_ok hb h.wf.armed) rfl body_23 ⟨(ev_t rfl), trivial⟩ rfl rfl rfl rfl ?_)
        rintro v w2 ⟨rfl, hb, hu2⟩
        have hs2 := hu2.size
        replace hU := hU.trans hu2 (by first | exact (fun _ _ h => h) | exact (fun _ _ h => h.elim) | (intro k hl hk; (try simp only [At, New, Grow, From, No] at hk ⊢); omega) | (intro k hl hk; first | exact .inl hk | exact .inr (.inl hk) | exact .inr (.inr (.inr hk))))
        replace hrow := hrow.upd hu2 (by first | exact (fun h => h) | exact (fun e => hpg e.symm) | exact (fun h => (hfp _ (.inr h)).2.2.1 rfl))
        replace hsure := hsure.upd hu2 (by first | exact (fun _ _ _ h => h) | exact (fun k hk _ e => (hfp k (.inl hk)).2.1 e) | exact (fun k hk _ e => (hfp k (.inl hk)).2.2.1 e) | exact (fun k hk _ e => h2 k hk e))
        replace hr := hr.upd hu2 (by first | exact (fun _ _ _ h => h) | (intro k hk hl e; exact hG k hk.1 hk.2 (by first | exact (e ▸ h.own.1) | exact (e ▸ h.own.2) | exact (hfp k (.inr e)).1)))
        refine WL.val rfl rfl rfl rfl (r_assign rfl (ev_t rfl)) ?_
        refine WL.nil ?_
        refine WX.keep [(0, _), (1, _), (2, _), (8, _)] ⟨rfl, rfl, rfl, rfl, trivial⟩ ?_
        refine WX.next ?_
        refine WC.seq ?_
        refine WC.draws' (fun u0_ u1_ => Upd No u0_ u1_) (fun j => [0, 0, 0, 0, 0, 0, 0, 0, 0, 0, 0, 1, 0, 0, 2, 0, 0, 2].getD j 0) (.calm 0 (.calm 1 (.calm 2 (.calm 4 (.calm 5 (.calm 6 (.calm 7 (.calm 9 (.calm 10 (.held 3 (.held 8 (.one 11 (.calm 12 (.calm 13 (.one 14 (.calm 15 (.calm 16 (.one 17 (.done))))))))))))))))))) mixed (by kernel_rfl) (by repeat (first | with_reducible exact Deaf.body | with_reducible apply Deaf.then | with_reducible apply Deaf.block)) ?_
        intro w3 hu3
        have hz3 := congrArg Array.size hu3.2.2.2
        replace hu3 := Upd.of_draw hu3
        have hs3 := hu3.size
        replace hU := hU.trans hu3 (by first | exact (fun _ _ h => h) | exact (fun _ _ h => h.elim) | (intro k hl hk; (try simp only [At, New, Grow, From, No] at hk ⊢); omega) | (intro k hl hk; first | exact .inl hk | exact .inr (.inl hk) | exact .inr (.inr (.inr hk))))
        replace hb := hb.upd hu3 (by first | exact (fun h => h) | exact (fun h => (hfp _ (.inr h)).2.1 rfl) | exact hpg)
        replace hrow := hrow.upd hu3 (by first | exact (fun h => h) | exact (fun e => hpg e.symm) | exact (fun h => (hfp _ (.inr h)).2.2.1 rfl))
        replace hsure := hsure.upd hu3 (by first | exact (fun _ _ _ h => h) | exact (fun k hk _ e => (hfp k (.inl hk)).2.1 e) | exact (fun k hk _ e => (hfp k (.inl hk)).2.2.1 e) | exact (fun k hk _ e => h2 k hk e))
        replace hr := hr.upd hu3 (by first | exact (fun _ _ _ h => h) | (intro k hk hl e; exact hG k hk.1 hk.2 (by first | exact (e ▸ h.own.1) | exact (e ▸ h.own.2) | exact (hfp k (.inr e)).1)))
        have hS7 := Upd.refl No w3
        refine WN.calm _ rfl rfl rfl rfl rfl (fun _ => r_move rfl (ev_t rfl)) ?_
        refine WN.calm _ rfl rfl rfl rfl rfl (fun _ => r_nilCheck rfl (ev_t rfl)) ?_
        first | refine WN.calm _ rfl rfl rfl rfl rfl (fun _ => r_field0 rfl (ev_t rfl) fld_62_0) ?_ | refine WN.calm _ rfl rfl rfl rfl rfl (fun _ => r_fieldAt rfl (ev_t rfl) fld_62_0) ?_
        refine WN.calm _ rfl rfl rfl rfl rfl (fun _ => r_move rfl (ev_t rfl)) ?_
        refine WN.calm _ rfl rfl rfl rfl rfl (fun _ => r_move rfl (ev_t rfl)) ?_
        refine WN.calm _ rfl rfl rfl rfl rfl (fun _ => r_nilCheck rfl (ev_t rfl)) ?_
        first | refine WN.calm _ rfl rfl rfl rfl rfl (fun _ => r_field0 rfl (ev_t rfl) fld_62_0) ?_ | refine WN.calm _ rfl rfl rfl rfl rfl (fun _ => r_fieldAt rfl (ev_t rfl) fld_62_0) ?_
        refine WN.calm _ rfl rfl rfl rfl rfl (fun _ => r_move rfl (ev_t rfl)) ?_
        refine WN.calm _ rfl rfl rfl rfl rfl (fun _ => r_move rfl (ev_t rfl)) ?_
        refine WN.held _ rfl rfl rfl rfl rfl hS7 (fun w' hS => r_load rfl (ev_t rfl) flat_60 (Blk.cell (hb.upd hS (fun h => h)) rfl)) ?_
        refine WN.held _ rfl rfl rfl rfl rfl hS7 (fun w' hS => r_load rfl (ev_t rfl) flat_60 (Blk.cell (hb.upd hS (fun h => h)) rfl)) ?_
        refine WN.step _ rfl (SO.call (clone_ok hr) rfl body_18 ⟨(ev_t rfl), trivial⟩ rfl rfl rfl rfl ?_)
        rintro v w4 ⟨hnew, hu4⟩
        have hs4 := hu4.size
        replace hS7 := Upd.transA hS7 hu4
        replace hU := hU.trans hu4 (by first | exact (fun _ _ h => h) | exact (fun _ _ h => h.elim) | (intro k hl hk; (try simp only [At, New, Grow, From, No] at hk ⊢); omega) | (intro k hl hk; first | exact .inl hk | exact .inr (.inl hk) | exact .inr (.inr (.inr hk))))
        replace hb := hb.upd hu4 (by first | exact (fun h => h) | exact (fun h => (hfp _ (.inr h)).2.1 rfl) | exact hpg)
        replace hrow := hrow.upd hu4 (by first | exact (fun h => h) | exact (fun e => hpg e.symm) | exact (fun h => (hfp _ (.inr h)).2.2.1 rfl))
        replace hsure := hsure.upd hu4 (by first | exact (fun _ _ _ h => h) | exact (fun k hk _ e => (hfp k (.inl hk)).2.1 e) | exact (fun k hk _ e => (hfp k (.inl hk)).2.2.1 e) | exact (fun k hk _ e => h2 k hk e))
        replace hr := hr.upd hu4 (by first | exact (fun _ _ _ h => h) | (intro k hk hl e; exact hG k hk.1 hk.2 (by first | exact (e ▸ h.own.1) | exact (e ▸ h.own.2) | exact (hfp k (.inr e)).1)))
        refine ⟨hS7, ?_⟩
        refine WN.calm _ rfl rfl rfl rfl rfl (fun _ => r_indexAddr rfl (ev_t rfl) (ev_t rfl) elem_60 size_64 (by omega) (by omega)) ?_
        first | refine WN.calm _ rfl rfl rfl rfl rfl (fun _ => r_field0 rfl (ev_t rfl) fld_64_1) ?_ | refine WN.calm _ rfl rfl rfl rfl rfl (fun _ => r_fieldAt rfl (ev_t rfl) fld_64_1) ?_
        refine WN.step _ rfl (SO.store rfl (ev_t rfl) (ev_t rfl) size_22 hrow (blt_of (by rw [trkC_size]; omega)) hnew.one rfl rfl rfl ?_)
        intro w5 hu5 hrow hzs
        replace hnew := hnew.upd hu5 (fun k hk _ e => by simp only [At, New] at hk e; have := h.row.lt; omega)
        have hs5 := hu5.size
        try replace hS7 := Upd.transA hS7 hu5
        replace hU := hU.trans hu5 (by first | exact (fun _ _ h => h) | exact (fun _ _ h => h.elim) | (intro k hl hk; (try simp only [At, New, Grow, From, No] at hk ⊢); omega) | (intro k hl hk; first | exact .inl hk | exact .inr (.inl hk) | exact .inr (.inr (.inr hk))))
        replace hb := hb.upd hu5 (by first | exact (fun h => h) | exact (fun h => (hfp _ (.inr h)).2.1 rfl) | exact hpg)
        replace hsure := hsure.upd hu5 (by first | exact (fun _ _ _ h => h) | exact (fun k hk _ e => (hfp k (.inl hk)).2.1 e) | exact (fun k hk _ e => (hfp k (.inl hk)).2.2.1 e) | exact (fun k hk _ e => h2 k hk e))
        replace hr := hr.upd hu5 (by first | exact (fun _ _ _ h => h) | (intro k hk hl e; exact hG k hk.1 hk.2 (by first | exact (e ▸ h.own.1) | exact (e ▸ h.own.2) | exact (hfp k (.inr e)).1)))
        replace hrow := (row_set ht).2.1 _ (by omega) hrow
        refine ⟨trivial, ?_⟩
        refine WN.calm _ rfl rfl rfl rfl rfl (fun _ => r_indexAddr rfl (ev_t rfl) (ev_t rfl) elem_60 size_64 (by omega) (by omega)) ?_
        first | refine WN.calm _ rfl rfl rfl rfl rfl (fun _ => r_field0 rfl (ev_t rfl) fld_64_2) ?_ | refine WN.calm _ rfl rfl rfl rfl rfl (fun _ => r_fieldAt rfl (ev_t rfl) fld_64_2) ?_
        refine WN.step _ rfl (SO.store rfl (ev_t rfl) ev_c size_4 hrow (blt_of (by rw [trkC_size, List.length_set]; omega)) rfl rfl rfl rfl ?_)
        intro w6 hu6 hrow hzs2
        replace hnew := hnew.upd hu6 (fun k hk _ e => by simp only [At, New] at hk e; have := h.row.lt; omega)
        have hs6 := hu6.size
        try replace hS7 := Upd.transA hS7 hu6
        replace hU := hU.trans hu6 (by first | exact (fun _ _ h => h) | exact (fun _ _ h => h.elim) | (intro k hl hk; (try simp only [At, New, Grow, From, No] at hk ⊢); omega) | (intro k hl hk; first | exact .inl hk | exact .inr (.inl hk) | exact .inr (.inr (.inr hk))))
        replace hb := hb.upd hu6 (by first | exact (fun h => h) | exact (fun h => (hfp _ (.inr h)).2.1 rfl) | exact hpg)
        replace hsure := hsure.upd hu6 (by first | exact (fun _ _ _ h => h) | exact (fun k hk _ e => (hfp k (.inl hk)).2.1 e) | exact (fun k hk _ e => (hfp k (.inl hk)).2.2.1 e) | exact (fun k hk _ e => h2 k hk e))
        replace hr := hr.upd hu6 (by first | exact (fun _ _ _ h => h) | (intro k hk hl e; exact hG k hk.1 hk.2 (by first | exact (e ▸ h.own.1) | exact (e ▸ h.own.2) | exact (hfp k (.inr e)).1)))
        replace hrow := (row_set (t := ⟨sv, v, fr, FS, FN⟩) (by rw [List.getElem?_set_self (by omega)])).2.2 _ (by omega) hrow
        rw [List.set_set] at hrow
        refine ⟨trivial, ?_⟩
        refine WN.done ?_
        refine WX.keep [(8, _)] ⟨rfl, trivial⟩ ?_
        have e1 : D.write i q = (D.begin.setT i.toNat { D.track i.toNat with now := q, fresh := true }, D.begin.code) := by unfold DS.write; rw [if_neg (by omega), if_neg (by omega)]
        have hfin : IsD w6 (Grow F w w6) p (D.write i q).1 := by
          rw [e1]
          dsimp only
          refine ⟨g, _, h.put (a' := { D.track i.toNat with now := q, fresh := true }) (t' := ⟨sv, v, true, FS, New w3 w4⟩) ht hU hb (by rw [trkC_fp]; exact hrow) ⟨hsure, by simp only; rw [hq]; exact hnew, rfl⟩ rfl (h.wf.begin.setT hws ?_) (fun k hk => ?_) (fun k hk hk' => ?_)⟩
          · show (q.length : Int) ≤ D.most
            omega
          · rcases hk with hk | hk
            · exact ⟨.inl hk, by have := (hfp k (.inl hk)).2.2.2; omega⟩
            · simp only [New] at hk; exact ⟨.inr (.inr (by omega)), by omega⟩
          · have := (hfp k (.inl hk)).2.2.2
            simp only [New] at hk'
            omega
        refine WX.next ?_
        refine WC.seq ?_
        refine WC.seq ?_
        refine WC.region ?_
        refine WL.val rfl rfl rfl rfl (r_move rfl (ev_t rfl)) ?_
        refine WL.val rfl rfl rfl rfl (r_not rfl (ev_t rfl)) ?_
        refine WL.nil ?_
        refine WX.keep [(41, _)] ⟨rfl, trivial⟩ ?_
        refine WX.next ?_
        refine WC.cond rfl (ev_t rfl) (fun hc8 => ?_) (fun hc8 => ?_)
        · try (exfalso; first | (simp at hc8; done) | (simp only [decide_eq_true_eq, decide_eq_false_iff_not, Bool.not_eq_true', Bool.not_eq_false', Bool.not_eq_true, Bool.not_eq_false] at hc8; omega) | omega)
          all_goals
           try simp only [decide_eq_true_eq, decide_eq_false_iff_not, Bool.not_eq_true', Bool.not_eq_false', Bool.not_eq_true, Bool.not_eq_false, Option.isNone_none, Option.isNone_some, Option.isSome_none, Option.isSome_some, ne_eq, Decidable.not_not] at hc8
           refine WC.seq ?_
           refine WC.region ?_
           refine WL.val rfl rfl rfl rfl (r_assign rfl ev_c) ?_
           refine WL.nil ?_
           refine WX.keep [(6, _)] ⟨rfl, trivial⟩ ?_
           refine WX.next ?_
           refine WC.ret ?_
           refine WX.thenRet ?_
           refine WX.retE1 rfl rfl ?_
           exact ⟨by rw [e1]; simp [DS.code, hc8], hfin, hU.mono hSF⟩
        · try (exfalso; first | (simp at hc8; done) | (simp only [decide_eq_true_eq, decide_eq_false_iff_not, Bool.not_eq_true', Bool.not_eq_false', Bool.not_eq_true, Bool.not_eq_false] at hc8; omega) | omega)
          all_goals
           try simp only [decide_eq_true_eq, decide_eq_false_iff_not, Bool.not_eq_true', Bool.not_eq_false', Bool.not_eq_true, Bool.not_eq_false, Option.isNone_none, Option.isNone_some, Option.isSome_none, Option.isSome_some, ne_eq, Decidable.not_not] at hc8
           refine WC.skip ?_
           refine WX.next ?_
           refine WC.seq ?_
           refine WC.region ?_
           refine WL.val rfl rfl rfl rfl (r_assign rfl ev_c) ?_
           refine WL.nil ?_
           refine WX.keep [(6, _)] ⟨rfl, trivial⟩ ?_
           refine WX.next ?_
           refine WC.ret ?_
           refine WX.retE1 rfl rfl ?_
           exact ⟨by rw [e1]; simp [DS.code, hc8], hfin, hU.mono hSF⟩

theorem Sync_bad {w : World} {F : Nat → Prop} {p : Nat} {D : DS} {i : Int} (h : IsD w F p D) (hi : D.look i ≠ 0) : Ret Try.prog 12 #[.pointer (some ⟨p, 0, none⟩), .int .i64 i] w fun v' w' => v' = .int .i64 (D.look i : Int) ∧ w = w' := by
  obtain ⟨g, l, h⟩ := h
  have hb := h.hd
  refine enterRet (vs := [_, _]) (N := 33) Try.func12 rfl rfl rfl ?_
  refine WC.keep [(0, _), (1, _)] ⟨rfl, rfl, trivial⟩ ?_
  refine WC.seq ?_
  refine WC.region ?_
  refine WL.val rfl rfl rfl rfl (r_assign rfl ev_c) ?_
  refine WL.nil ?_
  refine WX.keep [(0, _), (1, _)] ⟨rfl, rfl, trivial⟩ ?_
  refine WX.next ?_
  refine WC.seq ?_
  refine WC.seq ?_
  refine WC.region ?_
  refine WL.val rfl rfl rfl rfl (r_move rfl (ev_t rfl)) ?_
  refine WL.val rfl rfl rfl rfl (r_move rfl (ev_t rfl)) ?_
  refine WL.cons (SO.call (look_ok hb) rfl body_22 ⟨(ev_t rfl), (ev_t rfl), trivial⟩ rfl rfl rfl rfl ?_)
  rintro v w' ⟨rfl, rfl⟩
  refine WL.val rfl rfl rfl rfl (r_assign rfl (ev_t rfl)) ?_
  refine WL.nil ?_
  refine WX.keep [(0, _), (1, _), (5, _)] ⟨rfl, rfl, rfl, trivial⟩ ?_
  refine WX.next ?_
  refine WC.seq ?_
  refine WC.region ?_
  refine WL.val rfl rfl rfl rfl (r_move rfl (ev_t rfl)) ?_
  refine WL.val rfl rfl rfl rfl (r_neq rfl (ev_t rfl) ev_c) ?_
  refine WL.nil ?_
  refine WX.keep [(0, _), (1, _), (5, _), (11, _)] ⟨rfl, rfl, rfl, rfl, trivial⟩ ?_
  refine WX.next ?_
  refine WC.cond rfl (ev_t rfl) (fun hc2 => ?_) (fun hc2 => ?_)
  · try (exfalso; first | (simp at hc2; done) | (simp only [decide_eq_true_eq, decide_eq_false_iff_not, Bool.not_eq_true', Bool.not_eq_false', Bool.not_eq_true, Bool.not_eq_false] at hc2; omega) | omega)
    all_goals
     try simp only [decide_eq_true_eq, decide_eq_false_iff_not, Bool.not_eq_true', Bool.not_eq_false', Bool.not_eq_true, Bool.not_eq_false, Option.isNone_none, Option.isNone_some, Option.isSome_none, Option.isSome_some, ne_eq, Decidable.not_not] at hc2
     refine WC.seq ?_
     refine WC.region ?_
     refine WL.val rfl rfl rfl rfl (r_move rfl (ev_t rfl)) ?_
     refine WL.val rfl rfl rfl rfl (r_assign rfl (ev_t rfl)) ?_
     refine WL.nil ?_
     refine WX.keep [(4, _)] ⟨rfl, trivial⟩ ?_
     refine WX.next ?_
     refine WC.ret ?_
     refine WX.thenRet ?_
     refine WX.retE1 rfl rfl ?_
     exact ⟨rfl, rfl⟩
  · try simp only [decide_eq_true_eq, decide_eq_false_iff_not, Bool.not_eq_true', Bool.not_eq_false', Bool.not_eq_true, Bool.not_eq_false, Option.isNone_none, Option.isNone_some, Option.isSome_none, Option.isSome_some, ne_eq, Decidable.not_not] at hc2
    exfalso
    exact hi (by simp only [DS.look]; omega)
theorem Sync_nil {w : World} {i : Int} : Ret Try.prog 12 #[.pointer none, .int .i64 i] w fun v' w' => v' = .int .i64 6 ∧ w = w' := by
  refine enterRet (vs := [_, _]) (N := 33) Try.func12 rfl rfl rfl ?_
  refine WC.keep [(0, _), (1, _)] ⟨rfl, rfl, trivial⟩ ?_
  refine WC.seq ?_
  refine WC.region ?_
  refine WL.val rfl rfl rfl rfl (r_assign rfl ev_c) ?_
  refine WL.nil ?_
  refine WX.keep [(0, _), (1, _)] ⟨rfl, rfl, trivial⟩ ?_
  refine WX.next ?_
  refine WC.seq ?_
  refine WC.seq ?_
  refine WC.region ?_
  refine WL.val rfl rfl rfl rfl (r_move rfl (ev_t rfl)) ?_
  refine WL.val rfl rfl rfl rfl (r_move rfl (ev_t rfl)) ?_
  refine WL.cons (SO.call (look_nil) rfl body_22 ⟨(ev_t rfl), (ev_t rfl), trivial⟩ rfl rfl rfl rfl ?_)
  rintro v w' ⟨rfl, rfl⟩
  refine WL.val rfl rfl rfl rfl (r_assign rfl (ev_t rfl)) ?_
  refine WL.nil ?_
  refine WX.keep [(0, _), (1, _), (5, _)] ⟨rfl, rfl, rfl, trivial⟩ ?_
  refine WX.next ?_
  refine WC.seq ?_
  refine WC.region ?_
  refine WL.val rfl rfl rfl rfl (r_move rfl (ev_t rfl)) ?_
  refine WL.val rfl rfl rfl rfl (r_neq rfl (ev_t rfl) ev_c) ?_
  refine WL.nil ?_
  refine WX.keep [(0, _), (1, _), (5, _), (11, _)] ⟨rfl, rfl, rfl, rfl, trivial⟩ ?_
  refine WX.next ?_
  refine WC.cond rfl (ev_t rfl) (fun hc2 => ?_) (fun hc2 => ?_)
  · try (exfalso; first | (simp at hc2; done) | (simp only [decide_eq_true_eq, decide_eq_false_iff_not, Bool.not_eq_true', Bool.not_eq_false', Bool.not_eq_true, Bool.not_eq_false] at hc2; omega) | omega)
    all_goals
     try simp only [decide_eq_true_eq, decide_eq_false_iff_not, Bool.not_eq_true', Bool.not_eq_false', Bool.not_eq_true, Bool.not_eq_false, Option.isNone_none, Option.isNone_some, Option.isSome_none, Option.isSome_some, ne_eq, Decidable.not_not] at hc2
     refine WC.seq ?_
     refine WC.region ?_
     refine WL.val rfl rfl rfl rfl (r_move rfl (ev_t rfl)) ?_
     refine WL.val rfl rfl rfl rfl (r_assign rfl (ev_t rfl)) ?_
     refine WL.nil ?_
     refine WX.keep [(4, _)] ⟨rfl, trivial⟩ ?_
     refine WX.next ?_
     refine WC.ret ?_
     refine WX.thenRet ?_
     refine WX.retE1 rfl rfl ?_
     exact ⟨rfl, rfl⟩
  · try simp only [decide_eq_true_eq, decide_eq_false_iff_not, Bool.not_eq_true', Bool.not_eq_false', Bool.not_eq_true, Bool.not_eq_false, Option.isNone_none, Option.isNone_some, Option.isSome_none, Option.isSome_some, ne_eq, Decidable.not_not] at hc2
    exfalso
    omega
theorem Sync_good {w : World} {F : Nat → Prop} {p : Nat} {D : DS} {i : Int} (h : IsD w F p D) (hi : D.look i = 0) :
    Ret Try.prog 12 #[.pointer (some ⟨p, 0, none⟩), .int .i64 i] w fun v' w' => v' = .int .i64 ((D.sync i).2 : Int) ∧ IsD w' (Grow F w w') p (D.sync i).1 ∧ Upd F w w' := by
  obtain ⟨g, l, h⟩ := h
  obtain ⟨t, ht, hok, hil⟩ := h.at hi
  have hb := h.hd
  have hrow := h.row
  have hi' := lookN_ok hi
  have hl := h.len
  have hwn := (h.wf.trk _ (DS.track_mem hil)).2
  have hm := h.wf.most
  have hpg := h.ne
  have hfp := h.fp _ _ ht
  have h2 := h.two _ _ ht
  obtain ⟨sv, nv, fr, FS, FN⟩ := t
  obtain ⟨hsure, hnow, hfr⟩ := hok
  dsimp only at hsure hnow hfr hfp h2
  have hSF : ∀ k, k < w.heap.size → trkS p g ⟨sv, nv, fr, FS, FN⟩ k → F k := fun k _ hk => by
    rcases hk with rfl | rfl | hk
    · exact h.own.1
    · exact h.own.2
    · exact (hfp k hk).1
  refine enterRet (vs := [_, _]) (N := 33) Try.func12 rfl rfl rfl ?_
  have hU := Upd.refl (trkS p g ⟨sv, nv, fr, FS, FN⟩) w
  refine WC.keep [(0, _), (1, _)] ⟨rfl, rfl, trivial⟩ ?_
  refine WC.seq ?_
  refine WC.region ?_
  refine WL.val rfl rfl rfl rfl (r_assign rfl ev_c) ?_
  refine WL.nil ?_
  refine WX.keep [(0, _), (1, _)] ⟨rfl, rfl, trivial⟩ ?_
  refine WX.next ?_
  refine WC.seq ?_
  refine WC.seq ?_
  refine WC.region ?_
  refine WL.val rfl rfl rfl rfl (r_move rfl (ev_t rfl)) ?_
  refine WL.val rfl rfl rfl rfl (r_move rfl (ev_t rfl)) ?_
  refine WL.cons (SO.call (look_ok hb) rfl body_22 ⟨(ev_t rfl), (ev_t rfl), trivial⟩ rfl rfl rfl rfl ?_)
  rintro v w' ⟨rfl, rfl⟩
  refine WL.val rfl rfl rfl rfl (r_assign rfl (ev_t rfl)) ?_
  refine WL.nil ?_
  refine WX.keep [(0, _), (1, _), (5, _)] ⟨rfl, rfl, rfl, trivial⟩ ?_
  refine WX.next ?_
  refine WC.seq ?_
  refine WC.region ?_
  refine WL.val rfl rfl rfl rfl (r_move rfl (ev_t rfl)) ?_
  refine WL.val rfl rfl rfl rfl (r_neq rfl (ev_t rfl) ev_c) ?_
  refine WL.nil ?_
  refine WX.keep [(0, _), (1, _), (5, _), (11, _)] ⟨rfl, rfl, rfl, rfl, trivial⟩ ?_
  refine WX.next ?_
  refine WC.cond rfl (ev_t rfl) (fun hc2 => ?_) (fun hc2 => ?_)
  · try simp only [decide_eq_true_eq, decide_eq_false_iff_not, Bool.not_eq_true', Bool.not_eq_false', Bool.not_eq_true, Bool.not_eq_false, Option.isNone_none, Option.isNone_some, Option.isSome_none, Option.isSome_some, ne_eq, Decidable.not_not] at hc2
    exfalso
    exact hc2 (by simp only [DS.look] at hi; omega)
  · try (exfalso; first | (simp at hc2; done) | (simp only [decide_eq_true_eq, decide_eq_false_iff_not, Bool.not_eq_true', Bool.not_eq_false', Bool.not_eq_true, Bool.not_eq_false] at hc2; omega) | omega)
    all_goals
     try simp only [decide_eq_true_eq, decide_eq_false_iff_not, Bool.not_eq_true', Bool.not_eq_false', Bool.not_eq_true, Bool.not_eq_false, Option.isNone_none, Option.isNone_some, Option.isSome_none, Option.isSome_some, ne_eq, Decidable.not_not] at hc2
     refine WC.skip ?_
     refine WX.next ?_
     refine WC.seq ?_
     refine WC.seq ?_
     refine WC.region ?_
     refine WL.val rfl rfl rfl rfl (r_move rfl (ev_t rfl)) ?_
     refine WL.cons (SO.call (begin_ok hb h.wf.armed) rfl body_23 ⟨(ev_t rfl), trivial⟩ rfl rfl rfl rfl ?_)
     rintro v w2 ⟨rfl, hb, hu2⟩
     have hs2 := hu2.size
     replace hU := hU.trans hu2 (by first | exact (fun _ _ h => h) | exact (fun _ _ h => h.elim) | (intro k hl hk; (try simp only [At, New, Grow, From, No] at hk ⊢); omega) | (intro k hl hk; first | exact .inl hk | exact .inr (.inl hk) | exact .inr (.inr (.inr hk))))
     replace hrow := hrow.upd hu2 (by first | exact (fun h => h) | exact (fun e => hpg e.symm) | exact (fun h => (hfp _ (.inr h)).2.2.1 rfl))
     replace hnow := hnow.upd hu2 (by first | exact (fun _ _ _ h => h) | exact (fun k hk _ e => (hfp k (.inr hk)).2.1 e) | exact (fun k hk _ e => (hfp k (.inr hk)).2.2.1 e))
     refine WL.val rfl rfl rfl rfl (r_not rfl (ev_t rfl)) ?_
     refine WL.nil ?_
     refine WX.keep [(0, _), (1, _), (15, _)] ⟨rfl, rfl, rfl, trivial⟩ ?_
     refine WX.next ?_
     refine WC.cond rfl (ev_t rfl) (fun hc4 => ?_) (fun hc4 => ?_)
     · try (exfalso; first | (simp at hc4; done) | (simp only [decide_eq_true_eq, decide_eq_false_iff_not, Bool.not_eq_true', Bool.not_eq_false', Bool.not_eq_true, Bool.not_eq_false] at hc4; omega) | omega)
       all_goals
        try simp only [decide_eq_true_eq, decide_eq_false_iff_not, Bool.not_eq_true', Bool.not_eq_false', Bool.not_eq_true, Bool.not_eq_false, Option.isNone_none, Option.isNone_some, Option.isSome_none, Option.isSome_some, ne_eq, Decidable.not_not] at hc4
        refine WC.seq ?_
        refine WC.region ?_
        refine WL.val rfl rfl rfl rfl (r_assign rfl ev_c) ?_
        refine WL.nil ?_
        refine WX.keep [(4, _)] ⟨rfl, trivial⟩ ?_
        refine WX.next ?_
        refine WC.ret ?_
        refine WX.thenRet ?_
        refine WX.retE1 rfl rfl ?_
        have e1 : D.sync i = (D.begin, 12) := by unfold DS.sync; rw [if_neg (by omega), if_pos hc4]
        rw [e1]
        exact ⟨rfl, ⟨g, l, (h.head hu2 hb rfl h.wf.begin).mono (fun k hk _ => .inl hk)⟩, hU.mono hSF⟩
     · try (exfalso; first | (simp at hc4; done) | (simp only [decide_eq_true_eq, decide_eq_false_iff_not, Bool.not_eq_true', Bool.not_eq_false', Bool.not_eq_true, Bool.not_eq_false] at hc4; omega) | omega)
       all_goals
        try simp only [decide_eq_true_eq, decide_eq_false_iff_not, Bool.not_eq_true', Bool.not_eq_false', Bool.not_eq_true, Bool.not_eq_false, Option.isNone_none, Option.isNone_some, Option.isSome_none, Option.isSome_some, ne_eq, Decidable.not_not] at hc4
        refine WC.skip ?_
        refine WX.next ?_
        refine WC.seq ?_
        refine WC.region ?_
        refine WL.val rfl rfl rfl rfl (r_move rfl (ev_t rfl)) ?_
        refine WL.val rfl rfl rfl rfl (r_nilCheck rfl (ev_t rfl)) ?_
        first | refine WL.val rfl rfl rfl rfl (r_field0 rfl (ev_t rfl) fld_62_0) ?_ | refine WL.val rfl rfl rfl rfl (r_fieldAt rfl (ev_t rfl) fld_62_0) ?_
        refine WL.val rfl rfl rfl rfl (r_load rfl (ev_t rfl) flat_60 (Blk.cell hb rfl)) ?_
        refine WL.val rfl rfl rfl rfl (r_move rfl (ev_t rfl)) ?_
        refine WL.val rfl rfl rfl rfl (r_indexAddr rfl (ev_t rfl) (ev_t rfl) elem_60 size_64 (by omega) (by omega)) ?_
        refine WL.val rfl rfl rfl rfl (r_assign rfl (ev_t rfl)) ?_
        refine WL.nil ?_
        refine WX.keep [(6, _)] ⟨rfl, trivial⟩ ?_
        refine WX.next ?_
        refine WC.seq ?_
        refine WC.region ?_
        refine WL.val rfl rfl rfl rfl (r_move rfl (ev_t rfl)) ?_
        refine WL.val rfl rfl rfl rfl (r_move rfl (ev_t rfl)) ?_
        refine WL.val rfl rfl rfl rfl (r_move rfl (ev_t rfl)) ?_
        refine WL.val rfl rfl rfl rfl (r_nilCheck rfl (ev_t rfl)) ?_
        first | refine WL.val rfl rfl rfl rfl (r_field0 rfl (ev_t rfl) fld_64_1) ?_ | refine WL.val rfl rfl rfl rfl (r_fieldAt rfl (ev_t rfl) fld_64_1) ?_
        refine WL.val rfl rfl rfl rfl (r_load rfl (ev_t rfl) flat_22 ((row_get hrow ht).2.1 (by omega))) ?_
        refine WL.cons (SO.call (clone_ok (hnow.rd (by omega))) rfl body_18 ⟨(ev_t rfl), trivial⟩ rfl rfl rfl rfl ?_)
        rintro v w3 ⟨hnew, hu3⟩
        have hs3 := hu3.size
        replace hU := hU.trans hu3 (by first | exact (fun _ _ h => h) | exact (fun _ _ h => h.elim) | (intro k hl hk; (try simp only [At, New, Grow, From, No] at hk ⊢); omega) | (intro k hl hk; first | exact .inl hk | exact .inr (.inl hk) | exact .inr (.inr (.inr hk))))
        replace hb := hb.upd hu3 (by first | exact (fun h => h) | exact (fun h => (hfp _ (.inr h)).2.1 rfl) | exact hpg)
        replace hrow := hrow.upd hu3 (by first | exact (fun h => h) | exact (fun e => hpg e.symm) | exact (fun h => (hfp _ (.inr h)).2.2.1 rfl))
        replace hnow := hnow.upd hu3 (by first | exact (fun _ _ _ h => h) | exact (fun k hk _ e => (hfp k (.inr hk)).2.1 e) | exact (fun k hk _ e => (hfp k (.inr hk)).2.2.1 e))
        refine WL.val rfl rfl rfl rfl (r_nilCheck rfl (ev_t rfl)) ?_
        first | refine WL.val rfl rfl rfl rfl (r_field0 rfl (ev_t rfl) fld_64_0) ?_ | refine WL.val rfl rfl rfl rfl (r_fieldAt rfl (ev_t rfl) fld_64_0) ?_
        refine WL.cons (SO.store rfl (ev_t rfl) (ev_t rfl) size_22 hrow (blt_of (by rw [trkC_size]; omega)) hnew.one rfl rfl rfl ?_)
        intro w4 hu4 hrow hzs
        replace hnew := hnew.upd hu4 (fun k hk _ e => by simp only [At, New] at hk e; have := h.row.lt; omega)
        have hs4 := hu4.size
        replace hU := hU.trans hu4 (by first | exact (fun _ _ h => h) | exact (fun _ _ h => h.elim) | (intro k hl hk; (try simp only [At, New, Grow, From, No] at hk ⊢); omega) | (intro k hl hk; first | exact .inl hk | exact .inr (.inl hk) | exact .inr (.inr (.inr hk))))
        replace hb := hb.upd hu4 (by first | exact (fun h => h) | exact (fun h => (hfp _ (.inr h)).2.1 rfl) | exact hpg)
        replace hnow := hnow.upd hu4 (by first | exact (fun _ _ _ h => h) | exact (fun k hk _ e => (hfp k (.inr hk)).2.1 e) | exact (fun k hk _ e => (hfp k (.inr hk)).2.2.1 e))
        replace hrow := (row_set ht).1 _ (by omega) hrow
        refine WL.val rfl rfl rfl rfl (r_nilCheck rfl (ev_t rfl)) ?_
        first | refine WL.val rfl rfl rfl rfl (r_field0 rfl (ev_t rfl) fld_64_2) ?_ | refine WL.val rfl rfl rfl rfl (r_fieldAt rfl (ev_t rfl) fld_64_2) ?_
        refine WL.cons (SO.store rfl (ev_t rfl) ev_c size_4 hrow (blt_of (by rw [trkC_size, List.length_set]; omega)) rfl rfl rfl rfl ?_)
        intro w5 hu5 hrow hzs2
        replace hnew := hnew.upd hu5 (fun k hk _ e => by simp only [At, New] at hk e; have := h.row.lt; omega)
        have hs5 := hu5.size
        replace hU := hU.trans hu5 (by first | exact (fun _ _ h => h) | exact (fun _ _ h => h.elim) | (intro k hl hk; (try simp only [At, New, Grow, From, No] at hk ⊢); omega) | (intro k hl hk; first | exact .inl hk | exact .inr (.inl hk) | exact .inr (.inr (.inr hk))))
        replace hb := hb.upd hu5 (by first | exact (fun h => h) | exact (fun h => (hfp _ (.inr h)).2.1 rfl) | exact hpg)
        replace hnow := hnow.upd hu5 (by first | exact (fun _ _ _ h => h) | exact (fun k hk _ e => (hfp k (.inr hk)).2.1 e) | exact (fun k hk _ e => (hfp k (.inr hk)).2.2.1 e))
        replace hrow := (row_set (t := ⟨v, nv, fr, FS, FN⟩) (by rw [List.getElem?_set_self (by omega)])).2.2 _ (by omega) hrow
        rw [List.set_set] at hrow
        refine WL.nil ?_
        refine WX.keep [] trivial ?_
        refine WX.next ?_
        refine WC.seq ?_
        refine WC.region ?_
        refine WL.val rfl rfl rfl rfl (r_assign rfl ev_c) ?_
        refine WL.nil ?_
        refine WX.keep [(4, _)] ⟨rfl, trivial⟩ ?_
        refine WX.next ?_
        refine WC.ret ?_
        refine WX.retE1 rfl rfl ?_
        have e1 : D.sync i = (D.begin.setT i.toNat { sure := (D.track i.toNat).now, now := (D.track i.toNat).now, fresh := false }, 0) := by unfold DS.sync; rw [if_neg (by omega), if_neg (by rw [hc4]; simp)]
        rw [e1]
        dsimp only
        refine ⟨rfl, ⟨g, _, h.put (a' := { sure := (D.track i.toNat).now, now := (D.track i.toNat).now, fresh := false }) (t' := ⟨v, nv, false, New w2 w3, FN⟩) ht hU hb (by rw [trkC_fp]; exact hrow) ⟨hnew, hnow, rfl⟩ rfl (h.wf.begin.setT hwn hwn) (fun k hk => ?_) (fun k hk hk' => ?_)⟩, hU.mono hSF⟩
        · rcases hk with hk | hk
          · simp only [New] at hk; exact ⟨.inr (.inr (by omega)), by omega⟩
          · exact ⟨.inr (.inl hk), by have := (hfp k (.inr hk)).2.2.2; omega⟩
        · have := (hfp k (.inr hk')).2.2.2
          simp only [New] at hk
          omega
end Go.Proofs.Ytnjfhmlfpfkllaa

/-
  The drum's methods: Restart.
-/
namespace Go.Proofs.Ytnjfhmlfpfkllaa
open Go
set_option linter.unusedSimpArgs false
set_option linter.unusedVariables false

def I64v (n : Int) : Value := .int .i64 n
def partL (l : List Trk) (cuts : List Int) (i : Nat) : List Trk := l.zipIdx.map fun x => if x.2 < i then fallT x.1 (cuts.getD x.2 (-1)) else x.1
theorem partL_get (l : List Trk) (cuts : List Int) (i j : Nat) : (partL l cuts i)[j]? = (l[j]?).map fun t => if j < i then fallT t (cuts.getD j (-1)) else t := by
  simp only [partL, List.getElem?_map, List.getElem?_zipIdx, Option.map_map, Function.comp_def, Nat.zero_add]
theorem partL_zero (l : List Trk) (cuts : List Int) : partL l cuts 0 = l := by
  apply List.ext_getElem?
  intro j
  rw [partL_get]
  simp
theorem partL_all (l : List Trk) (cuts : List Int) : partL l cuts l.length = fallL l cuts := by
  apply List.ext_getElem?
  intro j
  rw [partL_get]
  simp only [fallL, List.getElem?_map, List.getElem?_zipIdx, Option.map_map, Function.comp_def, Nat.zero_add]
  rcases Nat.lt_or_ge j l.length with h | h
  · simp [h]
  · simp [List.getElem?_eq_none h]
theorem partL_length (l : List Trk) (cuts : List Int) (i : Nat) : (partL l cuts i).length = l.length := by simp [partL]
theorem partL_step {l : List Trk} {cuts : List Int} {i : Nat} {t : Trk} (h : l[i]? = some t) : (partL l cuts i).set i (fallT t (cuts.getD i (-1))) = partL l cuts (i + 1) := by
  have hi : i < l.length := (List.getElem?_eq_some_iff.1 h).1
  apply List.ext_getElem?
  intro j
  rw [List.getElem?_set, partL_get, partL_get]
  split
  · rename_i e
    subst e
    rw [if_pos (by rw [partL_length]; exact hi), h]
    simp
  · rename_i hne
    cases l[j]? with
    | none => rfl
    | some u =>
      simp only [Option.map_some, Option.some.injEq]
      by_cases hj : j < i
      · rw [if_pos hj, if_pos (by omega)]
      · rw [if_neg hj, if_neg (by omega)]
theorem partL_mem {l : List Trk} {cuts : List Int} {i : Nat} {u : Trk} (h : u ∈ partL l cuts i) : ∃ x ∈ l, u = x ∨ ∃ c, u = fallT x c := by
  simp only [partL, List.mem_map] at h
  obtain ⟨⟨x, j⟩, hx, rfl⟩ := h
  have hm := (List.mem_zipIdx hx).2.2
  refine ⟨x, by rw [hm]; exact List.getElem_mem _, ?_⟩
  simp only
  split
  · exact .inr ⟨_, rfl⟩
  · exact .inl rfl
theorem take_same {q : List UInt8} {a b : Nat} (h : min a q.length = min b q.length) : q.take a = q.take b := by
  rw [List.take_eq_take_iff]
  exact h
theorem set_same {l : List TrkV} {i : Nat} {t : TrkV} (h : l[i]? = some t) : l.set i t = l := by
  obtain ⟨hi, he⟩ := List.getElem?_eq_some_iff.1 h
  rw [← he]
  exact List.set_getElem_self hi

end Go.Proofs.Ytnjfhmlfpfkllaa

/-
  A drum whose power is never cut: what stands on its tracks.
-/
namespace Go.Proofs.Ytnjfhmlfpfkllaa
open Go
set_option linter.unusedSimpArgs false
set_option linter.unusedVariables false

structure QD (D : DS) (n most : Nat) (T : Nat → List UInt8) : Prop where
  armed : D.armed = 0
  off : D.off = false
  len : D.l.length = n
  most : D.most = (most : Int)
  now : ∀ i, i < n → (D.track i).now = T i
def putA (T : Nat → List UInt8) (i : Nat) (q : List UInt8) : Nat → List UInt8 := fun j => if j = i then q else T j
theorem putA_same (T : Nat → List UInt8) (i : Nat) (q : List UInt8) : putA T i q i = q := by simp [putA]
theorem putA_ne {T : Nat → List UInt8} {i j : Nat} {q : List UInt8} (h : j ≠ i) : putA T i q j = T j := by simp [putA, h]

theorem QD.new (n most : Nat) : QD (DS.new n most) n most (fun _ => []) := by
  refine ⟨rfl, rfl, by simp [DS.new], rfl, fun i hi => ?_⟩
  simp only [DS.track, DS.new, List.getD_eq_getElem?_getD, List.getElem?_replicate]
  split <;> rfl
theorem QD.look {D : DS} {n most : Nat} {T : Nat → List UInt8} (h : QD D n most T) {i : Nat} (hi : i < n) : D.look (i : Int) = 0 := by
  simp only [DS.look, lookN, h.len, h.off]
  rw [if_neg (by omega), if_neg (by simp)]
theorem QD.begin_off {D : DS} {n most : Nat} {T : Nat → List UInt8} (h : QD D n most T) : D.begin.off = false := by
  simp only [DS.begin, armB, h.armed, h.off]
  rfl
theorem QD.begin {D : DS} {n most : Nat} {T : Nat → List UInt8} (h : QD D n most T) : QD D.begin n most T := by
  refine ⟨by simp only [DS.begin, armB, h.armed]; rfl, h.begin_off, h.len, h.most, fun i hi => h.now i hi⟩
theorem QD.set {D : DS} {n most : Nat} {T : Nat → List UInt8} (h : QD D n most T) {i : Nat} (hi : i < n) (t : Trk) : QD (D.setT i t) n most (putA T i t.now) := by
  refine ⟨h.armed, h.off, by simp only [DS.setT, List.length_set]; exact h.len, h.most, fun j hj => ?_⟩
  have hl := h.len
  have hn := h.now j hj
  simp only [DS.setT, DS.track, List.getD_eq_getElem?_getD, List.getElem?_set] at hn ⊢
  by_cases hij : i = j
  · subst hij
    rw [if_pos rfl, if_pos (by omega)]
    simp [putA]
  · rw [if_neg hij, putA_ne (fun e => hij e.symm)]
    exact hn
theorem QD.write {D : DS} {n most : Nat} {T : Nat → List UInt8} (h : QD D n most T) {i : Nat} (hi : i < n) {q : List UInt8} (hq : q.length ≤ most) : (D.write (i : Int) q).2 = 0 ∧ QD (D.write (i : Int) q).1 n most (putA T i q) := by
  have hm := h.most
  have e : D.write (i : Int) q = (D.begin.setT i { D.track i with now := q, fresh := true }, D.begin.code) := by
    unfold DS.write
    rw [if_neg (by rw [h.look hi]; simp), if_neg (by omega)]
    rfl
  rw [e]
  refine ⟨by simp only [DS.code, h.begin_off]; rfl, h.begin.set hi _⟩
theorem QD.append {D : DS} {n most : Nat} {T : Nat → List UInt8} (h : QD D n most T) {i : Nat} (hi : i < n) {q : List UInt8} (hq : (T i).length + q.length ≤ most) : (D.append (i : Int) q).2 = 0 ∧ QD (D.append (i : Int) q).1 n most (putA T i (T i ++ q)) := by
  have hm := h.most
  have hn := h.now i hi
  have e : D.append (i : Int) q = (D.begin.setT i { D.track i with now := (D.track i).now ++ q }, D.begin.code) := by
    unfold DS.append
    rw [if_neg (by rw [h.look hi]; simp), if_neg (by rw [show ((i : Int)).toNat = i by omega, hn]; omega)]
    rfl
  rw [e]
  refine ⟨by simp only [DS.code, h.begin_off]; rfl, ?_⟩
  have h2 := h.begin.set hi { D.track i with now := (D.track i).now ++ q }
  rw [hn] at h2
  rw [hn]
  exact h2
theorem QD.ext {D : DS} {n most : Nat} {T T' : Nat → List UInt8} (h : QD D n most T) (he : ∀ i, i < n → T i = T' i) : QD D n most T' := ⟨h.armed, h.off, h.len, h.most, fun i hi => (h.now i hi).trans (he i hi)⟩
theorem QD.sync {D : DS} {n most : Nat} {T : Nat → List UInt8} (h : QD D n most T) {i : Nat} (hi : i < n) : (D.sync (i : Int)).2 = 0 ∧ QD (D.sync (i : Int)).1 n most T := by
  have hn := h.now i hi
  have e : D.sync (i : Int) = (D.begin.setT i { sure := (D.track i).now, now := (D.track i).now, fresh := false }, 0) := by
    unfold DS.sync
    rw [if_neg (by rw [h.look hi]; simp), if_neg (by rw [h.begin_off]; simp)]
    rfl
  rw [e]
  refine ⟨rfl, (h.begin.set hi _).ext fun j hj => ?_⟩
  by_cases hij : j = i
  · subst hij
    rw [putA_same]
    exact hn
  · rw [putA_ne hij]
end Go.Proofs.Ytnjfhmlfpfkllaa

/-
  wal: an empty state as records; laid on the other track.
-/
namespace Go.Proofs.Ytnjfhmlfpfkllaa
open Go
set_option linter.unusedSimpArgs false
set_option linter.unusedVariables false

theorem recB_len {kind : Nat} {pl : List UInt8} {m : Nat} (hk : kind < 18446744073709551616) (h : pl.length ≤ m) (hm : m ≤ 1000000) : (recB kind pl).length ≤ m + 22 := by
  have h1 := encU_len9w hk
  have h2 := sealB_len (encU kind ++ pl)
  rw [List.length_append] at h2
  have h3 := encU_len9w (n := (sealB (encU kind ++ pl)).length) (by omega)
  simp only [recB, List.length_append]
  omega
theorem encZ_len {v : Int} (hv : inK .i64 v) : (encU (zig v)).length ≤ 9 := by
  simp only [inK] at hv
  rw [encU_length]
  have := blen_le (n := zig v) (k := 8) (by simpa using zig_lt hv.1 hv.2)
  omega
def recVo (t : Nat) (v : Int) : List UInt8 := recB 1 (encU t ++ encU (zig v))
theorem recVo_len {t : Nat} {v : Int} (ht : t < 18446744073709551616) (hv : inK .i64 v) : (recVo t v).length ≤ 40 := by
  have h1 := encU_len9w ht
  have h2 := encZ_len hv
  exact recB_len (m := 18) (by decide) (by rw [List.length_append]; omega) (by omega)
def allB (t : Nat) (v : Int) (b n : Nat) : List UInt8 := recVo t v ++ recB 3 (encU b) ++ recB 4 (encU n)
theorem allB_len {t b n : Nat} {v : Int} (ht : t < 18446744073709551616) (hv : inK .i64 v) (hb : b < 18446744073709551616) (hn : n < 18446744073709551616) : (allB t v b n).length ≤ 102 := by
  have h1 := recVo_len ht hv
  have h2 := recB_len (kind := 3) (m := 9) (by decide) (encU_len9w hb) (by omega)
  have h3 := recB_len (kind := 4) (m := 9) (by decide) (encU_len9w hn) (by omega)
  simp only [allB, List.length_append]
  omega

set_option maxHeartbeats 2000000 in
theorem all_ok {w : World} {t b n : Nat} {v : Int} (ht : t < 18446744073709551616) (hv : inK .i64 v) (hb : b < 18446744073709551616) (hn : n < 18446744073709551616) :
    Ret Try.prog 33 #[.agg (stC ⟨t, v, b, []⟩ (.slice none 0 0)), .int .u64 (n : Int)] w fun u w' => Own w' (New w w') 5 1 u (allB t v b n).length ((allB t v b n).map U8) ∧ Upd No w w' := by
  have l1 := recVo_len ht hv
  have l2 := recB_len (kind := 3) (m := 9) (by decide) (encU_len9w hb) (by omega)
  have l3 := recB_len (kind := 4) (m := 9) (by decide) (encU_len9w hn) (by omega)
  refine enterRet (vs := [_, _]) (N := 40) Try.func33 rfl rfl rfl ?_
  have hU := Upd.refl No w
  refine WC.keep [(0, _), (1, _)] ⟨rfl, rfl, trivial⟩ ?_
  refine WC.seq ?_
  refine WC.region ?_
  refine WL.cons (SO.alloc rfl rfl rfl rfl (r_boxAgg rfl (ev_t rfl)) ?_)
  intro w1 hu1 hB1 hz1
  have hs1 := hu1.size
  replace hU := hU.transA hu1
  refine WL.val rfl rfl rfl rfl (r_assign rfl ev_c) ?_
  refine WL.nil ?_
  refine WX.keep [(1, _), (2, _)] ⟨rfl, rfl, trivial⟩ ?_
  have h2 := hB1
  change Blk _ _ (stC ⟨t, v, b, []⟩ (.slice none 0 0)) _ at h2
  refine WX.next ?_
  refine WC.seq ?_
  refine WC.draws' (fun u0_ u1_ => Upd No u0_ u1_) (fun j => [0, 0, 0, 0, 1, 0, 0, 2, 2, 0].getD j 0) (.calm 0 (.calm 2 (.calm 5 (.held 1 (.held 3 (.held 6 (.one 4 (.one 7 (.one 8 (.calm 9 (.done))))))))))) mixed (by kernel_rfl) (by repeat (first | with_reducible exact Deaf.body | with_reducible apply Deaf.then | with_reducible apply Deaf.block)) ?_
  intro w2 hu2
  have hz2 := congrArg Array.size hu2.2.2.2
  replace hu2 := Upd.of_draw hu2
  have hs2 := hu2.size
  replace hU := hU.transA hu2
  replace h2 := h2.upd hu2 (by first | exact (fun h => h) | (simp only [New]; omega))
  have hS1 := Upd.refl No w2
  first | refine WN.calm _ rfl rfl rfl rfl rfl (fun _ => r_field0 rfl (ev_t rfl) fld_36_0) ?_ | refine WN.calm _ rfl rfl rfl rfl rfl (fun _ => r_fieldAt rfl (ev_t rfl) fld_36_0) ?_
  first | refine WN.calm _ rfl rfl rfl rfl rfl (fun _ => r_field0 rfl (ev_t rfl) fld_36_1) ?_ | refine WN.calm _ rfl rfl rfl rfl rfl (fun _ => r_fieldAt rfl (ev_t rfl) fld_36_1) ?_
  first | refine WN.calm _ rfl rfl rfl rfl rfl (fun _ => r_field0 rfl (ev_t rfl) fld_36_2) ?_ | refine WN.calm _ rfl rfl rfl rfl rfl (fun _ => r_fieldAt rfl (ev_t rfl) fld_36_2) ?_
  refine WN.held _ rfl rfl rfl rfl rfl hS1 (fun w' hS => r_load rfl (ev_t rfl) flat_29 (Blk.cell (h2.upd hS (fun h => h)) rfl)) ?_
  refine WN.held _ rfl rfl rfl rfl rfl hS1 (fun w' hS => r_load rfl (ev_t rfl) flat_3 (Blk.cell (h2.upd hS (fun h => h)) rfl)) ?_
  refine WN.held _ rfl rfl rfl rfl rfl hS1 (fun w' hS => r_load rfl (ev_t rfl) flat_29 (Blk.cell (h2.upd hS (fun h => h)) rfl)) ?_
  refine WN.step _ rfl (SO.call (vote_ok ht hv) rfl body_17 ⟨(ev_t rfl), (ev_t rfl), trivial⟩ rfl rfl rfl rfl ?_)
  rintro v1 w3 ⟨hv1, hu3⟩
  change Own _ _ _ _ _ (recVo t v).length ((recVo t v).map U8) at hv1
  obtain ⟨A1, c1, rfl, hc1⟩ := Own.form hv1
  have hs3 := hu3.size
  replace hS1 := Upd.transA hS1 hu3
  replace hU := hU.transA hu3
  replace h2 := h2.upd hu3 (by first | exact (fun h => h) | (simp only [New]; omega))
  refine ⟨hS1, ?_⟩
  refine WN.step _ rfl (SO.call (base_ok hb) rfl body_39 ⟨(ev_t rfl), trivial⟩ rfl rfl rfl rfl ?_)
  rintro v1 w4 ⟨hv2, hu4⟩
  obtain ⟨A2, c2, rfl, hc2⟩ := Own.form hv2
  have hs4 := hu4.size
  try replace hS1 := Upd.transA hS1 hu4
  replace hU := hU.transA hu4
  replace h2 := h2.upd hu4 (by first | exact (fun h => h) | (simp only [New]; omega))
  replace hv1 := hv1.upd hu4 (by first | exact (fun _ _ _ h => h) | (intro k hk hl hS; simp only [New] at hk hS; omega))
  refine ⟨trivial, ?_⟩
  have hd := hv2.rd (by omega)
  clear hv2
  refine WN.step _ rfl (SO.append hv1 hd row_22 (U8_one _) (le_maxLen (by omega)) (by omega) rfl (ev_t rfl) (ev_t rfl) rfl rfl rfl rfl ?_)
  intro v5 w5 hv3 hu5
  have hs5 := hu5.size
  try replace hS1 := Upd.transA hS1 hu5
  replace hU := hU.transA hu5
  replace h2 := h2.upd hu5 (by first | exact (fun h => h) | (simp only [New]; omega))
  refine ⟨trivial, ?_⟩
  obtain ⟨A5, c5, rfl, hc5⟩ := Own.form hv3
  rw [← List.map_append] at hv3
  refine WN.calm _ rfl rfl rfl rfl rfl (fun _ => r_assign rfl (ev_t rfl)) ?_
  refine WN.done ?_
  refine WX.keep [(1, _), (2, _), (5, _)] ⟨rfl, rfl, rfl, trivial⟩ ?_
  refine WX.next ?_
  refine WC.seq ?_
  refine WC.seq ?_
  refine WC.region ?_
  first | refine WL.val rfl rfl rfl rfl (r_field0 rfl (ev_t rfl) fld_36_3) ?_ | refine WL.val rfl rfl rfl rfl (r_fieldAt rfl (ev_t rfl) fld_36_3) ?_
  refine WL.val rfl rfl rfl rfl (r_load rfl (ev_t rfl) flat_28 (Blk.cell h2 rfl)) ?_
  refine WL.val rfl rfl rfl rfl (r_lenSlice (ts := #[]) rfl (ev_t rfl) elem_28) ?_
  refine WL.val rfl rfl rfl rfl (r_move rfl ev_c) ?_
  refine WL.nil ?_
  refine WX.keep [(1, _), (2, _), (5, _), (18, _), (19, _), (20, _)] ⟨rfl, rfl, rfl, rfl, rfl, rfl, trivial⟩ ?_
  refine WX.next ?_
  refine WC.block ?_
  -- loop 1: live [1, 2, 5, 18, 19, 20]
  refine WC.keep [(1, _), (2, _), (5, _), (18, _), (19, _), (20, _)] ⟨rfl, rfl, rfl, rfl, rfl, rfl, trivial⟩ ?_
  refine WC.loop (fun qq E wC => qq = 0 ∧ w5 = wC ∧ E = [(1, .int .u64 (n : Int)), (2, .pointer (some ⟨w.heap.size, 0, none⟩)), (5, .slice A5 ((recVo t v).length + (recB 3 (encU b)).length) c5), (18, .slice none 0 0), (19, .int .i64 0), (20, .int .i64 0)]) (0) ?_ ?_
  · exact ⟨rfl, rfl, rfl⟩
  · rintro qq E wC ⟨rfl, rfl, rfl⟩
    refine WC.seq ?_
    refine WC.region ?_
    refine WL.val rfl rfl rfl rfl (r_lss rfl (ev_t rfl) (ev_t rfl)) ?_
    refine WL.nil ?_
    refine WX.keep [(1, _), (2, _), (5, _), (18, _), (19, _), (20, _), (21, _)] ⟨rfl, rfl, rfl, rfl, rfl, rfl, rfl, trivial⟩ ?_
    refine WX.next ?_
    refine WC.seq ?_
    refine WC.cond rfl (ev_t rfl) (fun hc3 => ?_) (fun hc3 => ?_)
    · try (exfalso; first | (simp at hc3; done) | (simp only [decide_eq_true_eq, decide_eq_false_iff_not, Bool.not_eq_true', Bool.not_eq_false', Bool.not_eq_true, Bool.not_eq_false] at hc3; omega) | omega)
      all_goals
       try simp only [decide_eq_true_eq, decide_eq_false_iff_not, Bool.not_eq_true', Bool.not_eq_false', Bool.not_eq_true, Bool.not_eq_false, Option.isNone_none, Option.isNone_some, Option.isSome_none, Option.isSome_some, ne_eq, Decidable.not_not] at hc3
       refine WC.skip ?_
       refine WX.next ?_
       refine WC.seq ?_
       refine WC.block ?_
       refine WC.seq ?_
       refine WC.region ?_
       refine WL.val rfl rfl rfl rfl (r_move rfl (ev_t rfl)) ?_
       refine WL.val rfl rfl rfl rfl (r_indexAddr rfl (ev_t rfl) (ev_t rfl) elem_28 size_33 (by omega) (by omega)) ?_
       fail -- load 4.2: no facts
    · try (exfalso; first | (simp at hc3; done) | (simp only [decide_eq_true_eq, decide_eq_false_iff_not, Bool.not_eq_true', Bool.not_eq_false', Bool.not_eq_true, Bool.not_eq_false] at hc3; omega) | omega)
      all_goals
       try simp only [decide_eq_true_eq, decide_eq_false_iff_not, Bool.not_eq_true', Bool.not_eq_false', Bool.not_eq_true, Bool.not_eq_false, Option.isNone_none, Option.isNone_some, Option.isSome_none, Option.isSome_some, ne_eq, Decidable.not_not] at hc3
       refine WC.exit ?_
       refine WX.thenExit ?_
       refine WX.thenExit ?_
       refine WX.blockHere ?_
       refine WX.next ?_
       refine WC.seq ?_
       refine WC.region ?_
       refine WL.val rfl rfl rfl rfl (r_move rfl (ev_t rfl)) ?_
       refine WL.val rfl rfl rfl rfl (r_move rfl (ev_t rfl)) ?_
       refine WL.cons (SO.call (ready_ok hn) rfl body_40 ⟨(ev_t rfl), trivial⟩ rfl rfl rfl rfl ?_)
       rintro v1 w6 ⟨hv4, hu6⟩
       obtain ⟨A4, c4, rfl, hc4⟩ := Own.form hv4
       have hs6 := hu6.size
       replace hU := hU.transA hu6
       replace hv3 := hv3.upd hu6 (by first | exact (fun _ _ _ h => h) | (intro k hk hl hS; simp only [New, Grow] at hk hS; omega))
       have hd := hv4.rd (by omega)
       refine WL.cons (SO.append hv3 hd row_22 (U8_one _) (le_maxLen (by omega)) (by omega) rfl (ev_t rfl) (ev_t rfl) rfl rfl rfl rfl ?_)
       intro v7 w7 hv5 hu7
       have hs7 := hu7.size
       replace hU := hU.transA hu7
       obtain ⟨A7, c7, rfl, hc7⟩ := Own.form hv5
       rw [← List.map_append] at hv5
       refine WL.val rfl rfl rfl rfl (r_assign rfl (ev_t rfl)) ?_
       refine WL.nil ?_
       refine WX.keep [(4, _)] ⟨rfl, trivial⟩ ?_
       refine WX.next ?_
       refine WC.ret ?_
       refine WX.retE1 rfl rfl ?_
       refine ⟨?_, hU⟩
       unfold allB
       rw [List.length_append, List.length_append]
       exact hv5.mono fun k hk => by simp only [New, Grow] at *; omega

/-- a log in memory -/
def walC (d : Nat) (a side : Int) (turn : Nat) (s : WSt) (lv : Value) : Array Value := #[.pointer (some ⟨d, 0, none⟩), .int .i64 a, .int .i64 side, .int .u64 (turn : Int), .int .u64 (s.term : Int), .int .i64 s.vote, .int .u64 (s.base : Int), lv]

set_option maxHeartbeats 2000000 in
theorem again_ok {w : World} {Fd : Nat → Prop} {p d a side turn n most t b : Nat} {v : Int} {T : Nat → List UInt8} {D : DS} {s0 : WSt} {lv0 : Value} (hB : Blk w p (walC d a side turn s0 lv0) 53) (hD : IsD w Fd d D) (hQ : QD D n most T) (hFb : ∀ k, Fd k → k < w.heap.size ∧ k ≠ p)
    (hs : side ≤ 1) (ha : a + 1 < n) (hn : n ≤ 8) (hturn : turn + 1 < 18446744073709551616) (hm : 102 ≤ most) (ht : t < 18446744073709551616) (hv : inK .i64 v) (hb : b < 18446744073709551616) :
    Ret Try.prog 20 #[.pointer (some ⟨p, 0, none⟩), .agg (stC ⟨t, v, b, []⟩ (.slice none 0 0))] w fun u w' => u = .int .i64 0 ∧ Blk w' p (walC d a ((1 - side : Nat) : Int) (turn + 1) ⟨t, v, b, []⟩ (.slice none 0 0)) 53 ∧
      ∃ D', IsD w' (Grow Fd w w') d D' ∧ QD D' n most (putA T (a + 1 - side) (allB t v b (turn + 1))) ∧ Upd (fun k => k = p ∨ Fd k) w w' := by
  have hpl := hB.lt
  have hal := allB_len (n := turn + 1) ht hv hb hturn
  obtain ⟨q1, hD2⟩ := hQ.write (i := a + 1 - side) (by omega) (q := allB t v b (turn + 1)) (by omega)
  obtain ⟨q3, hD4⟩ := hD2.sync (i := a + 1 - side) (by omega)
  refine enterRet (vs := [_, _]) (N := 61) Try.func20 rfl rfl rfl ?_
  have hU := Upd.refl (fun k => k = p ∨ Fd k) w
  refine WC.keep [(0, _), (1, _)] ⟨rfl, rfl, trivial⟩ ?_
  refine WC.seq ?_
  refine WC.region ?_
  refine WL.cons (SO.alloc rfl rfl rfl rfl (r_boxAgg rfl (ev_t rfl)) ?_)
  intro w1 hu1 hB1 hz1
  have hs1 := hu1.size
  replace hU := hU.trans hu1 (by first | exact (fun _ _ h => h) | exact (fun _ _ h => h.elim) | (intro k hl hk; (try simp only [At, New, Grow, From, No] at hk ⊢); omega) | (intro k hl hk; first | exact hk.elim | exact .inl hk | exact .inr hk | (rcases hk with hk | hk; exact .inr hk; omega)))
  replace hB := hB.upd hu1 (by first | exact (fun h => h) | (intro h; first | (have h9 := (hFb _ h).2; omega) | (rcases h with h | h; have h9 := (hFb _ h).2; omega; omega)))
  replace hD := hD.upd hu1 (by first | exact (fun _ _ _ h => h) | (intro k hk hl hS; simp only [At] at hS; rcases hk with hk | hk; have h9 := (hFb _ hk).2; omega; omega))
  refine WL.val rfl rfl rfl rfl (r_assign rfl ev_c) ?_
  refine WL.nil ?_
  refine WX.keep [(0, _), (3, _)] ⟨rfl, rfl, trivial⟩ ?_
  have h3 := hB1
  change Blk _ _ (stC ⟨t, v, b, []⟩ (.slice none 0 0)) _ at h3
  have hb3 : w1.heap.size = w.heap.size + 1 := by omega
  refine WX.next ?_
  refine WC.seq ?_
  refine WC.draws' (fun u0_ u1_ => Upd No u0_ u1_) (fun j => [0, 0, 0, 0, 0, 0, 0, 0, 1, 0, 0].getD j 0) (.calm 0 (.calm 1 (.calm 2 (.calm 5 (.calm 6 (.calm 7 (.held 3 (.calm 4 (.one 8 (.calm 9 (.calm 10 (.done)))))))))))) mixed (by kernel_rfl) (by repeat (first | with_reducible exact Deaf.body | with_reducible apply Deaf.then | with_reducible apply Deaf.block)) ?_
  intro w2 hu2
  have hz2 := congrArg Array.size hu2.2.2.2
  replace hu2 := Upd.of_draw hu2
  have hs2 := hu2.size
  replace hU := hU.trans hu2 (by first | exact (fun _ _ h => h) | exact (fun _ _ h => h.elim) | (intro k hl hk; (try simp only [At, New, Grow, From, No] at hk ⊢); omega) | (intro k hl hk; first | exact hk.elim | exact .inl hk | exact .inr hk | (rcases hk with hk | hk; exact .inr hk; omega)))
  replace hB := hB.upd hu2 (by first | exact (fun h => h) | (intro h; first | (have h9 := (hFb _ h).2; omega) | (rcases h with h | h; have h9 := (hFb _ h).2; omega; omega)))
  replace hD := hD.upd hu2 (by first | exact (fun _ _ _ h => h) | (intro k hk hl hS; simp only [At] at hS; rcases hk with hk | hk; have h9 := (hFb _ hk).2; omega; omega))
  replace h3 := h3.upd hu2 (by first | exact (fun h => h) | (intro h; first | (have h9 := (hFb _ h).1; omega) | (rcases h with h | h; have h9 := (hFb _ h).1; omega; omega) | (simp only [At] at h; omega)))
  have hS1 := Upd.refl No w2
  refine WN.calm _ rfl rfl rfl rfl rfl (fun _ => r_move rfl (ev_t rfl)) ?_
  refine WN.calm _ rfl rfl rfl rfl rfl (fun _ => r_nilCheck rfl (ev_t rfl)) ?_
  first | refine WN.calm _ rfl rfl rfl rfl rfl (fun _ => r_field0 rfl (ev_t rfl) fld_53_1) ?_ | refine WN.calm _ rfl rfl rfl rfl rfl (fun _ => r_fieldAt rfl (ev_t rfl) fld_53_1) ?_
  refine WN.calm _ rfl rfl rfl rfl rfl (fun _ => r_move rfl (ev_t rfl)) ?_
  refine WN.calm _ rfl rfl rfl rfl rfl (fun _ => r_nilCheck rfl (ev_t rfl)) ?_
  first | refine WN.calm _ rfl rfl rfl rfl rfl (fun _ => r_field0 rfl (ev_t rfl) fld_53_2) ?_ | refine WN.calm _ rfl rfl rfl rfl rfl (fun _ => r_fieldAt rfl (ev_t rfl) fld_53_2) ?_
  refine WN.held _ rfl rfl rfl rfl rfl hS1 (fun w' hS => r_load rfl (ev_t rfl) flat_3 (Blk.cell (hB.upd hS (fun h => h)) rfl)) ?_
  first | refine WN.calm _ rfl rfl rfl rfl rfl (fun _ => r_addN rfl (ev_t rfl) ev_c (by simp only [inK]; omega)) ?_ | refine WN.calm _ rfl rfl rfl rfl rfl (fun _ => r_add rfl (ev_t rfl) ev_c) ?_
  refine WN.step _ rfl (SO.val rfl rfl rfl rfl (r_load rfl (ev_t rfl) flat_3 (Blk.cell hB rfl)) ?_)
  refine ⟨hS1, ?_⟩
  first | refine WN.calm _ rfl rfl rfl rfl rfl (fun _ => r_subN rfl (ev_t rfl) (ev_t rfl) (by simp only [inK]; omega)) ?_ | refine WN.calm _ rfl rfl rfl rfl rfl (fun _ => r_sub rfl (ev_t rfl) (ev_t rfl)) ?_
  refine WN.calm _ rfl rfl rfl rfl rfl (fun _ => r_assign rfl (ev_t rfl)) ?_
  refine WN.done ?_
  refine WX.keep [(0, _), (3, _), (5, _)] ⟨rfl, rfl, rfl, trivial⟩ ?_
  rw [show (a : Int) + 1 - (side : Int) = ((a + 1 - side : Nat) : Int) by omega]
  refine WX.next ?_
  refine WC.seq ?_
  refine WC.draws' (fun u0_ u1_ => Upd No u0_ u1_) (fun j => [0, 0, 0, 0, 0, 0, 0, 0, 0, 1, 0, 1, 2, 0].getD j 0) (.calm 0 (.calm 1 (.calm 2 (.calm 4 (.calm 6 (.calm 7 (.calm 8 (.held 3 (.held 5 (.one 9 (.calm 10 (.one 11 (.one 12 (.calm 13 (.done))))))))))))))) mixed (by kernel_rfl) (by repeat (first | with_reducible exact Deaf.body | with_reducible apply Deaf.then | with_reducible apply Deaf.block)) ?_
  intro w3 hu3
  have hz3 := congrArg Array.size hu3.2.2.2
  replace hu3 := Upd.of_draw hu3
  have hs3 := hu3.size
  replace hU := hU.trans hu3 (by first | exact (fun _ _ h => h) | exact (fun _ _ h => h.elim) | (intro k hl hk; (try simp only [At, New, Grow, From, No] at hk ⊢); omega) | (intro k hl hk; first | exact hk.elim | exact .inl hk | exact .inr hk | (rcases hk with hk | hk; exact .inr hk; omega)))
  replace hB := hB.upd hu3 (by first | exact (fun h => h) | (intro h; first | (have h9 := (hFb _ h).2; omega) | (rcases h with h | h; have h9 := (hFb _ h).2; omega; omega)))
  replace hD := hD.upd hu3 (by first | exact (fun _ _ _ h => h) | (intro k hk hl hS; simp only [At] at hS; rcases hk with hk | hk; have h9 := (hFb _ hk).2; omega; omega))
  replace h3 := h3.upd hu3 (by first | exact (fun h => h) | (intro h; first | (have h9 := (hFb _ h).1; omega) | (rcases h with h | h; have h9 := (hFb _ h).1; omega; omega) | (simp only [At] at h; omega)))
  have hS2 := Upd.refl No w3
  refine WN.calm _ rfl rfl rfl rfl rfl (fun _ => r_move rfl (ev_t rfl)) ?_
  refine WN.calm _ rfl rfl rfl rfl rfl (fun _ => r_nilCheck rfl (ev_t rfl)) ?_
  first | refine WN.calm _ rfl rfl rfl rfl rfl (fun _ => r_field0 rfl (ev_t rfl) fld_53_0) ?_ | refine WN.calm _ rfl rfl rfl rfl rfl (fun _ => r_fieldAt rfl (ev_t rfl) fld_53_0) ?_
  refine WN.calm _ rfl rfl rfl rfl rfl (fun _ => r_move rfl (ev_t rfl)) ?_
  refine WN.calm _ rfl rfl rfl rfl rfl (fun _ => r_move rfl (ev_t rfl)) ?_
  refine WN.calm _ rfl rfl rfl rfl rfl (fun _ => r_nilCheck rfl (ev_t rfl)) ?_
  first | refine WN.calm _ rfl rfl rfl rfl rfl (fun _ => r_field0 rfl (ev_t rfl) fld_53_3) ?_ | refine WN.calm _ rfl rfl rfl rfl rfl (fun _ => r_fieldAt rfl (ev_t rfl) fld_53_3) ?_
  refine WN.held _ rfl rfl rfl rfl rfl hS2 (fun w' hS => r_load rfl (ev_t rfl) flat_24 (Blk.cell (hB.upd hS (fun h => h)) rfl)) ?_
  refine WN.held _ rfl rfl rfl rfl rfl hS2 (fun w' hS => r_loadAgg (vs := [_, _, _, _]) rfl (ev_t rfl) agg_36 size_36 (Blk.cellsL (h3.upd hS (fun h => h)))) ?_
  refine WN.step _ rfl (SO.val rfl rfl rfl rfl (r_load rfl (ev_t rfl) flat_29 (Blk.cell hB rfl)) ?_)
  refine ⟨hS2, ?_⟩
  first | refine WN.calm _ rfl rfl rfl rfl rfl (fun _ => r_addN rfl (ev_t rfl) ev_c (by simp only [inK]; omega)) ?_ | refine WN.calm _ rfl rfl rfl rfl rfl (fun _ => r_add rfl (ev_t rfl) ev_c) ?_
  rw [show (turn : Int) + 1 = ((turn + 1 : Nat) : Int) by omega]
  refine WN.step _ rfl (SO.call (all_ok ht hv hb hturn) rfl body_33 ⟨(ev_t rfl), (ev_t rfl), trivial⟩ rfl rfl rfl rfl ?_)
  rintro v1 w4 ⟨hal9, hu4⟩
  obtain ⟨A9, c9, rfl, hc9⟩ := Own.form hal9
  have hs9 := hU.size
  have hs4 := hu4.size
  replace hS2 := Upd.transA hS2 hu4
  replace hU := hU.trans hu4 (by first | exact (fun _ _ h => h) | exact (fun _ _ h => h.elim) | (intro k hl hk; (try simp only [At, New, Grow, From, No] at hk ⊢); omega) | (intro k hl hk; first | exact hk.elim | exact .inl hk | exact .inr hk | (rcases hk with hk | hk; exact .inr hk; omega)))
  replace hB := hB.upd hu4 (by first | exact (fun h => h) | (intro h; first | (have h9 := (hFb _ h).2; omega) | (rcases h with h | h; have h9 := (hFb _ h).2; omega; omega)))
  replace hD := hD.upd hu4 (by first | exact (fun _ _ _ h => h) | (intro k hk hl hS; simp only [At] at hS; rcases hk with hk | hk; have h9 := (hFb _ hk).2; omega; omega))
  replace h3 := h3.upd hu4 (by first | exact (fun h => h) | (intro h; first | (have h9 := (hFb _ h).1; omega) | (rcases h with h | h; have h9 := (hFb _ h).1; omega; omega) | (simp only [At] at h; omega)))
  refine ⟨hS2, ?_⟩
  refine WN.step _ rfl (SO.call (Write_good hD (hQ.look (by omega)) (hal9.rd (by omega)) (fun k hk hl h => by have h9 := (hFb _ h).1; simp only [New] at hk; omega)) rfl body_11 ⟨(ev_t rfl), (ev_t rfl), (ev_t rfl), trivial⟩ rfl rfl rfl rfl ?_)
  rw [q1]
  rintro v1 w5 ⟨rfl, hD9, hu5⟩
  have hs8 := hU.size
  have hD := hD9.mono (F' := fun k => Fd k ∨ w.heap.size < k) (fun k hk hl => by rcases hk with hk | hk; exact .inl hk; exact .inr (by omega))
  clear hD9
  have hs5 := hu5.size
  try replace hS2 := Upd.transA hS2 hu5
  replace hU := hU.trans hu5 (by first | exact (fun _ _ h => h) | exact (fun _ _ h => h.elim) | (intro k hl hk; (try simp only [At, New, Grow, From, No] at hk ⊢); omega) | (intro k hl hk; first | exact hk.elim | exact .inl hk | exact .inr hk | (rcases hk with hk | hk; exact .inr hk; omega)))
  replace hB := hB.upd hu5 (by first | exact (fun h => h) | (intro h; first | (have h9 := (hFb _ h).2; omega) | (rcases h with h | h; have h9 := (hFb _ h).2; omega; omega)))
  replace h3 := h3.upd hu5 (by first | exact (fun h => h) | (intro h; first | (have h9 := (hFb _ h).1; omega) | (rcases h with h | h; have h9 := (hFb _ h).1; omega; omega) | (simp only [At] at h; omega)))
  refine ⟨trivial, ?_⟩
  refine WN.calm _ rfl rfl rfl rfl rfl (fun _ => r_assign rfl (ev_t rfl)) ?_
  refine WN.done ?_
  refine WX.keep [(0, _), (3, _), (5, _), (6, _)] ⟨rfl, rfl, rfl, rfl, trivial⟩ ?_
  refine WX.next ?_
  refine WC.seq ?_
  refine WC.seq ?_
  refine WC.region ?_
  refine WL.val rfl rfl rfl rfl (r_move rfl (ev_t rfl)) ?_
  refine WL.val rfl rfl rfl rfl (r_eql rfl (ev_t rfl) ev_c) ?_
  refine WL.nil ?_
  refine WX.keep [(0, _), (3, _), (5, _), (6, _), (31, _)] ⟨rfl, rfl, rfl, rfl, rfl, trivial⟩ ?_
  refine WX.next ?_
  refine WC.cond rfl (ev_t rfl) (fun hc3 => ?_) (fun hc3 => ?_)
  · try (exfalso; first | (simp at hc3; done) | (simp only [decide_eq_true_eq, decide_eq_false_iff_not, Bool.not_eq_true', Bool.not_eq_false', Bool.not_eq_true, Bool.not_eq_false] at hc3; omega) | omega)
    all_goals
     try simp only [decide_eq_true_eq, decide_eq_false_iff_not, Bool.not_eq_true', Bool.not_eq_false', Bool.not_eq_true, Bool.not_eq_false, Option.isNone_none, Option.isNone_some, Option.isSome_none, Option.isSome_some, ne_eq, Decidable.not_not] at hc3
     refine WC.region ?_
     refine WL.val rfl rfl rfl rfl (r_move rfl (ev_t rfl)) ?_
     refine WL.val rfl rfl rfl rfl (r_nilCheck rfl (ev_t rfl)) ?_
     first | refine WL.val rfl rfl rfl rfl (r_field0 rfl (ev_t rfl) fld_53_0) ?_ | refine WL.val rfl rfl rfl rfl (r_fieldAt rfl (ev_t rfl) fld_53_0) ?_
     refine WL.val rfl rfl rfl rfl (r_load rfl (ev_t rfl) flat_24 (Blk.cell hB rfl)) ?_
     refine WL.val rfl rfl rfl rfl (r_move rfl (ev_t rfl)) ?_
     refine WL.cons (SO.call (Sync_good hD (hD2.look (by omega))) rfl body_12 ⟨(ev_t rfl), (ev_t rfl), trivial⟩ rfl rfl rfl rfl ?_)
     rw [q3]
     rintro v1 w6 ⟨rfl, hD9, hu6⟩
     have hD := hD9.mono (F' := fun k => Fd k ∨ w.heap.size < k) (fun k hk hl => by rcases hk with (hk | hk) | hk; exact .inl hk; exact .inr hk; exact .inr (by omega))
     clear hD9
     have hs6 := hu6.size
     replace hU := hU.trans hu6 (by first | exact (fun _ _ h => h) | exact (fun _ _ h => h.elim) | (intro k hl hk; (try simp only [At, New, Grow, From, No] at hk ⊢); omega) | (intro k hl hk; first | exact hk.elim | exact .inl hk | exact .inr hk | (rcases hk with hk | hk; exact .inr hk; omega)))
     replace hB := hB.upd hu6 (by first | exact (fun h => h) | (intro h; first | (have h9 := (hFb _ h).2; omega) | (rcases h with h | h; have h9 := (hFb _ h).2; omega; omega)))
     replace h3 := h3.upd hu6 (by first | exact (fun h => h) | (intro h; first | (have h9 := (hFb _ h).1; omega) | (rcases h with h | h; have h9 := (hFb _ h).1; omega; omega) | (simp only [At] at h; omega)))
     refine WL.val rfl rfl rfl rfl (r_assign rfl (ev_t rfl)) ?_
     refine WL.nil ?_
     refine WX.keep [(0, _), (3, _), (6, _)] ⟨rfl, rfl, rfl, trivial⟩ ?_
     refine WX.next ?_
     refine WC.seq ?_
     refine WC.seq ?_
     refine WC.region ?_
     refine WL.val rfl rfl rfl rfl (r_move rfl (ev_t rfl)) ?_
     refine WL.val rfl rfl rfl rfl (r_neq rfl (ev_t rfl) ev_c) ?_
     refine WL.nil ?_
     refine WX.keep [(0, _), (3, _), (6, _), (39, _)] ⟨rfl, rfl, rfl, rfl, trivial⟩ ?_
     refine WX.next ?_
     refine WC.cond rfl (ev_t rfl) (fun hc5 => ?_) (fun hc5 => ?_)
     · try (exfalso; first | (simp at hc5; done) | (simp only [decide_eq_true_eq, decide_eq_false_iff_not, Bool.not_eq_true', Bool.not_eq_false', Bool.not_eq_true, Bool.not_eq_false] at hc5; omega) | omega)
       all_goals
        try simp only [decide_eq_true_eq, decide_eq_false_iff_not, Bool.not_eq_true', Bool.not_eq_false', Bool.not_eq_true, Bool.not_eq_false, Option.isNone_none, Option.isNone_some, Option.isSome_none, Option.isSome_some, ne_eq, Decidable.not_not] at hc5
        refine WC.seq ?_
        refine WC.region ?_
        refine WL.val rfl rfl rfl rfl (r_move rfl (ev_t rfl)) ?_
        refine WL.val rfl rfl rfl rfl (r_assign rfl (ev_t rfl)) ?_
        refine WL.nil ?_
        refine WX.keep [(4, _)] ⟨rfl, trivial⟩ ?_
        refine WX.next ?_
        refine WC.ret ?_
        refine WX.thenRet ?_
        refine WX.retE1 rfl rfl ?_
        refine ⟨rfl, ?_, _, hD.mono (fun k hk hl => by rcases hk with hk | hk; exact .inl hk; exact .inr ⟨by omega, hl⟩), hD4, hU⟩
        rw [show ((1 - side : Nat) : Int) = 1 - (side : Int) by omega]
        exact hB
     · try (exfalso; first | (simp at hc5; done) | (simp only [decide_eq_true_eq, decide_eq_false_iff_not, Bool.not_eq_true', Bool.not_eq_false', Bool.not_eq_true, Bool.not_eq_false] at hc5; omega) | omega)
       all_goals
        try simp only [decide_eq_true_eq, decide_eq_false_iff_not, Bool.not_eq_true', Bool.not_eq_false', Bool.not_eq_true, Bool.not_eq_false, Option.isNone_none, Option.isNone_some, Option.isSome_none, Option.isSome_some, ne_eq, Decidable.not_not] at hc5
        refine WC.skip ?_
        refine WX.next ?_
        refine WC.seq ?_
        refine WC.draws' (fun u0_ u1_ => Upd (At p) u0_ u1_) (fun j => [0, 0, 0, 0, 0, 0, 1, 0, 0, 0, 0, 1, 0, 0, 0, 0, 1, 0, 0, 1, 0, 0, 2].getD j 0) (.calm 0 (.calm 1 (.calm 2 (.calm 3 (.calm 4 (.calm 5 (.calm 8 (.calm 9 (.calm 10 (.held 13 (.two 6 11 (.calm 7 (.one 11 (.calm 12 (.calm 14 (.calm 15 (.one 16 (.calm 17 (.calm 18 (.one 19 (.calm 20 (.calm 21 (.one 22 (.done))))))))))))) (.calm 12 (.one 6 (.calm 7 (.calm 14 (.calm 15 (.one 16 (.calm 17 (.calm 18 (.one 19 (.calm 20 (.calm 21 (.one 22 (.done)))))))))))))))))))))))) mixed (by kernel_rfl) (by repeat (first | with_reducible exact Deaf.body | with_reducible apply Deaf.then | with_reducible apply Deaf.block)) ?_
        intro w7 hu7
        have hz7 := congrArg Array.size hu7.2.2.2
        replace hu7 := Upd.of_draw hu7
        have hs7 := hu7.size
        replace hU := hU.trans hu7 (by first | exact (fun _ _ h => h) | exact (fun _ _ h => h.elim) | (intro k hl hk; (try simp only [At, New, Grow, From, No] at hk ⊢); omega) | (intro k hl hk; first | exact hk.elim | exact .inl hk | exact .inr hk | (rcases hk with hk | hk; exact .inr hk; omega)))
        replace hB := hB.upd hu7 (by first | exact (fun h => h) | (intro h; first | (have h9 := (hFb _ h).2; omega) | (rcases h with h | h; have h9 := (hFb _ h).2; omega; omega)))
        replace hD := hD.upd hu7 (by first | exact (fun _ _ _ h => h) | (intro k hk hl hS; simp only [At] at hS; rcases hk with hk | hk; have h9 := (hFb _ hk).2; omega; omega))
        replace h3 := h3.upd hu7 (by first | exact (fun h => h) | (intro h; first | (have h9 := (hFb _ h).1; omega) | (rcases h with h | h; have h9 := (hFb _ h).1; omega; omega) | (simp only [At] at h; omega)))
        have hS7 := Upd.refl (At p) w7
        refine WN.calm _ rfl rfl rfl rfl rfl (fun _ => r_move rfl (ev_t rfl)) ?_
        refine WN.calm _ rfl rfl rfl rfl rfl (fun _ => r_move rfl (ev_t rfl)) ?_
        refine WN.calm _ rfl rfl rfl rfl rfl (fun _ => r_move rfl (ev_t rfl)) ?_
        refine WN.calm _ rfl rfl rfl rfl rfl (fun _ => r_move rfl (ev_t rfl)) ?_
        refine WN.calm _ rfl rfl rfl rfl rfl (fun _ => r_nilCheck rfl (ev_t rfl)) ?_
        first | refine WN.calm _ rfl rfl rfl rfl rfl (fun _ => r_field0 rfl (ev_t rfl) fld_53_2) ?_ | refine WN.calm _ rfl rfl rfl rfl rfl (fun _ => r_fieldAt rfl (ev_t rfl) fld_53_2) ?_
        refine WN.calm _ rfl rfl rfl rfl rfl (fun _ => r_move rfl (ev_t rfl)) ?_
        refine WN.calm _ rfl rfl rfl rfl rfl (fun _ => r_nilCheck rfl (ev_t rfl)) ?_
        first | refine WN.calm _ rfl rfl rfl rfl rfl (fun _ => r_field0 rfl (ev_t rfl) fld_53_3) ?_ | refine WN.calm _ rfl rfl rfl rfl rfl (fun _ => r_fieldAt rfl (ev_t rfl) fld_53_3) ?_
        refine WN.held _ rfl rfl rfl rfl rfl hS7 (fun w' hS => r_loadAgg (vs := [_, _, _, _]) rfl (ev_t rfl) agg_36 size_36 (Blk.cellsL (h3.upd hS (by (try simp only [At, From, No, Grow, New]); omega)))) ?_
        refine WN.fork _ _ rfl rfl ?_ ?_
        · refine SO.val rfl rfl rfl rfl (r_load rfl (ev_t rfl) flat_3 (Blk.cell hB rfl)) ?_
          refine ⟨hS7, ?_⟩
          first | refine WN.calm _ rfl rfl rfl rfl rfl (fun _ => r_subN rfl ev_c (ev_t rfl) (by simp only [inK]; omega)) ?_ | refine WN.calm _ rfl rfl rfl rfl rfl (fun _ => r_sub rfl ev_c (ev_t rfl)) ?_
          refine WN.step _ rfl (SO.val rfl rfl rfl rfl (r_load rfl (ev_t rfl) flat_29 (Blk.cell hB rfl)) ?_)
          refine ⟨hS7, ?_⟩
          first | refine WN.calm _ rfl rfl rfl rfl rfl (fun _ => r_addN rfl (ev_t rfl) ev_c (by simp only [inK]; omega)) ?_ | refine WN.calm _ rfl rfl rfl rfl rfl (fun _ => r_add rfl (ev_t rfl) ev_c) ?_
          refine WN.calm _ rfl rfl rfl rfl rfl (fun _ => r_nilCheck rfl (ev_t rfl)) ?_
          first | refine WN.calm _ rfl rfl rfl rfl rfl (fun _ => r_field0 rfl (ev_t rfl) fld_53_2) ?_ | refine WN.calm _ rfl rfl rfl rfl rfl (fun _ => r_fieldAt rfl (ev_t rfl) fld_53_2) ?_
          refine WN.step _ rfl (SO.store rfl (ev_t rfl) (ev_t rfl) size_3 hB rfl rfl rfl rfl rfl ?_)
          intro w8 hu8 hB hz8
          have hs8 := hu8.size
          replace hS7 := Upd.trans hS7 hu8 (fun _ _ h => h)
          replace hU := hU.trans hu8 (by first | exact (fun _ _ h => h) | exact (fun _ _ h => h.elim) | (intro k hl hk; (try simp only [At, New, Grow, From, No] at hk ⊢); omega) | (intro k hl hk; first | exact hk.elim | exact .inl hk | exact .inr hk | (rcases hk with hk | hk; exact .inr hk; omega)))
          replace hD := hD.upd hu8 (by first | exact (fun _ _ _ h => h) | (intro k hk hl hS; simp only [At] at hS; rcases hk with hk | hk; have h9 := (hFb _ hk).2; omega; omega))
          replace h3 := h3.upd hu8 (by first | exact (fun h => h) | (intro h; first | (have h9 := (hFb _ h).1; omega) | (rcases h with h | h; have h9 := (hFb _ h).1; omega; omega) | (simp only [At] at h; omega)))
          refine ⟨hS7, ?_⟩
          refine WN.calm _ rfl rfl rfl rfl rfl (fun _ => r_nilCheck rfl (ev_t rfl)) ?_
          first | refine WN.calm _ rfl rfl rfl rfl rfl (fun _ => r_field0 rfl (ev_t rfl) fld_53_3) ?_ | refine WN.calm _ rfl rfl rfl rfl rfl (fun _ => r_fieldAt rfl (ev_t rfl) fld_53_3) ?_
          refine WN.step _ rfl (SO.store rfl (ev_t rfl) (ev_t rfl) size_29 hB rfl rfl rfl rfl rfl ?_)
          intro w9 hu9 hB hz9
          have hs9 := hu9.size
          replace hS7 := Upd.trans hS7 hu9 (fun _ _ h => h)
          replace hU := hU.trans hu9 (by first | exact (fun _ _ h => h) | exact (fun _ _ h => h.elim) | (intro k hl hk; (try simp only [At, New, Grow, From, No] at hk ⊢); omega) | (intro k hl hk; first | exact hk.elim | exact .inl hk | exact .inr hk | (rcases hk with hk | hk; exact .inr hk; omega)))
          replace hD := hD.upd hu9 (by first | exact (fun _ _ _ h => h) | (intro k hk hl hS; simp only [At] at hS; rcases hk with hk | hk; have h9 := (hFb _ hk).2; omega; omega))
          replace h3 := h3.upd hu9 (by first | exact (fun h => h) | (intro h; first | (have h9 := (hFb _ h).1; omega) | (rcases h with h | h; have h9 := (hFb _ h).1; omega; omega) | (simp only [At] at h; omega)))
          refine ⟨hS7, ?_⟩
          refine WN.calm _ rfl rfl rfl rfl rfl (fun _ => r_nilCheck rfl (ev_t rfl)) ?_
          first | refine WN.calm _ rfl rfl rfl rfl rfl (fun _ => r_field0 rfl (ev_t rfl) fld_53_4) ?_ | refine WN.calm _ rfl rfl rfl rfl rfl (fun _ => r_fieldAt rfl (ev_t rfl) fld_53_4) ?_
          refine WN.step _ rfl (SO.storeN (us := [_, _, _, _]) rfl (ev_t rfl) (ev_t rfl) size_36 hB (by simp [walC]) rfl rfl rfl rfl ?_)
          intro w10 hu10 hB hz9
          have hs10 := hu10.size
          try replace hS7 := Upd.trans hS7 hu10 (fun _ _ h => h)
          replace hU := hU.trans hu10 (by first | exact (fun _ _ h => h) | exact (fun _ _ h => h.elim) | (intro k hl hk; (try simp only [At, New, Grow, From, No] at hk ⊢); omega) | (intro k hl hk; first | exact hk.elim | exact .inl hk | exact .inr hk | (rcases hk with hk | hk; exact .inr hk; omega)))
          replace hD := hD.upd hu10 (by first | exact (fun _ _ _ h => h) | (intro k hk hl hS; simp only [At] at hS; rcases hk with hk | hk; have h9 := (hFb _ hk).2; omega; omega))
          replace h3 := h3.upd hu10 (by first | exact (fun h => h) | (intro h; first | (have h9 := (hFb _ h).1; omega) | (rcases h with h | h; have h9 := (hFb _ h).1; omega; omega) | (simp only [At] at h; omega)))
          refine ⟨trivial, ?_⟩
          refine WN.done ?_
          refine WX.keep [] trivial ?_
          refine WX.next ?_
          refine WC.seq ?_
          refine WC.region ?_
          refine WL.val rfl rfl rfl rfl (r_assign rfl ev_c) ?_
          refine WL.nil ?_
          refine WX.keep [(4, _)] ⟨rfl, trivial⟩ ?_
          refine WX.next ?_
          refine WC.ret ?_
          refine WX.retE1 rfl rfl ?_
          refine ⟨rfl, ?_, _, hD.mono (fun k hk hl => by rcases hk with hk | hk; exact .inl hk; exact .inr ⟨by omega, hl⟩), hD4, hU⟩
          rw [show ((1 - side : Nat) : Int) = 1 - (side : Int) by omega]
          exact hB
        · refine SO.val rfl rfl rfl rfl (r_load rfl (ev_t rfl) flat_29 (Blk.cell hB rfl)) ?_
          refine ⟨hS7, ?_⟩
          first | refine WN.calm _ rfl rfl rfl rfl rfl (fun _ => r_addN rfl (ev_t rfl) ev_c (by simp only [inK]; omega)) ?_ | refine WN.calm _ rfl rfl rfl rfl rfl (fun _ => r_add rfl (ev_t rfl) ev_c) ?_
          refine WN.step _ rfl (SO.val rfl rfl rfl rfl (r_load rfl (ev_t rfl) flat_3 (Blk.cell hB rfl)) ?_)
          refine ⟨hS7, ?_⟩
          first | refine WN.calm _ rfl rfl rfl rfl rfl (fun _ => r_subN rfl ev_c (ev_t rfl) (by simp only [inK]; omega)) ?_ | refine WN.calm _ rfl rfl rfl rfl rfl (fun _ => r_sub rfl ev_c (ev_t rfl)) ?_
          refine WN.calm _ rfl rfl rfl rfl rfl (fun _ => r_nilCheck rfl (ev_t rfl)) ?_
          first | refine WN.calm _ rfl rfl rfl rfl rfl (fun _ => r_field0 rfl (ev_t rfl) fld_53_2) ?_ | refine WN.calm _ rfl rfl rfl rfl rfl (fun _ => r_fieldAt rfl (ev_t rfl) fld_53_2) ?_
          refine WN.step _ rfl (SO.store rfl (ev_t rfl) (ev_t rfl) size_3 hB rfl rfl rfl rfl rfl ?_)
          intro w11 hu11 hB hz11
          have hs11 := hu11.size
          replace hS7 := Upd.trans hS7 hu11 (fun _ _ h => h)
          replace hU := hU.trans hu11 (by first | exact (fun _ _ h => h) | exact (fun _ _ h => h.elim) | (intro k hl hk; (try simp only [At, New, Grow, From, No] at hk ⊢); omega) | (intro k hl hk; first | exact hk.elim | exact .inl hk | exact .inr hk | (rcases hk with hk | hk; exact .inr hk; omega)))
          replace hD := hD.upd hu11 (by first | exact (fun _ _ _ h => h) | (intro k hk hl hS; simp only [At] at hS; rcases hk with hk | hk; have h9 := (hFb _ hk).2; omega; omega))
          replace h3 := h3.upd hu11 (by first | exact (fun h => h) | (intro h; first | (have h9 := (hFb _ h).1; omega) | (rcases h with h | h; have h9 := (hFb _ h).1; omega; omega) | (simp only [At] at h; omega)))
          refine ⟨hS7, ?_⟩
          refine WN.calm _ rfl rfl rfl rfl rfl (fun _ => r_nilCheck rfl (ev_t rfl)) ?_
          first | refine WN.calm _ rfl rfl rfl rfl rfl (fun _ => r_field0 rfl (ev_t rfl) fld_53_3) ?_ | refine WN.calm _ rfl rfl rfl rfl rfl (fun _ => r_fieldAt rfl (ev_t rfl) fld_53_3) ?_
          refine WN.step _ rfl (SO.store rfl (ev_t rfl) (ev_t rfl) size_29 hB rfl rfl rfl rfl rfl ?_)
          intro w12 hu12 hB hz12
          have hs12 := hu12.size
          replace hS7 := Upd.trans hS7 hu12 (fun _ _ h => h)
          replace hU := hU.trans hu12 (by first | exact (fun _ _ h => h) | exact (fun _ _ h => h.elim) | (intro k hl hk; (try simp only [At, New, Grow, From, No] at hk ⊢); omega) | (intro k hl hk; first | exact hk.elim | exact .inl hk | exact .inr hk | (rcases hk with hk | hk; exact .inr hk; omega)))
          replace hD := hD.upd hu12 (by first | exact (fun _ _ _ h => h) | (intro k hk hl hS; simp only [At] at hS; rcases hk with hk | hk; have h9 := (hFb _ hk).2; omega; omega))
          replace h3 := h3.upd hu12 (by first | exact (fun h => h) | (intro h; first | (have h9 := (hFb _ h).1; omega) | (rcases h with h | h; have h9 := (hFb _ h).1; omega; omega) | (simp only [At] at h; omega)))
          refine ⟨hS7, ?_⟩
          refine WN.calm _ rfl rfl rfl rfl rfl (fun _ => r_nilCheck rfl (ev_t rfl)) ?_
          first | refine WN.calm _ rfl rfl rfl rfl rfl (fun _ => r_field0 rfl (ev_t rfl) fld_53_4) ?_ | refine WN.calm _ rfl rfl rfl rfl rfl (fun _ => r_fieldAt rfl (ev_t rfl) fld_53_4) ?_
          refine WN.step _ rfl (SO.storeN (us := [_, _, _, _]) rfl (ev_t rfl) (ev_t rfl) size_36 hB (by simp [walC]) rfl rfl rfl rfl ?_)
          intro w13 hu13 hB hz9
          have hs13 := hu13.size
          try replace hS7 := Upd.trans hS7 hu13 (fun _ _ h => h)
          replace hU := hU.trans hu13 (by first | exact (fun _ _ h => h) | exact (fun _ _ h => h.elim) | (intro k hl hk; (try simp only [At, New, Grow, From, No] at hk ⊢); omega) | (intro k hl hk; first | exact hk.elim | exact .inl hk | exact .inr hk | (rcases hk with hk | hk; exact .inr hk; omega)))
          replace hD := hD.upd hu13 (by first | exact (fun _ _ _ h => h) | (intro k hk hl hS; simp only [At] at hS; rcases hk with hk | hk; have h9 := (hFb _ hk).2; omega; omega))
          replace h3 := h3.upd hu13 (by first | exact (fun h => h) | (intro h; first | (have h9 := (hFb _ h).1; omega) | (rcases h with h | h; have h9 := (hFb _ h).1; omega; omega) | (simp only [At] at h; omega)))
          refine ⟨trivial, ?_⟩
          refine WN.done ?_
          refine WX.keep [] trivial ?_
          refine WX.next ?_
          refine WC.seq ?_
          refine WC.region ?_
          refine WL.val rfl rfl rfl rfl (r_assign rfl ev_c) ?_
          refine WL.nil ?_
          refine WX.keep [(4, _)] ⟨rfl, trivial⟩ ?_
          refine WX.next ?_
          refine WC.ret ?_
          refine WX.retE1 rfl rfl ?_
          refine ⟨rfl, ?_, _, hD.mono (fun k hk hl => by rcases hk with hk | hk; exact .inl hk; exact .inr ⟨by omega, hl⟩), hD4, hU⟩
          rw [show ((1 - side : Nat) : Int) = 1 - (side : Int) by omega]
          exact hB
  · try (exfalso; first | (simp at hc3; done) | (simp only [decide_eq_true_eq, decide_eq_false_iff_not, Bool.not_eq_true', Bool.not_eq_false', Bool.not_eq_true, Bool.not_eq_false] at hc3; omega) | omega)
    all_goals
     try simp only [decide_eq_true_eq, decide_eq_false_iff_not, Bool.not_eq_true', Bool.not_eq_false', Bool.not_eq_true, Bool.not_eq_false, Option.isNone_none, Option.isNone_some, Option.isSome_none, Option.isSome_some, ne_eq, Decidable.not_not] at hc3
     refine WC.skip ?_
     refine WX.next ?_
     refine WC.seq ?_
     refine WC.seq ?_
     refine WC.region ?_
     refine WL.val rfl rfl rfl rfl (r_move rfl (ev_t rfl)) ?_
     refine WL.val rfl rfl rfl rfl (r_neq rfl (ev_t rfl) ev_c) ?_
     refine WL.nil ?_
     refine WX.keep [(0, _), (3, _), (6, _), (39, _)] ⟨rfl, rfl, rfl, rfl, trivial⟩ ?_
     refine WX.next ?_
     refine WC.cond rfl (ev_t rfl) (fun hc5 => ?_) (fun hc5 => ?_)
     · try (exfalso; first | (simp at hc5; done) | (simp only [decide_eq_true_eq, decide_eq_false_iff_not, Bool.not_eq_true', Bool.not_eq_false', Bool.not_eq_true, Bool.not_eq_false] at hc5; omega) | omega)
       all_goals
        try simp only [decide_eq_true_eq, decide_eq_false_iff_not, Bool.not_eq_true', Bool.not_eq_false', Bool.not_eq_true, Bool.not_eq_false, Option.isNone_none, Option.isNone_some, Option.isSome_none, Option.isSome_some, ne_eq, Decidable.not_not] at hc5
        refine WC.seq ?_
        refine WC.region ?_
        refine WL.val rfl rfl rfl rfl (r_move rfl (ev_t rfl)) ?_
        refine WL.val rfl rfl rfl rfl (r_assign rfl (ev_t rfl)) ?_
        refine WL.nil ?_
        refine WX.keep [(4, _)] ⟨rfl, trivial⟩ ?_
        refine WX.next ?_
        refine WC.ret ?_
        refine WX.thenRet ?_
        refine WX.retE1 rfl rfl ?_
        refine ⟨rfl, ?_, _, hD.mono (fun k hk hl => by rcases hk with hk | hk; exact .inl hk; exact .inr ⟨by omega, hl⟩), hD4, hU⟩
        rw [show ((1 - side : Nat) : Int) = 1 - (side : Int) by omega]
        exact hB
     · try (exfalso; first | (simp at hc5; done) | (simp only [decide_eq_true_eq, decide_eq_false_iff_not, Bool.not_eq_true', Bool.not_eq_false', Bool.not_eq_true, Bool.not_eq_false] at hc5; omega) | omega)
       all_goals
        try simp only [decide_eq_true_eq, decide_eq_false_iff_not, Bool.not_eq_true', Bool.not_eq_false', Bool.not_eq_true, Bool.not_eq_false, Option.isNone_none, Option.isNone_some, Option.isSome_none, Option.isSome_some, ne_eq, Decidable.not_not] at hc5
        refine WC.skip ?_
        refine WX.next ?_
        refine WC.seq ?_
        refine WC.draws' (fun u0_ u1_ => Upd (At p) u0_ u1_) (fun j => [0, 0, 0, 0, 0, 0, 1, 0, 0, 0, 0, 1, 0, 0, 0, 0, 1, 0, 0, 1, 0, 0, 2].getD j 0) (.calm 0 (.calm 1 (.calm 2 (.calm 3 (.calm 4 (.calm 5 (.calm 8 (.calm 9 (.calm 10 (.held 13 (.two 6 11 (.calm 7 (.one 11 (.calm 12 (.calm 14 (.calm 15 (.one 16 (.calm 17 (.calm 18 (.one 19 (.calm 20 (.calm 21 (.one 22 (.done))))))))))))) (.calm 12 (.one 6 (.calm 7 (.calm 14 (.calm 15 (.one 16 (.calm 17 (.calm 18 (.one 19 (.calm 20 (.calm 21 (.one 22 (.done)))))))))))))))))))))))) mixed (by kernel_rfl) (by repeat (first | with_reducible exact Deaf.body | with_reducible apply Deaf.then | with_reducible apply Deaf.block)) ?_
        intro w14 hu14
        have hz14 := congrArg Array.size hu14.2.2.2
        replace hu14 := Upd.of_draw hu14
        have hs14 := hu14.size
        replace hU := hU.trans hu14 (by first | exact (fun _ _ h => h) | exact (fun _ _ h => h.elim) | (intro k hl hk; (try simp only [At, New, Grow, From, No] at hk ⊢); omega) | (intro k hl hk; first | exact hk.elim | exact .inl hk | exact .inr hk | (rcases hk with hk | hk; exact .inr hk; omega)))
        replace hB := hB.upd hu14 (by first | exact (fun h => h) | (intro h; first | (have h9 := (hFb _ h).2; omega) | (rcases h with h | h; have h9 := (hFb _ h).2; omega; omega)))
        replace hD := hD.upd hu14 (by first | exact (fun _ _ _ h => h) | (intro k hk hl hS; simp only [At] at hS; rcases hk with hk | hk; have h9 := (hFb _ hk).2; omega; omega))
        replace h3 := h3.upd hu14 (by first | exact (fun h => h) | (intro h; first | (have h9 := (hFb _ h).1; omega) | (rcases h with h | h; have h9 := (hFb _ h).1; omega; omega) | (simp only [At] at h; omega)))
        have hS7 := Upd.refl (At p) w14
        refine WN.calm _ rfl rfl rfl rfl rfl (fun _ => r_move rfl (ev_t rfl)) ?_
        refine WN.calm _ rfl rfl rfl rfl rfl (fun _ => r_move rfl (ev_t rfl)) ?_
        refine WN.calm _ rfl rfl rfl rfl rfl (fun _ => r_move rfl (ev_t rfl)) ?_
        refine WN.calm _ rfl rfl rfl rfl rfl (fun _ => r_move rfl (ev_t rfl)) ?_
        refine WN.calm _ rfl rfl rfl rfl rfl (fun _ => r_nilCheck rfl (ev_t rfl)) ?_
        first | refine WN.calm _ rfl rfl rfl rfl rfl (fun _ => r_field0 rfl (ev_t rfl) fld_53_2) ?_ | refine WN.calm _ rfl rfl rfl rfl rfl (fun _ => r_fieldAt rfl (ev_t rfl) fld_53_2) ?_
        refine WN.calm _ rfl rfl rfl rfl rfl (fun _ => r_move rfl (ev_t rfl)) ?_
        refine WN.calm _ rfl rfl rfl rfl rfl (fun _ => r_nilCheck rfl (ev_t rfl)) ?_
        first | refine WN.calm _ rfl rfl rfl rfl rfl (fun _ => r_field0 rfl (ev_t rfl) fld_53_3) ?_ | refine WN.calm _ rfl rfl rfl rfl rfl (fun _ => r_fieldAt rfl (ev_t rfl) fld_53_3) ?_
        refine WN.held _ rfl rfl rfl rfl rfl hS7 (fun w' hS => r_loadAgg (vs := [_, _, _, _]) rfl (ev_t rfl) agg_36 size_36 (Blk.cellsL (h3.upd hS (by (try simp only [At, From, No, Grow, New]); omega)))) ?_
        refine WN.fork _ _ rfl rfl ?_ ?_
        · refine SO.val rfl rfl rfl rfl (r_load rfl (ev_t rfl) flat_3 (Blk.cell hB rfl)) ?_
          refine ⟨hS7, ?_⟩
          first | refine WN.calm _ rfl rfl rfl rfl rfl (fun _ => r_subN rfl ev_c (ev_t rfl) (by simp only [inK]; omega)) ?_ | refine WN.calm _ rfl rfl rfl rfl rfl (fun _ => r_sub rfl ev_c (ev_t rfl)) ?_
          refine WN.step _ rfl (SO.val rfl rfl rfl rfl (r_load rfl (ev_t rfl) flat_29 (Blk.cell hB rfl)) ?_)
          refine ⟨hS7, ?_⟩
          first | refine WN.calm _ rfl rfl rfl rfl rfl (fun _ => r_addN rfl (ev_t rfl) ev_c (by simp only [inK]; omega)) ?_ | refine WN.calm _ rfl rfl rfl rfl rfl (fun _ => r_add rfl (ev_t rfl) ev_c) ?_
          refine WN.calm _ rfl rfl rfl rfl rfl (fun _ => r_nilCheck rfl (ev_t rfl)) ?_
          first | refine WN.calm _ rfl rfl rfl rfl rfl (fun _ => r_field0 rfl (ev_t rfl) fld_53_2) ?_ | refine WN.calm _ rfl rfl rfl rfl rfl (fun _ => r_fieldAt rfl (ev_t rfl) fld_53_2) ?_
          refine WN.step _ rfl (SO.store rfl (ev_t rfl) (ev_t rfl) size_3 hB rfl rfl rfl rfl rfl ?_)
          intro w15 hu15 hB hz15
          have hs15 := hu15.size
          replace hS7 := Upd.trans hS7 hu15 (fun _ _ h => h)
          replace hU := hU.trans hu15 (by first | exact (fun _ _ h => h) | exact (fun _ _ h => h.elim) | (intro k hl hk; (try simp only [At, New, Grow, From, No] at hk ⊢); omega) | (intro k hl hk; first | exact hk.elim | exact .inl hk | exact .inr hk | (rcases hk with hk | hk; exact .inr hk; omega)))
          replace hD := hD.upd hu15 (by first | exact (fun _ _ _ h => h) | (intro k hk hl hS; simp only [At] at hS; rcases hk with hk | hk; have h9 := (hFb _ hk).2; omega; omega))
          replace h3 := h3.upd hu15 (by first | exact (fun h => h) | (intro h; first | (have h9 := (hFb _ h).1; omega) | (rcases h with h | h; have h9 := (hFb _ h).1; omega; omega) | (simp only [At] at h; omega)))
          refine ⟨hS7, ?_⟩
          refine WN.calm _ rfl rfl rfl rfl rfl (fun _ => r_nilCheck rfl (ev_t rfl)) ?_
          first | refine WN.calm _ rfl rfl rfl rfl rfl (fun _ => r_field0 rfl (ev_t rfl) fld_53_3) ?_ | refine WN.calm _ rfl rfl rfl rfl rfl (fun _ => r_fieldAt rfl (ev_t rfl) fld_53_3) ?_
          refine WN.step _ rfl (SO.store rfl (ev_t rfl) (ev_t rfl) size_29 hB rfl rfl rfl rfl rfl ?_)
          intro w16 hu16 hB hz16
          have hs16 := hu16.size
          replace hS7 := Upd.trans hS7 hu16 (fun _ _ h => h)
          replace hU := hU.trans hu16 (by first | exact (fun _ _ h => h) | exact (fun _ _ h => h.elim) | (intro k hl hk; (try simp only [At, New, Grow, From, No] at hk ⊢); omega) | (intro k hl hk; first | exact hk.elim | exact .inl hk | exact .inr hk | (rcases hk with hk | hk; exact .inr hk; omega)))
          replace hD := hD.upd hu16 (by first | exact (fun _ _ _ h => h) | (intro k hk hl hS; simp only [At] at hS; rcases hk with hk | hk; have h9 := (hFb _ hk).2; omega; omega))
          replace h3 := h3.upd hu16 (by first | exact (fun h => h) | (intro h; first | (have h9 := (hFb _ h).1; omega) | (rcases h with h | h; have h9 := (hFb _ h).1; omega; omega) | (simp only [At] at h; omega)))
          refine ⟨hS7, ?_⟩
          refine WN.calm _ rfl rfl rfl rfl rfl (fun _ => r_nilCheck rfl (ev_t rfl)) ?_
          first | refine WN.calm _ rfl rfl rfl rfl rfl (fun _ => r_field0 rfl (ev_t rfl) fld_53_4) ?_ | refine WN.calm _ rfl rfl rfl rfl rfl (fun _ => r_fieldAt rfl (ev_t rfl) fld_53_4) ?_
          refine WN.step _ rfl (SO.storeN (us := [_, _, _, _]) rfl (ev_t rfl) (ev_t rfl) size_36 hB (by simp [walC]) rfl rfl rfl rfl ?_)
          intro w17 hu17 hB hz9
          have hs17 := hu17.size
          try replace hS7 := Upd.trans hS7 hu17 (fun _ _ h => h)
          replace hU := hU.trans hu17 (by first | exact (fun _ _ h => h) | exact (fun _ _ h => h.elim) | (intro k hl hk; (try simp only [At, New, Grow, From, No] at hk ⊢); omega) | (intro k hl hk; first | exact hk.elim | exact .inl hk | exact .inr hk | (rcases hk with hk | hk; exact .inr hk; omega)))
          replace hD := hD.upd hu17 (by first | exact (fun _ _ _ h => h) | (intro k hk hl hS; simp only [At] at hS; rcases hk with hk | hk; have h9 := (hFb _ hk).2; omega; omega))
          replace h3 := h3.upd hu17 (by first | exact (fun h => h) | (intro h; first | (have h9 := (hFb _ h).1; omega) | (rcases h with h | h; have h9 := (hFb _ h).1; omega; omega) | (simp only [At] at h; omega)))
          refine ⟨trivial, ?_⟩
          refine WN.done ?_
          refine WX.keep [] trivial ?_
          refine WX.next ?_
          refine WC.seq ?_
          refine WC.region ?_
          refine WL.val rfl rfl rfl rfl (r_assign rfl ev_c) ?_
          refine WL.nil ?_
          refine WX.keep [(4, _)] ⟨rfl, trivial⟩ ?_
          refine WX.next ?_
          refine WC.ret ?_
          refine WX.retE1 rfl rfl ?_
          refine ⟨rfl, ?_, _, hD.mono (fun k hk hl => by rcases hk with hk | hk; exact .inl hk; exact .inr ⟨by omega, hl⟩), hD4, hU⟩
          rw [show ((1 - side : Nat) : Int) = 1 - (side : Int) by omega]
          exact hB
        · refine SO.val rfl rfl rfl rfl (r_load rfl (ev_t rfl) flat_29 (Blk.cell hB rfl)) ?_
          refine ⟨hS7, ?_⟩
          first | refine WN.calm _ rfl rfl rfl rfl rfl (fun _ => r_addN rfl (ev_t rfl) ev_c (by simp only [inK]; omega)) ?_ | refine WN.calm _ rfl rfl rfl rfl rfl (fun _ => r_add rfl (ev_t rfl) ev_c) ?_
          refine WN.step _ rfl (SO.val rfl rfl rfl rfl (r_load rfl (ev_t rfl) flat_3 (Blk.cell hB rfl)) ?_)
          refine ⟨hS7, ?_⟩
          first | refine WN.calm _ rfl rfl rfl rfl rfl (fun _ => r_subN rfl ev_c (ev_t rfl) (by simp only [inK]; omega)) ?_ | refine WN.calm _ rfl rfl rfl rfl rfl (fun _ => r_sub rfl ev_c (ev_t rfl)) ?_
          refine WN.calm _ rfl rfl rfl rfl rfl (fun _ => r_nilCheck rfl (ev_t rfl)) ?_
          first | refine WN.calm _ rfl rfl rfl rfl rfl (fun _ => r_field0 rfl (ev_t rfl) fld_53_2) ?_ | refine WN.calm _ rfl rfl rfl rfl rfl (fun _ => r_fieldAt rfl (ev_t rfl) fld_53_2) ?_
          refine WN.step _ rfl (SO.store rfl (ev_t rfl) (ev_t rfl) size_3 hB rfl rfl rfl rfl rfl ?_)
          intro w18 hu18 hB hz18
          have hs18 := hu18.size
          replace hS7 := Upd.trans hS7 hu18 (fun _ _ h => h)
          replace hU := hU.trans hu18 (by first | exact (fun _ _ h => h) | exact (fun _ _ h => h.elim) | (intro k hl hk; (try simp only [At, New, Grow, From, No] at hk ⊢); omega) | (intro k hl hk; first | exact hk.elim | exact .inl hk | exact .inr hk | (rcases hk with hk | hk; exact .inr hk; omega)))
          replace hD := hD.upd hu18 (by first | exact (fun _ _ _ h => h) | (intro k hk hl hS; simp only [At] at hS; rcases hk with hk | hk; have h9 := (hFb _ hk).2; omega; omega))
          replace h3 := h3.upd hu18 (by first | exact (fun h => h) | (intro h; first | (have h9 := (hFb _ h).1; omega) | (rcases h with h | h; have h9 := (hFb _ h).1; omega; omega) | (simp only [At] at h; omega)))
          refine ⟨hS7, ?_⟩
          refine WN.calm _ rfl rfl rfl rfl rfl (fun _ => r_nilCheck rfl (ev_t rfl)) ?_
          first | refine WN.calm _ rfl rfl rfl rfl rfl (fun _ => r_field0 rfl (ev_t rfl) fld_53_3) ?_ | refine WN.calm _ rfl rfl rfl rfl rfl (fun _ => r_fieldAt rfl (ev_t rfl) fld_53_3) ?_
          refine WN.step _ rfl (SO.store rfl (ev_t rfl) (ev_t rfl) size_29 hB rfl rfl rfl rfl rfl ?_)
          intro w19 hu19 hB hz19
          have hs19 := hu19.size
          replace hS7 := Upd.trans hS7 hu19 (fun _ _ h => h)
          replace hU := hU.trans hu19 (by first | exact (fun _ _ h => h) | exact (fun _ _ h => h.elim) | (intro k hl hk; (try simp only [At, New, Grow, From, No] at hk ⊢); omega) | (intro k hl hk; first | exact hk.elim | exact .inl hk | exact .inr hk | (rcases hk with hk | hk; exact .inr hk; omega)))
          replace hD := hD.upd hu19 (by first | exact (fun _ _ _ h => h) | (intro k hk hl hS; simp only [At] at hS; rcases hk with hk | hk; have h9 := (hFb _ hk).2; omega; omega))
          replace h3 := h3.upd hu19 (by first | exact (fun h => h) | (intro h; first | (have h9 := (hFb _ h).1; omega) | (rcases h with h | h; have h9 := (hFb _ h).1; omega; omega) | (simp only [At] at h; omega)))
          refine ⟨hS7, ?_⟩
          refine WN.calm _ rfl rfl rfl rfl rfl (fun _ => r_nilCheck rfl (ev_t rfl)) ?_
          first | refine WN.calm _ rfl rfl rfl rfl rfl (fun _ => r_field0 rfl (ev_t rfl) fld_53_4) ?_ | refine WN.calm _ rfl rfl rfl rfl rfl (fun _ => r_fieldAt rfl (ev_t rfl) fld_53_4) ?_
          refine WN.step _ rfl (SO.storeN (us := [_, _, _, _]) rfl (ev_t rfl) (ev_t rfl) size_36 hB (by simp [walC]) rfl rfl rfl rfl ?_)
          intro w20 hu20 hB hz9
          have hs20 := hu20.size
          try replace hS7 := Upd.trans hS7 hu20 (fun _ _ h => h)
          replace hU := hU.trans hu20 (by first | exact (fun _ _ h => h) | exact (fun _ _ h => h.elim) | (intro k hl hk; (try simp only [At, New, Grow, From, No] at hk ⊢); omega) | (intro k hl hk; first | exact hk.elim | exact .inl hk | exact .inr hk | (rcases hk with hk | hk; exact .inr hk; omega)))
          replace hD := hD.upd hu20 (by first | exact (fun _ _ _ h => h) | (intro k hk hl hS; simp only [At] at hS; rcases hk with hk | hk; have h9 := (hFb _ hk).2; omega; omega))
          replace h3 := h3.upd hu20 (by first | exact (fun h => h) | (intro h; first | (have h9 := (hFb _ h).1; omega) | (rcases h with h | h; have h9 := (hFb _ h).1; omega; omega) | (simp only [At] at h; omega)))
          refine ⟨trivial, ?_⟩
          refine WN.done ?_
          refine WX.keep [] trivial ?_
          refine WX.next ?_
          refine WC.seq ?_
          refine WC.region ?_
          refine WL.val rfl rfl rfl rfl (r_assign rfl ev_c) ?_
          refine WL.nil ?_
          refine WX.keep [(4, _)] ⟨rfl, trivial⟩ ?_
          refine WX.next ?_
          refine WC.ret ?_
          refine WX.retE1 rfl rfl ?_
          refine ⟨rfl, ?_, _, hD.mono (fun k hk hl => by rcases hk with hk | hk; exact .inl hk; exact .inr ⟨by omega, hl⟩), hD4, hU⟩
          rw [show ((1 - side : Nat) : Int) = 1 - (side : Int) by omega]
          exact hB
end Go.Proofs.Ytnjfhmlfpfkllaa
