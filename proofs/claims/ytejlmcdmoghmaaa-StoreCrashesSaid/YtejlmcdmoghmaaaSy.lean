/-
  law 15: the snapshot that a call means; any snapshots, without falls.
-/
import Derived.Test.YtejlmcdmoghmaaaStR
import Derived.Test.YtejlmcdmoghmaaaSx
namespace Go.Proofs.Ytejlmcdmoghmaaa
open Go
set_option linter.unusedSimpArgs false
set_option linter.unusedVariables false

set_option maxHeartbeats 1000000 in
theorem asnap_ok {w w0 : World} {a : ActS} {last : Nat} {As Ac : Option Addr} {cs cc nc : Nat} (hsv : a.sv = .slice As a.s.data.length cs) (hcv : a.cv = .slice Ac nc cc) (h : a.OK w0) (hl : a.s.data.length ≤ 3000) (hlast : last < 18446744073709551616)
    {H : Nat → Prop} (hr : Rd w H (.slice As a.s.data.length cs) a.s.data.length 1 (a.s.data.map U8)) :
    Ret Try.prog 31 #[.agg a.cells.toArray, .int .u64 (last : Int)] w fun v w' => ∃ A c n H', v = .agg #[.int .u64 ((snapA a last).idx : Int), .int .u64 ((snapA a last).term : Int), .slice A n c] ∧ Rd w' H' (.slice A n c) n 1 ((snapA a last).data.map U8) ∧ (∀ k, H' k → H k ∨ New w w' k) ∧ Upd No w w' := by
  have h1 := h.near
  have h2 := h.n
  have ecell : a.cells.toArray = #[.int .u8 a.kind, .int .u64 (a.s.idx : Int), .int .u64 (a.s.term : Int), .slice As a.s.data.length cs, .int .u8 a.near, .int .u16 a.n, .slice Ac nc cc] := by
    unfold ActS.cells
    rw [hsv, hcv]
  rw [ecell]
  replace hr := hr.bound
  refine enterRet (vs := [_, _]) (N := 37) Try.func31 rfl rfl rfl ?_
  have hU := Upd.refl No w
  refine WC.keep [(0, _), (1, _)] ⟨rfl, rfl, trivial⟩ ?_
  refine WC.seq ?_
  refine WC.region ?_
  refine WL.cons (SO.alloc rfl rfl rfl rfl (r_boxAgg rfl (ev_t rfl)) ?_)
  intro w1 hu1 hB1 hz1
  have hs1 := hu1.size
  replace hU := hU.trans hu1 (by first | exact (fun _ _ h => h) | exact (fun _ _ h => h.elim) | (intro k hl hk; (try simp only [At, New, Grow, From, No] at hk ⊢); omega) | (intro k hl hk; simp only [At, New, Grow, From, No] at *; omega))
  refine WL.cons (SO.alloc rfl rfl rfl rfl (r_alloc rfl zero_50) ?_)
  intro w2 hu2 hB2 hz2
  have hs2 := hu2.size
  replace hU := hU.trans hu2 (by first | exact (fun _ _ h => h) | exact (fun _ _ h => h.elim) | (intro k hl hk; (try simp only [At, New, Grow, From, No] at hk ⊢); omega) | (intro k hl hk; simp only [At, New, Grow, From, No] at *; omega))
  replace hB1 := hB1.updA hu2
  refine WL.nil ?_
  refine WX.keep [(1, _), (2, _), (4, _)] ⟨rfl, rfl, rfl, trivial⟩ ?_
  refine WX.next ?_
  refine WC.seq ?_
  refine WC.region ?_
  first | refine WL.val rfl rfl rfl rfl (r_field0 rfl (ev_t rfl) fld_56_1) ?_ | refine WL.val rfl rfl rfl rfl (r_fieldAt rfl (ev_t rfl) fld_56_1) ?_
  refine WL.val rfl rfl rfl rfl (r_loadAgg (vs := [_, _, _]) rfl (ev_t rfl) agg_50 size_50 (Blk.cellsP (us := [.int .u64 (a.s.idx : Int), .int .u64 (a.s.term : Int), .slice As a.s.data.length cs]) (off := 1) hB1 (by intro j v hj; match j, hj with | 0, hj => exact hj | 1, hj => exact hj | 2, hj => exact hj))) ?_
  refine WL.cons (SO.alloc rfl rfl rfl rfl (r_alloc rfl zero_50) ?_)
  intro w3 hu3 hB3 hz3
  have hs3 := hu3.size
  replace hU := hU.trans hu3 (by first | exact (fun _ _ h => h) | exact (fun _ _ h => h.elim) | (intro k hl hk; (try simp only [At, New, Grow, From, No] at hk ⊢); omega) | (intro k hl hk; simp only [At, New, Grow, From, No] at *; omega))
  replace hB1 := hB1.updA hu3
  replace hB2 := hB2.updA hu3
  refine WL.cons (SO.storeAll (us := [_, _, _]) rfl (ev_t rfl) (ev_t rfl) size_50 hB3 rfl rfl rfl rfl rfl ?_)
  intro w4 hu4 hB3 hz4
  have hs4 := hu4.size
  replace hU := hU.trans hu4 (by first | exact (fun _ _ h => h) | exact (fun _ _ h => h.elim) | (intro k hl hk; (try simp only [At, New, Grow, From, No] at hk ⊢); omega) | (intro k hl hk; simp only [At, New, Grow, From, No] at *; omega))
  replace hB1 := hB1.updA hu4
  replace hB2 := hB2.updA hu4
  refine WL.nil ?_
  refine WX.keep [(1, _), (2, _), (4, _), (5, _)] ⟨rfl, rfl, rfl, rfl, trivial⟩ ?_
  refine WX.next ?_
  refine WC.seq ?_
  refine WC.seq ?_
  refine WC.region ?_
  first | refine WL.val rfl rfl rfl rfl (r_field0 rfl (ev_t rfl) fld_56_2) ?_ | refine WL.val rfl rfl rfl rfl (r_fieldAt rfl (ev_t rfl) fld_56_2) ?_
  refine WL.val rfl rfl rfl rfl (r_load rfl (ev_t rfl) flat_5 (Blk.cell hB1 rfl)) ?_
  first | refine WL.val rfl rfl rfl rfl (r_remN rfl (ev_t rfl) ev_c (by omega) (by omega)) ?_ | refine WL.val rfl rfl rfl rfl (r_rem rfl (ev_t rfl) ev_c (by omega)) ?_
  refine WL.val rfl rfl rfl rfl (r_gtr rfl (ev_t rfl) ev_c) ?_
  refine WL.val rfl rfl rfl rfl (r_move rfl (ev_t rfl)) ?_
  refine WL.cases 12 rfl (fun hb2_4 => ?_) (fun hb2_4 => ?_)
  · try (exfalso; first | (simp at hb2_4; done) | (simp only [decide_eq_true_eq, decide_eq_false_iff_not, Bool.not_eq_true', Bool.not_eq_false', Bool.not_eq_true, Bool.not_eq_false] at hb2_4; omega) | omega)
    all_goals
     try simp only [decide_eq_true_eq, decide_eq_false_iff_not, Bool.not_eq_true', Bool.not_eq_false', Bool.not_eq_true, Bool.not_eq_false, Option.isNone_none, Option.isNone_some, Option.isSome_none, Option.isSome_some, ne_eq, Decidable.not_not] at hb2_4
     refine WL.val rfl rfl rfl rfl (r_move rfl (ev_t rfl)) ?_
     refine WL.val rfl rfl rfl rfl (r_lss rfl (ev_t rfl) ev_c) ?_
     refine WL.val rfl rfl rfl rfl (r_pickT rfl (ev_t rfl) (ev_t rfl)) ?_
     refine WL.nil ?_
     refine WX.keep [(1, _), (2, _), (4, _), (5, _), (15, _)] ⟨rfl, rfl, rfl, rfl, rfl, trivial⟩ ?_
     refine WX.next ?_
     refine WC.cond rfl (ev_t rfl) (fun hc2 => ?_) (fun hc2 => ?_)
     · try (exfalso; first | (simp at hc2; done) | (simp only [decide_eq_true_eq, decide_eq_false_iff_not, Bool.not_eq_true', Bool.not_eq_false', Bool.not_eq_true, Bool.not_eq_false] at hc2; omega) | omega)
       all_goals
        try simp only [decide_eq_true_eq, decide_eq_false_iff_not, Bool.not_eq_true', Bool.not_eq_false', Bool.not_eq_true, Bool.not_eq_false, Option.isNone_none, Option.isNone_some, Option.isSome_none, Option.isSome_some, ne_eq, Decidable.not_not] at hc2
        refine WC.region ?_
        refine WL.val rfl rfl rfl rfl (r_move rfl (ev_t rfl)) ?_
        first | refine WL.val rfl rfl rfl rfl (r_field0 rfl (ev_t rfl) fld_56_2) ?_ | refine WL.val rfl rfl rfl rfl (r_fieldAt rfl (ev_t rfl) fld_56_2) ?_
        refine WL.val rfl rfl rfl rfl (r_load rfl (ev_t rfl) flat_5 (Blk.cell hB1 rfl)) ?_
        first | refine WL.val rfl rfl rfl rfl (r_remN rfl (ev_t rfl) ev_c (by omega) (by omega)) ?_ | refine WL.val rfl rfl rfl rfl (r_rem rfl (ev_t rfl) ev_c (by omega)) ?_
        first | refine WL.val rfl rfl rfl rfl (r_convN rfl (ev_t rfl) some_5 int_48 (by simp only [inK]; omega)) ?_ | refine WL.val rfl rfl rfl rfl (r_conv rfl (ev_t rfl) some_5 int_48) ?_
        first | refine WL.val rfl rfl rfl rfl (r_addN rfl (ev_t rfl) (ev_t rfl) (by simp only [inK]; omega)) ?_ | refine WL.val rfl rfl rfl rfl (r_add rfl (ev_t rfl) (ev_t rfl)) ?_
        first | refine WL.val rfl rfl rfl rfl (r_subN rfl (ev_t rfl) ev_c (by simp only [inK]; omega)) ?_ | refine WL.val rfl rfl rfl rfl (r_sub rfl (ev_t rfl) ev_c) ?_
        first | refine WL.val rfl rfl rfl rfl (r_field0 rfl (ev_t rfl) fld_50_0) ?_ | refine WL.val rfl rfl rfl rfl (r_fieldAt rfl (ev_t rfl) fld_50_0) ?_
        refine WL.cons (SO.store rfl (ev_t rfl) (ev_t rfl) size_48 hB3 rfl rfl rfl rfl rfl ?_)
        intro w5 hu5 hB3 hz5
        have hs5 := hu5.size
        replace hU := hU.trans hu5 (by first | exact (fun _ _ h => h) | exact (fun _ _ h => h.elim) | (intro k hl hk; (try simp only [At, New, Grow, From, No] at hk ⊢); omega) | (intro k hl hk; simp only [At, New, Grow, From, No] at *; omega))
        replace hB1 := hB1.updA hu5
        replace hB2 := hB2.updA hu5
        refine WL.nil ?_
        refine WX.keep [(2, _), (4, _), (5, _)] ⟨rfl, rfl, rfl, trivial⟩ ?_
        have hi2 : (last : Int) + a.near % 4 - 1 = ((snapA a last).idx : Int) := by simp only [snapA]; rw [if_pos ⟨by omega, by omega⟩]; omega
        rw [hi2] at hB3
        replace hB3 : Blk w5 _ #[.int .u64 ((snapA a last).idx : Int), .int .u64 (a.s.term : Int), .slice As a.s.data.length cs] 50 := hB3
        refine WX.next ?_
        refine WC.seq ?_
        refine WC.seq ?_
        refine WC.region ?_
        first | refine WL.val rfl rfl rfl rfl (r_field0 rfl (ev_t rfl) fld_56_2) ?_ | refine WL.val rfl rfl rfl rfl (r_fieldAt rfl (ev_t rfl) fld_56_2) ?_
        refine WL.val rfl rfl rfl rfl (r_load rfl (ev_t rfl) flat_5 (Blk.cell hB1 rfl)) ?_
        refine WL.val rfl rfl rfl rfl (r_geq rfl (ev_t rfl) ev_c) ?_
        refine WL.nil ?_
        refine WX.keep [(2, _), (4, _), (5, _), (26, _)] ⟨rfl, rfl, rfl, rfl, trivial⟩ ?_
        refine WX.next ?_
        refine WC.cond rfl (ev_t rfl) (fun hc4 => ?_) (fun hc4 => ?_)
        · try (exfalso; first | (simp at hc4; done) | (simp only [decide_eq_true_eq, decide_eq_false_iff_not, Bool.not_eq_true', Bool.not_eq_false', Bool.not_eq_true, Bool.not_eq_false] at hc4; omega) | omega)
          all_goals
           try simp only [decide_eq_true_eq, decide_eq_false_iff_not, Bool.not_eq_true', Bool.not_eq_false', Bool.not_eq_true, Bool.not_eq_false, Option.isNone_none, Option.isNone_some, Option.isSome_none, Option.isSome_some, ne_eq, Decidable.not_not] at hc4
           refine WC.draws' (fun u0_ u1_ => Upd No u0_ u1_) (fun j => [0, 0, 0, 0, 1, 0, 0, 2, 0, 2].getD j 0) (.calm 0 (.calm 5 (.held 1 (.calm 2 (.calm 3 (.held 6 (.one 4 (.one 7 (.calm 8 (.one 9 (.done))))))))))) mixed (by kernel_rfl) (by repeat (first | with_reducible exact Deaf.body | with_reducible apply Deaf.then | with_reducible apply Deaf.block)) ?_
           intro w6 hu6
           have hz6 := congrArg Array.size hu6.2.2.2
           replace hu6 := Upd.of_draw hu6
           have hs6 := hu6.size
           replace hU := hU.trans hu6 (by first | exact (fun _ _ h => h) | exact (fun _ _ h => h.elim) | (intro k hl hk; (try simp only [At, New, Grow, From, No] at hk ⊢); omega) | (intro k hl hk; simp only [At, New, Grow, From, No] at *; omega))
           replace hB1 := hB1.updA hu6
           replace hB2 := hB2.updA hu6
           replace hB3 := hB3.updA hu6
           have hS5 := Upd.refl No w6
           first | refine WN.calm _ rfl rfl rfl rfl rfl (fun _ => r_field0 rfl (ev_t rfl) fld_56_3) ?_ | refine WN.calm _ rfl rfl rfl rfl rfl (fun _ => r_fieldAt rfl (ev_t rfl) fld_56_3) ?_
           first | refine WN.calm _ rfl rfl rfl rfl rfl (fun _ => r_field0 rfl (ev_t rfl) fld_50_2) ?_ | refine WN.calm _ rfl rfl rfl rfl rfl (fun _ => r_fieldAt rfl (ev_t rfl) fld_50_2) ?_
           refine WN.held _ rfl rfl rfl rfl rfl hS5 (fun w' hS => r_load rfl (ev_t rfl) flat_43 (Blk.cell (hB1.upd hS (fun h => h)) rfl)) ?_
           first | refine WN.calm _ rfl rfl rfl rfl rfl (fun _ => r_convN rfl (ev_t rfl) some_43 int_3 (by simp only [inK]; omega)) ?_ | refine WN.calm _ rfl rfl rfl rfl rfl (fun _ => r_conv rfl (ev_t rfl) some_43 int_3) ?_
           first | refine WN.calm _ rfl rfl rfl rfl rfl (fun _ => r_remN rfl (ev_t rfl) ev_c (by omega) (by omega)) ?_ | refine WN.calm _ rfl rfl rfl rfl rfl (fun _ => r_rem rfl (ev_t rfl) ev_c (by omega)) ?_
           refine WN.held _ rfl rfl rfl rfl rfl hS5 (fun w' hS => r_load rfl (ev_t rfl) flat_22 (Blk.cell (hB3.upd hS (fun h => h)) rfl)) ?_
           obtain ⟨m, hm, hm2⟩ : ∃ m : Nat, a.n % 2000 = (m : Int) ∧ m < 2000 := ⟨(a.n % 2000).toNat, by omega, by omega⟩
           rw [hm]
           refine WN.step _ rfl (SO.alloc rfl rfl rfl rfl (r_makeSlice (n := m) rfl (ev_t rfl) (ev_t rfl) row_22 (by omega) (by omega)) ?_)
           intro w7 hu7 hBm hzm
           have hq := Own.of_blk (F := At _) (n := m) (sz := 1) hBm rfl (by rw [rowCells_size]; omega) (le_maxLen (by omega))
           rw [zero_row] at hq
           have hs7 := hu7.size
           replace hS5 := Upd.transA hS5 hu7
           replace hU := hU.trans hu7 (by first | exact (fun _ _ h => h) | exact (fun _ _ h => h.elim) | (intro k hl hk; (try simp only [At, New, Grow, From, No] at hk ⊢); omega) | (intro k hl hk; simp only [At, New, Grow, From, No] at *; omega))
           replace hB1 := hB1.updA hu7
           replace hB2 := hB2.updA hu7
           replace hB3 := hB3.updA hu7
           refine ⟨hS5, ?_⟩
           refine WN.step _ rfl (SO.append hq (hr.upd hU (fun _ _ _ h => h)) row_22 (U8_one _) (le_maxLen (by omega)) (by omega) rfl (ev_t rfl) (ev_t rfl) rfl rfl rfl rfl ?_)
           intro v8 w8 hq hu8
           have hs8 := hu8.size
           try replace hS5 := Upd.transA hS5 hu8
           replace hU := hU.trans hu8 (by first | exact (fun _ _ h => h) | exact (fun _ _ h => h.elim) | (intro k hl hk; (try simp only [At, New, Grow, From, No] at hk ⊢); omega) | (intro k hl hk; simp only [At, New, Grow, From, No] at *; omega))
           replace hB1 := hB1.updA hu8
           replace hB2 := hB2.updA hu8
           replace hB3 := hB3.updA hu8
           refine ⟨trivial, ?_⟩
           obtain ⟨A8, c8, rfl, hc8⟩ := Own.form hq
           rw [← List.map_append] at hq
           first | refine WN.calm _ rfl rfl rfl rfl rfl (fun _ => r_field0 rfl (ev_t rfl) fld_50_2) ?_ | refine WN.calm _ rfl rfl rfl rfl rfl (fun _ => r_fieldAt rfl (ev_t rfl) fld_50_2) ?_
           refine WN.step _ rfl (SO.store rfl (ev_t rfl) (ev_t rfl) size_22 hB3 rfl rfl rfl rfl rfl ?_)
           intro w9 hu9 hB3 hz9
           have hs9 := hu9.size
           try replace hS5 := Upd.transA hS5 hu9
           replace hU := hU.trans hu9 (by first | exact (fun _ _ h => h) | exact (fun _ _ h => h.elim) | (intro k hl hk; (try simp only [At, New, Grow, From, No] at hk ⊢); omega) | (intro k hl hk; simp only [At, New, Grow, From, No] at *; omega))
           replace hB1 := hB1.updA hu9
           replace hB2 := hB2.updA hu9
           replace hq := hq.upd hu9 (by first | exact (fun _ _ _ h => h) | (intro k hk hl hS; simp only [At, Grow] at *; omega))
           refine ⟨trivial, ?_⟩
           refine WN.done ?_
           refine WX.keep [(4, _), (5, _)] ⟨rfl, rfl, trivial⟩ ?_
           have hdat : (snapA a last).data = List.replicate m 0 ++ a.s.data := by simp only [snapA]; rw [if_pos (by omega), hm, Int.toNat_natCast]
           rw [← hdat] at hq
           obtain ⟨A2, c2, n2, H2, hB3, hd2, hH2⟩ : ∃ A2 c2 n2 H2, Blk w9 _ #[.int .u64 ((snapA a last).idx : Int), .int .u64 (a.s.term : Int), .slice A2 n2 c2] 50 ∧ Rd w9 H2 (.slice A2 n2 c2) n2 1 ((snapA a last).data.map U8) ∧ (∀ k, H2 k → (H k ∧ k < w.heap.size) ∨ (w3.heap.size ≤ k ∧ k < w9.heap.size)) := ⟨_, _, _, _, hB3, (hq.rd (by omega)).bound, fun k hk => .inr (by have := hk.2; have := hk.1; simp only [At, New, Grow] at *; omega)⟩
           refine WX.next ?_
           refine WC.seq ?_
           refine WC.region ?_
           refine WL.val rfl rfl rfl rfl (r_loadAgg (vs := [_, _, _]) rfl (ev_t rfl) agg_50 size_50 (Blk.cellsL hB3)) ?_
           refine WL.cons (SO.storeAll (us := [_, _, _]) rfl (ev_t rfl) (ev_t rfl) size_50 hB2 rfl rfl rfl rfl rfl ?_)
           intro w10 hu10 hB2 hz10
           have hs10 := hu10.size
           replace hU := hU.trans hu10 (by first | exact (fun _ _ h => h) | exact (fun _ _ h => h.elim) | (intro k hl hk; (try simp only [At, New, Grow, From, No] at hk ⊢); omega) | (intro k hl hk; simp only [At, New, Grow, From, No] at *; omega))
           replace hB1 := hB1.updA hu10
           replace hB3 := hB3.updA hu10
           replace hd2 := hd2.upd hu10 (by first | exact (fun _ _ _ h => h) | (intro k hk hl hS; have h4 := hH2 k hk; simp only [At] at hS; omega))
           refine WL.nil ?_
           refine WX.keep [(4, _)] ⟨rfl, trivial⟩ ?_
           refine WX.next ?_
           refine WC.ret ?_
           refine WX.retC (vs := [_, _, _]) rfl rfl agg_50 size_50 (Blk.cellsL hB2) ?_
           exact ⟨A2, c2, n2, _, rfl, hd2, fun k hk => (hH2 k hk).elim (fun h => .inl h.1) (fun h => .inr ⟨by omega, by omega⟩), hU⟩
        · try (exfalso; first | (simp at hc4; done) | (simp only [decide_eq_true_eq, decide_eq_false_iff_not, Bool.not_eq_true', Bool.not_eq_false', Bool.not_eq_true, Bool.not_eq_false] at hc4; omega) | omega)
          all_goals
           try simp only [decide_eq_true_eq, decide_eq_false_iff_not, Bool.not_eq_true', Bool.not_eq_false', Bool.not_eq_true, Bool.not_eq_false, Option.isNone_none, Option.isNone_some, Option.isSome_none, Option.isSome_some, ne_eq, Decidable.not_not] at hc4
           have hdat : (snapA a last).data = a.s.data := by simp only [snapA]; rw [if_neg (by omega)]
           obtain ⟨A2, c2, n2, H2, hB3, hd2, hH2⟩ : ∃ A2 c2 n2 H2, Blk w5 _ #[.int .u64 ((snapA a last).idx : Int), .int .u64 (a.s.term : Int), .slice A2 n2 c2] 50 ∧ Rd w5 H2 (.slice A2 n2 c2) n2 1 ((snapA a last).data.map U8) ∧ (∀ k, H2 k → (H k ∧ k < w.heap.size) ∨ (w3.heap.size ≤ k ∧ k < w5.heap.size)) := ⟨_, _, _, _, hB3, by rw [hdat]; exact (hr.upd hU (fun _ _ _ h => h)), fun k hk => .inl hk⟩
           refine WC.skip ?_
           refine WX.next ?_
           refine WC.seq ?_
           refine WC.region ?_
           refine WL.val rfl rfl rfl rfl (r_loadAgg (vs := [_, _, _]) rfl (ev_t rfl) agg_50 size_50 (Blk.cellsL hB3)) ?_
           refine WL.cons (SO.storeAll (us := [_, _, _]) rfl (ev_t rfl) (ev_t rfl) size_50 hB2 rfl rfl rfl rfl rfl ?_)
           intro w11 hu11 hB2 hz11
           have hs11 := hu11.size
           replace hU := hU.trans hu11 (by first | exact (fun _ _ h => h) | exact (fun _ _ h => h.elim) | (intro k hl hk; (try simp only [At, New, Grow, From, No] at hk ⊢); omega) | (intro k hl hk; simp only [At, New, Grow, From, No] at *; omega))
           replace hB1 := hB1.updA hu11
           replace hB3 := hB3.updA hu11
           replace hd2 := hd2.upd hu11 (by first | exact (fun _ _ _ h => h) | (intro k hk hl hS; have h4 := hH2 k hk; simp only [At] at hS; omega))
           refine WL.nil ?_
           refine WX.keep [(4, _)] ⟨rfl, trivial⟩ ?_
           refine WX.next ?_
           refine WC.ret ?_
           refine WX.retC (vs := [_, _, _]) rfl rfl agg_50 size_50 (Blk.cellsL hB2) ?_
           exact ⟨A2, c2, n2, _, rfl, hd2, fun k hk => (hH2 k hk).elim (fun h => .inl h.1) (fun h => .inr ⟨by omega, by omega⟩), hU⟩
     · try (exfalso; first | (simp at hc2; done) | (simp only [decide_eq_true_eq, decide_eq_false_iff_not, Bool.not_eq_true', Bool.not_eq_false', Bool.not_eq_true, Bool.not_eq_false] at hc2; omega) | omega)
       all_goals
        try simp only [decide_eq_true_eq, decide_eq_false_iff_not, Bool.not_eq_true', Bool.not_eq_false', Bool.not_eq_true, Bool.not_eq_false, Option.isNone_none, Option.isNone_some, Option.isSome_none, Option.isSome_some, ne_eq, Decidable.not_not] at hc2
        have hi2 : (a.s.idx : Int) = ((snapA a last).idx : Int) := by simp only [snapA]; rw [if_neg (by omega)]
        replace hB3 : Blk w4 _ #[.int .u64 (a.s.idx : Int), .int .u64 (a.s.term : Int), .slice As a.s.data.length cs] 50 := hB3
        rw [hi2] at hB3
        refine WC.skip ?_
        refine WX.next ?_
        refine WC.seq ?_
        refine WC.seq ?_
        refine WC.region ?_
        first | refine WL.val rfl rfl rfl rfl (r_field0 rfl (ev_t rfl) fld_56_2) ?_ | refine WL.val rfl rfl rfl rfl (r_fieldAt rfl (ev_t rfl) fld_56_2) ?_
        refine WL.val rfl rfl rfl rfl (r_load rfl (ev_t rfl) flat_5 (Blk.cell hB1 rfl)) ?_
        refine WL.val rfl rfl rfl rfl (r_geq rfl (ev_t rfl) ev_c) ?_
        refine WL.nil ?_
        refine WX.keep [(2, _), (4, _), (5, _), (26, _)] ⟨rfl, rfl, rfl, rfl, trivial⟩ ?_
        refine WX.next ?_
        refine WC.cond rfl (ev_t rfl) (fun hc4 => ?_) (fun hc4 => ?_)
        · try (exfalso; first | (simp at hc4; done) | (simp only [decide_eq_true_eq, decide_eq_false_iff_not, Bool.not_eq_true', Bool.not_eq_false', Bool.not_eq_true, Bool.not_eq_false] at hc4; omega) | omega)
          all_goals
           try simp only [decide_eq_true_eq, decide_eq_false_iff_not, Bool.not_eq_true', Bool.not_eq_false', Bool.not_eq_true, Bool.not_eq_false, Option.isNone_none, Option.isNone_some, Option.isSome_none, Option.isSome_some, ne_eq, Decidable.not_not] at hc4
           refine WC.draws' (fun u0_ u1_ => Upd No u0_ u1_) (fun j => [0, 0, 0, 0, 1, 0, 0, 2, 0, 2].getD j 0) (.calm 0 (.calm 5 (.held 1 (.calm 2 (.calm 3 (.held 6 (.one 4 (.one 7 (.calm 8 (.one 9 (.done))))))))))) mixed (by kernel_rfl) (by repeat (first | with_reducible exact Deaf.body | with_reducible apply Deaf.then | with_reducible apply Deaf.block)) ?_
           intro w12 hu12
           have hz12 := congrArg Array.size hu12.2.2.2
           replace hu12 := Upd.of_draw hu12
           have hs12 := hu12.size
           replace hU := hU.trans hu12 (by first | exact (fun _ _ h => h) | exact (fun _ _ h => h.elim) | (intro k hl hk; (try simp only [At, New, Grow, From, No] at hk ⊢); omega) | (intro k hl hk; simp only [At, New, Grow, From, No] at *; omega))
           replace hB1 := hB1.updA hu12
           replace hB2 := hB2.updA hu12
           replace hB3 := hB3.updA hu12
           have hS5 := Upd.refl No w12
           first | refine WN.calm _ rfl rfl rfl rfl rfl (fun _ => r_field0 rfl (ev_t rfl) fld_56_3) ?_ | refine WN.calm _ rfl rfl rfl rfl rfl (fun _ => r_fieldAt rfl (ev_t rfl) fld_56_3) ?_
           first | refine WN.calm _ rfl rfl rfl rfl rfl (fun _ => r_field0 rfl (ev_t rfl) fld_50_2) ?_ | refine WN.calm _ rfl rfl rfl rfl rfl (fun _ => r_fieldAt rfl (ev_t rfl) fld_50_2) ?_
           refine WN.held _ rfl rfl rfl rfl rfl hS5 (fun w' hS => r_load rfl (ev_t rfl) flat_43 (Blk.cell (hB1.upd hS (fun h => h)) rfl)) ?_
           first | refine WN.calm _ rfl rfl rfl rfl rfl (fun _ => r_convN rfl (ev_t rfl) some_43 int_3 (by simp only [inK]; omega)) ?_ | refine WN.calm _ rfl rfl rfl rfl rfl (fun _ => r_conv rfl (ev_t rfl) some_43 int_3) ?_
           first | refine WN.calm _ rfl rfl rfl rfl rfl (fun _ => r_remN rfl (ev_t rfl) ev_c (by omega) (by omega)) ?_ | refine WN.calm _ rfl rfl rfl rfl rfl (fun _ => r_rem rfl (ev_t rfl) ev_c (by omega)) ?_
           refine WN.held _ rfl rfl rfl rfl rfl hS5 (fun w' hS => r_load rfl (ev_t rfl) flat_22 (Blk.cell (hB3.upd hS (fun h => h)) rfl)) ?_
           obtain ⟨m, hm, hm2⟩ : ∃ m : Nat, a.n % 2000 = (m : Int) ∧ m < 2000 := ⟨(a.n % 2000).toNat, by omega, by omega⟩
           rw [hm]
           refine WN.step _ rfl (SO.alloc rfl rfl rfl rfl (r_makeSlice (n := m) rfl (ev_t rfl) (ev_t rfl) row_22 (by omega) (by omega)) ?_)
           intro w13 hu13 hBm hzm
           have hq := Own.of_blk (F := At _) (n := m) (sz := 1) hBm rfl (by rw [rowCells_size]; omega) (le_maxLen (by omega))
           rw [zero_row] at hq
           have hs13 := hu13.size
           replace hS5 := Upd.transA hS5 hu13
           replace hU := hU.trans hu13 (by first | exact (fun _ _ h => h) | exact (fun _ _ h => h.elim) | (intro k hl hk; (try simp only [At, New, Grow, From, No] at hk ⊢); omega) | (intro k hl hk; simp only [At, New, Grow, From, No] at *; omega))
           replace hB1 := hB1.updA hu13
           replace hB2 := hB2.updA hu13
           replace hB3 := hB3.updA hu13
           refine ⟨hS5, ?_⟩
           refine WN.step _ rfl (SO.append hq (hr.upd hU (fun _ _ _ h => h)) row_22 (U8_one _) (le_maxLen (by omega)) (by omega) rfl (ev_t rfl) (ev_t rfl) rfl rfl rfl rfl ?_)
           intro v14 w14 hq hu14
           have hs14 := hu14.size
           try replace hS5 := Upd.transA hS5 hu14
           replace hU := hU.trans hu14 (by first | exact (fun _ _ h => h) | exact (fun _ _ h => h.elim) | (intro k hl hk; (try simp only [At, New, Grow, From, No] at hk ⊢); omega) | (intro k hl hk; simp only [At, New, Grow, From, No] at *; omega))
           replace hB1 := hB1.updA hu14
           replace hB2 := hB2.updA hu14
           replace hB3 := hB3.updA hu14
           refine ⟨trivial, ?_⟩
           obtain ⟨A14, c14, rfl, hc14⟩ := Own.form hq
           rw [← List.map_append] at hq
           first | refine WN.calm _ rfl rfl rfl rfl rfl (fun _ => r_field0 rfl (ev_t rfl) fld_50_2) ?_ | refine WN.calm _ rfl rfl rfl rfl rfl (fun _ => r_fieldAt rfl (ev_t rfl) fld_50_2) ?_
           refine WN.step _ rfl (SO.store rfl (ev_t rfl) (ev_t rfl) size_22 hB3 rfl rfl rfl rfl rfl ?_)
           intro w15 hu15 hB3 hz15
           have hs15 := hu15.size
           try replace hS5 := Upd.transA hS5 hu15
           replace hU := hU.trans hu15 (by first | exact (fun _ _ h => h) | exact (fun _ _ h => h.elim) | (intro k hl hk; (try simp only [At, New, Grow, From, No] at hk ⊢); omega) | (intro k hl hk; simp only [At, New, Grow, From, No] at *; omega))
           replace hB1 := hB1.updA hu15
           replace hB2 := hB2.updA hu15
           replace hq := hq.upd hu15 (by first | exact (fun _ _ _ h => h) | (intro k hk hl hS; simp only [At, Grow] at *; omega))
           refine ⟨trivial, ?_⟩
           refine WN.done ?_
           refine WX.keep [(4, _), (5, _)] ⟨rfl, rfl, trivial⟩ ?_
           have hdat : (snapA a last).data = List.replicate m 0 ++ a.s.data := by simp only [snapA]; rw [if_pos (by omega), hm, Int.toNat_natCast]
           rw [← hdat] at hq
           obtain ⟨A2, c2, n2, H2, hB3, hd2, hH2⟩ : ∃ A2 c2 n2 H2, Blk w15 _ #[.int .u64 ((snapA a last).idx : Int), .int .u64 (a.s.term : Int), .slice A2 n2 c2] 50 ∧ Rd w15 H2 (.slice A2 n2 c2) n2 1 ((snapA a last).data.map U8) ∧ (∀ k, H2 k → (H k ∧ k < w.heap.size) ∨ (w3.heap.size ≤ k ∧ k < w15.heap.size)) := ⟨_, _, _, _, hB3, (hq.rd (by omega)).bound, fun k hk => .inr (by have := hk.2; have := hk.1; simp only [At, New, Grow] at *; omega)⟩
           refine WX.next ?_
           refine WC.seq ?_
           refine WC.region ?_
           refine WL.val rfl rfl rfl rfl (r_loadAgg (vs := [_, _, _]) rfl (ev_t rfl) agg_50 size_50 (Blk.cellsL hB3)) ?_
           refine WL.cons (SO.storeAll (us := [_, _, _]) rfl (ev_t rfl) (ev_t rfl) size_50 hB2 rfl rfl rfl rfl rfl ?_)
           intro w16 hu16 hB2 hz16
           have hs16 := hu16.size
           replace hU := hU.trans hu16 (by first | exact (fun _ _ h => h) | exact (fun _ _ h => h.elim) | (intro k hl hk; (try simp only [At, New, Grow, From, No] at hk ⊢); omega) | (intro k hl hk; simp only [At, New, Grow, From, No] at *; omega))
           replace hB1 := hB1.updA hu16
           replace hB3 := hB3.updA hu16
           replace hd2 := hd2.upd hu16 (by first | exact (fun _ _ _ h => h) | (intro k hk hl hS; have h4 := hH2 k hk; simp only [At] at hS; omega))
           refine WL.nil ?_
           refine WX.keep [(4, _)] ⟨rfl, trivial⟩ ?_
           refine WX.next ?_
           refine WC.ret ?_
           refine WX.retC (vs := [_, _, _]) rfl rfl agg_50 size_50 (Blk.cellsL hB2) ?_
           exact ⟨A2, c2, n2, _, rfl, hd2, fun k hk => (hH2 k hk).elim (fun h => .inl h.1) (fun h => .inr ⟨by omega, by omega⟩), hU⟩
        · try (exfalso; first | (simp at hc4; done) | (simp only [decide_eq_true_eq, decide_eq_false_iff_not, Bool.not_eq_true', Bool.not_eq_false', Bool.not_eq_true, Bool.not_eq_false] at hc4; omega) | omega)
          all_goals
           try simp only [decide_eq_true_eq, decide_eq_false_iff_not, Bool.not_eq_true', Bool.not_eq_false', Bool.not_eq_true, Bool.not_eq_false, Option.isNone_none, Option.isNone_some, Option.isSome_none, Option.isSome_some, ne_eq, Decidable.not_not] at hc4
           have hdat : (snapA a last).data = a.s.data := by simp only [snapA]; rw [if_neg (by omega)]
           obtain ⟨A2, c2, n2, H2, hB3, hd2, hH2⟩ : ∃ A2 c2 n2 H2, Blk w4 _ #[.int .u64 ((snapA a last).idx : Int), .int .u64 (a.s.term : Int), .slice A2 n2 c2] 50 ∧ Rd w4 H2 (.slice A2 n2 c2) n2 1 ((snapA a last).data.map U8) ∧ (∀ k, H2 k → (H k ∧ k < w.heap.size) ∨ (w3.heap.size ≤ k ∧ k < w4.heap.size)) := ⟨_, _, _, _, hB3, by rw [hdat]; exact (hr.upd hU (fun _ _ _ h => h)), fun k hk => .inl hk⟩
           refine WC.skip ?_
           refine WX.next ?_
           refine WC.seq ?_
           refine WC.region ?_
           refine WL.val rfl rfl rfl rfl (r_loadAgg (vs := [_, _, _]) rfl (ev_t rfl) agg_50 size_50 (Blk.cellsL hB3)) ?_
           refine WL.cons (SO.storeAll (us := [_, _, _]) rfl (ev_t rfl) (ev_t rfl) size_50 hB2 rfl rfl rfl rfl rfl ?_)
           intro w17 hu17 hB2 hz17
           have hs17 := hu17.size
           replace hU := hU.trans hu17 (by first | exact (fun _ _ h => h) | exact (fun _ _ h => h.elim) | (intro k hl hk; (try simp only [At, New, Grow, From, No] at hk ⊢); omega) | (intro k hl hk; simp only [At, New, Grow, From, No] at *; omega))
           replace hB1 := hB1.updA hu17
           replace hB3 := hB3.updA hu17
           replace hd2 := hd2.upd hu17 (by first | exact (fun _ _ _ h => h) | (intro k hk hl hS; have h4 := hH2 k hk; simp only [At] at hS; omega))
           refine WL.nil ?_
           refine WX.keep [(4, _)] ⟨rfl, trivial⟩ ?_
           refine WX.next ?_
           refine WC.ret ?_
           refine WX.retC (vs := [_, _, _]) rfl rfl agg_50 size_50 (Blk.cellsL hB2) ?_
           exact ⟨A2, c2, n2, _, rfl, hd2, fun k hk => (hH2 k hk).elim (fun h => .inl h.1) (fun h => .inr ⟨by omega, by omega⟩), hU⟩
  · try (exfalso; first | (simp at hb2_4; done) | (simp only [decide_eq_true_eq, decide_eq_false_iff_not, Bool.not_eq_true', Bool.not_eq_false', Bool.not_eq_true, Bool.not_eq_false] at hb2_4; omega) | omega)
    all_goals
     try simp only [decide_eq_true_eq, decide_eq_false_iff_not, Bool.not_eq_true', Bool.not_eq_false', Bool.not_eq_true, Bool.not_eq_false, Option.isNone_none, Option.isNone_some, Option.isSome_none, Option.isSome_some, ne_eq, Decidable.not_not] at hb2_4
     refine WL.skip rfl rfl rfl ?_
     refine WL.skip rfl rfl rfl ?_
     refine WL.val rfl rfl rfl rfl (r_pickF rfl (ev_t rfl) ev_c) ?_
     refine WL.nil ?_
     refine WX.keep [(1, _), (2, _), (4, _), (5, _), (15, _)] ⟨rfl, rfl, rfl, rfl, rfl, trivial⟩ ?_
     refine WX.next ?_
     refine WC.cond_false rfl (ev_t rfl) ?_
     have hi2 : (a.s.idx : Int) = ((snapA a last).idx : Int) := by simp only [snapA]; rw [if_neg (by omega)]
     replace hB3 : Blk w4 _ #[.int .u64 (a.s.idx : Int), .int .u64 (a.s.term : Int), .slice As a.s.data.length cs] 50 := hB3
     rw [hi2] at hB3
     refine WC.skip ?_
     refine WX.next ?_
     refine WC.seq ?_
     refine WC.seq ?_
     refine WC.region ?_
     first | refine WL.val rfl rfl rfl rfl (r_field0 rfl (ev_t rfl) fld_56_2) ?_ | refine WL.val rfl rfl rfl rfl (r_fieldAt rfl (ev_t rfl) fld_56_2) ?_
     refine WL.val rfl rfl rfl rfl (r_load rfl (ev_t rfl) flat_5 (Blk.cell hB1 rfl)) ?_
     refine WL.val rfl rfl rfl rfl (r_geq rfl (ev_t rfl) ev_c) ?_
     refine WL.nil ?_
     refine WX.keep [(2, _), (4, _), (5, _), (26, _)] ⟨rfl, rfl, rfl, rfl, trivial⟩ ?_
     refine WX.next ?_
     refine WC.cond rfl (ev_t rfl) (fun hc4 => ?_) (fun hc4 => ?_)
     · try (exfalso; first | (simp at hc4; done) | (simp only [decide_eq_true_eq, decide_eq_false_iff_not, Bool.not_eq_true', Bool.not_eq_false', Bool.not_eq_true, Bool.not_eq_false] at hc4; omega) | omega)
       all_goals
        try simp only [decide_eq_true_eq, decide_eq_false_iff_not, Bool.not_eq_true', Bool.not_eq_false', Bool.not_eq_true, Bool.not_eq_false, Option.isNone_none, Option.isNone_some, Option.isSome_none, Option.isSome_some, ne_eq, Decidable.not_not] at hc4
        refine WC.draws' (fun u0_ u1_ => Upd No u0_ u1_) (fun j => [0, 0, 0, 0, 1, 0, 0, 2, 0, 2].getD j 0) (.calm 0 (.calm 5 (.held 1 (.calm 2 (.calm 3 (.held 6 (.one 4 (.one 7 (.calm 8 (.one 9 (.done))))))))))) mixed (by kernel_rfl) (by repeat (first | with_reducible exact Deaf.body | with_reducible apply Deaf.then | with_reducible apply Deaf.block)) ?_
        intro w18 hu18
        have hz18 := congrArg Array.size hu18.2.2.2
        replace hu18 := Upd.of_draw hu18
        have hs18 := hu18.size
        replace hU := hU.trans hu18 (by first | exact (fun _ _ h => h) | exact (fun _ _ h => h.elim) | (intro k hl hk; (try simp only [At, New, Grow, From, No] at hk ⊢); omega) | (intro k hl hk; simp only [At, New, Grow, From, No] at *; omega))
        replace hB1 := hB1.updA hu18
        replace hB2 := hB2.updA hu18
        replace hB3 := hB3.updA hu18
        have hS5 := Upd.refl No w18
        first | refine WN.calm _ rfl rfl rfl rfl rfl (fun _ => r_field0 rfl (ev_t rfl) fld_56_3) ?_ | refine WN.calm _ rfl rfl rfl rfl rfl (fun _ => r_fieldAt rfl (ev_t rfl) fld_56_3) ?_
        first | refine WN.calm _ rfl rfl rfl rfl rfl (fun _ => r_field0 rfl (ev_t rfl) fld_50_2) ?_ | refine WN.calm _ rfl rfl rfl rfl rfl (fun _ => r_fieldAt rfl (ev_t rfl) fld_50_2) ?_
        refine WN.held _ rfl rfl rfl rfl rfl hS5 (fun w' hS => r_load rfl (ev_t rfl) flat_43 (Blk.cell (hB1.upd hS (fun h => h)) rfl)) ?_
        first | refine WN.calm _ rfl rfl rfl rfl rfl (fun _ => r_convN rfl (ev_t rfl) some_43 int_3 (by simp only [inK]; omega)) ?_ | refine WN.calm _ rfl rfl rfl rfl rfl (fun _ => r_conv rfl (ev_t rfl) some_43 int_3) ?_
        first | refine WN.calm _ rfl rfl rfl rfl rfl (fun _ => r_remN rfl (ev_t rfl) ev_c (by omega) (by omega)) ?_ | refine WN.calm _ rfl rfl rfl rfl rfl (fun _ => r_rem rfl (ev_t rfl) ev_c (by omega)) ?_
        refine WN.held _ rfl rfl rfl rfl rfl hS5 (fun w' hS => r_load rfl (ev_t rfl) flat_22 (Blk.cell (hB3.upd hS (fun h => h)) rfl)) ?_
        obtain ⟨m, hm, hm2⟩ : ∃ m : Nat, a.n % 2000 = (m : Int) ∧ m < 2000 := ⟨(a.n % 2000).toNat, by omega, by omega⟩
        rw [hm]
        refine WN.step _ rfl (SO.alloc rfl rfl rfl rfl (r_makeSlice (n := m) rfl (ev_t rfl) (ev_t rfl) row_22 (by omega) (by omega)) ?_)
        intro w19 hu19 hBm hzm
        have hq := Own.of_blk (F := At _) (n := m) (sz := 1) hBm rfl (by rw [rowCells_size]; omega) (le_maxLen (by omega))
        rw [zero_row] at hq
        have hs19 := hu19.size
        replace hS5 := Upd.transA hS5 hu19
        replace hU := hU.trans hu19 (by first | exact (fun _ _ h => h) | exact (fun _ _ h => h.elim) | (intro k hl hk; (try simp only [At, New, Grow, From, No] at hk ⊢); omega) | (intro k hl hk; simp only [At, New, Grow, From, No] at *; omega))
        replace hB1 := hB1.updA hu19
        replace hB2 := hB2.updA hu19
        replace hB3 := hB3.updA hu19
        refine ⟨hS5, ?_⟩
        refine WN.step _ rfl (SO.append hq (hr.upd hU (fun _ _ _ h => h)) row_22 (U8_one _) (le_maxLen (by omega)) (by omega) rfl (ev_t rfl) (ev_t rfl) rfl rfl rfl rfl ?_)
        intro v20 w20 hq hu20
        have hs20 := hu20.size
        try replace hS5 := Upd.transA hS5 hu20
        replace hU := hU.trans hu20 (by first | exact (fun _ _ h => h) | exact (fun _ _ h => h.elim) | (intro k hl hk; (try simp only [At, New, Grow, From, No] at hk ⊢); omega) | (intro k hl hk; simp only [At, New, Grow, From, No] at *; omega))
        replace hB1 := hB1.updA hu20
        replace hB2 := hB2.updA hu20
        replace hB3 := hB3.updA hu20
        refine ⟨trivial, ?_⟩
        obtain ⟨A20, c20, rfl, hc20⟩ := Own.form hq
        rw [← List.map_append] at hq
        first | refine WN.calm _ rfl rfl rfl rfl rfl (fun _ => r_field0 rfl (ev_t rfl) fld_50_2) ?_ | refine WN.calm _ rfl rfl rfl rfl rfl (fun _ => r_fieldAt rfl (ev_t rfl) fld_50_2) ?_
        refine WN.step _ rfl (SO.store rfl (ev_t rfl) (ev_t rfl) size_22 hB3 rfl rfl rfl rfl rfl ?_)
        intro w21 hu21 hB3 hz21
        have hs21 := hu21.size
        try replace hS5 := Upd.transA hS5 hu21
        replace hU := hU.trans hu21 (by first | exact (fun _ _ h => h) | exact (fun _ _ h => h.elim) | (intro k hl hk; (try simp only [At, New, Grow, From, No] at hk ⊢); omega) | (intro k hl hk; simp only [At, New, Grow, From, No] at *; omega))
        replace hB1 := hB1.updA hu21
        replace hB2 := hB2.updA hu21
        replace hq := hq.upd hu21 (by first | exact (fun _ _ _ h => h) | (intro k hk hl hS; simp only [At, Grow] at *; omega))
        refine ⟨trivial, ?_⟩
        refine WN.done ?_
        refine WX.keep [(4, _), (5, _)] ⟨rfl, rfl, trivial⟩ ?_
        have hdat : (snapA a last).data = List.replicate m 0 ++ a.s.data := by simp only [snapA]; rw [if_pos (by omega), hm, Int.toNat_natCast]
        rw [← hdat] at hq
        obtain ⟨A2, c2, n2, H2, hB3, hd2, hH2⟩ : ∃ A2 c2 n2 H2, Blk w21 _ #[.int .u64 ((snapA a last).idx : Int), .int .u64 (a.s.term : Int), .slice A2 n2 c2] 50 ∧ Rd w21 H2 (.slice A2 n2 c2) n2 1 ((snapA a last).data.map U8) ∧ (∀ k, H2 k → (H k ∧ k < w.heap.size) ∨ (w3.heap.size ≤ k ∧ k < w21.heap.size)) := ⟨_, _, _, _, hB3, (hq.rd (by omega)).bound, fun k hk => .inr (by have := hk.2; have := hk.1; simp only [At, New, Grow] at *; omega)⟩
        refine WX.next ?_
        refine WC.seq ?_
        refine WC.region ?_
        refine WL.val rfl rfl rfl rfl (r_loadAgg (vs := [_, _, _]) rfl (ev_t rfl) agg_50 size_50 (Blk.cellsL hB3)) ?_
        refine WL.cons (SO.storeAll (us := [_, _, _]) rfl (ev_t rfl) (ev_t rfl) size_50 hB2 rfl rfl rfl rfl rfl ?_)
        intro w22 hu22 hB2 hz22
        have hs22 := hu22.size
        replace hU := hU.trans hu22 (by first | exact (fun _ _ h => h) | exact (fun _ _ h => h.elim) | (intro k hl hk; (try simp only [At, New, Grow, From, No] at hk ⊢); omega) | (intro k hl hk; simp only [At, New, Grow, From, No] at *; omega))
        replace hB1 := hB1.updA hu22
        replace hB3 := hB3.updA hu22
        replace hd2 := hd2.upd hu22 (by first | exact (fun _ _ _ h => h) | (intro k hk hl hS; have h4 := hH2 k hk; simp only [At] at hS; omega))
        refine WL.nil ?_
        refine WX.keep [(4, _)] ⟨rfl, trivial⟩ ?_
        refine WX.next ?_
        refine WC.ret ?_
        refine WX.retC (vs := [_, _, _]) rfl rfl agg_50 size_50 (Blk.cellsL hB2) ?_
        exact ⟨A2, c2, n2, _, rfl, hd2, fun k hk => (hH2 k hk).elim (fun h => .inl h.1) (fun h => .inr ⟨by omega, by omega⟩), hU⟩
     · try (exfalso; first | (simp at hc4; done) | (simp only [decide_eq_true_eq, decide_eq_false_iff_not, Bool.not_eq_true', Bool.not_eq_false', Bool.not_eq_true, Bool.not_eq_false] at hc4; omega) | omega)
       all_goals
        try simp only [decide_eq_true_eq, decide_eq_false_iff_not, Bool.not_eq_true', Bool.not_eq_false', Bool.not_eq_true, Bool.not_eq_false, Option.isNone_none, Option.isNone_some, Option.isSome_none, Option.isSome_some, ne_eq, Decidable.not_not] at hc4
        have hdat : (snapA a last).data = a.s.data := by simp only [snapA]; rw [if_neg (by omega)]
        obtain ⟨A2, c2, n2, H2, hB3, hd2, hH2⟩ : ∃ A2 c2 n2 H2, Blk w4 _ #[.int .u64 ((snapA a last).idx : Int), .int .u64 (a.s.term : Int), .slice A2 n2 c2] 50 ∧ Rd w4 H2 (.slice A2 n2 c2) n2 1 ((snapA a last).data.map U8) ∧ (∀ k, H2 k → (H k ∧ k < w.heap.size) ∨ (w3.heap.size ≤ k ∧ k < w4.heap.size)) := ⟨_, _, _, _, hB3, by rw [hdat]; exact (hr.upd hU (fun _ _ _ h => h)), fun k hk => .inl hk⟩
        refine WC.skip ?_
        refine WX.next ?_
        refine WC.seq ?_
        refine WC.region ?_
        refine WL.val rfl rfl rfl rfl (r_loadAgg (vs := [_, _, _]) rfl (ev_t rfl) agg_50 size_50 (Blk.cellsL hB3)) ?_
        refine WL.cons (SO.storeAll (us := [_, _, _]) rfl (ev_t rfl) (ev_t rfl) size_50 hB2 rfl rfl rfl rfl rfl ?_)
        intro w23 hu23 hB2 hz23
        have hs23 := hu23.size
        replace hU := hU.trans hu23 (by first | exact (fun _ _ h => h) | exact (fun _ _ h => h.elim) | (intro k hl hk; (try simp only [At, New, Grow, From, No] at hk ⊢); omega) | (intro k hl hk; simp only [At, New, Grow, From, No] at *; omega))
        replace hB1 := hB1.updA hu23
        replace hB3 := hB3.updA hu23
        replace hd2 := hd2.upd hu23 (by first | exact (fun _ _ _ h => h) | (intro k hk hl hS; have h4 := hH2 k hk; simp only [At] at hS; omega))
        refine WL.nil ?_
        refine WX.keep [(4, _)] ⟨rfl, trivial⟩ ?_
        refine WX.next ?_
        refine WC.ret ?_
        refine WX.retC (vs := [_, _, _]) rfl rfl agg_50 size_50 (Blk.cellsL hB2) ?_
        exact ⟨A2, c2, n2, _, rfl, hd2, fun k hk => (hH2 k hk).elim (fun h => .inl h.1) (fun h => .inr ⟨by omega, by omega⟩), hU⟩
end Go.Proofs.Ytejlmcdmoghmaaa
