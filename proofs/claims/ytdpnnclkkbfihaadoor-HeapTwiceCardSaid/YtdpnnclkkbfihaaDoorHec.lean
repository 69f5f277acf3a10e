/-
  heap: Collect of nothing.
-/
import Derived.Test.YtdpnnclkkbfihaaDoorHeb
namespace Go.Proofs.YtdpnnclkkbfihaaDoor
open Go
set_option linter.unusedSimpArgs false
set_option linter.unusedVariables false

theorem zeroWd (n : Nat) : (rowCells (.int .u64 0) n).toList = (List.replicate n 0).map Wd := by
  unfold rowCells
  induction n with
  | zero => rfl
  | succ n ih =>
    rw [List.replicate_succ, List.replicate_succ, List.map_cons, List.flatten_cons]
    simp only at ih ⊢
    rw [ih]
    rfl
theorem rowCells_sz (n : Nat) : (rowCells (.int .u64 0) n).size = n * 1 := by
  rw [← Array.length_toList, zeroWd]
  simp
theorem collectNil_ok {w : World} : Ret Tryd.prog 14 #[.pointer none, .slice none 0 0] w fun _ w' => w = w' := by
  refine enterRet (vs := [_, _]) (N := 79) Tryd.func14 rfl rfl rfl ?_
  refine WC.keep [(0, _), (1, _)] ⟨rfl, rfl, trivial⟩ ?_
  refine WC.seq ?_
  refine WC.seq ?_
  refine WC.region ?_
  refine WL.val rfl rfl rfl rfl (r_move rfl (ev_t rfl)) ?_
  refine WL.val rfl rfl rfl rfl (r_eqlPtrNil rfl (ev_t rfl) ev_c ptr_26) ?_
  refine WL.nil ?_
  refine WX.keep [(0, _), (1, _), (13, _)] ⟨rfl, rfl, rfl, trivial⟩ ?_
  refine WX.next ?_
  refine WC.cond rfl (ev_t rfl) (fun hc0 => ?_) (fun hc0 => ?_)
  · try (exfalso; first | (simp at hc0; done) | (simp only [decide_eq_true_eq, decide_eq_false_iff_not, Bool.not_eq_true', Bool.not_eq_false', Bool.not_eq_true, Bool.not_eq_false] at hc0; omega) | omega)
    all_goals
     try simp only [decide_eq_true_eq, decide_eq_false_iff_not, Bool.not_eq_true', Bool.not_eq_false', Bool.not_eq_true, Bool.not_eq_false, Option.isNone_none, Option.isNone_some, Option.isSome_none, Option.isSome_some, ne_eq, Decidable.not_not] at hc0
     refine WC.ret ?_
     refine WX.thenRet ?_
     refine WX.retE (l := []) (vs := []) rfl trivial ?_
     rfl
  · try (exfalso; first | (simp at hc0; done) | (simp only [decide_eq_true_eq, decide_eq_false_iff_not, Bool.not_eq_true', Bool.not_eq_false', Bool.not_eq_true, Bool.not_eq_false] at hc0; omega) | omega)
    all_goals
     try simp only [decide_eq_true_eq, decide_eq_false_iff_not, Bool.not_eq_true', Bool.not_eq_false', Bool.not_eq_true, Bool.not_eq_false, Option.isNone_none, Option.isNone_some, Option.isSome_none, Option.isSome_some, ne_eq, Decidable.not_not] at hc0
     refine WC.skip ?_
     refine WX.next ?_
     refine WC.seq ?_
     refine WC.region ?_
     refine WL.val rfl rfl rfl rfl (r_move rfl (ev_t rfl)) ?_
     refine WL.val rfl rfl rfl rfl (r_nilCheck rfl (ev_t rfl)) ?_
     first | refine WL.val rfl rfl rfl rfl (r_field0 rfl (ev_t rfl) fld_79_0) ?_ | refine WL.val rfl rfl rfl rfl (r_fieldAt rfl (ev_t rfl) fld_79_0) ?_
     fail -- load 1.3: no facts
abbrev mvF (a b c : Nat) : Value := .func (.func 43) #[] #[.pointer (some ⟨a, 0, none⟩), .pointer (some ⟨b, 0, none⟩), .pointer (some ⟨c, 0, none⟩)]
set_option maxHeartbeats 2000000 in
theorem collect0_ok {w : World} {G : Nat → Prop} {p : Nat} {A : Option Addr} {c : Nat} {mem : List Nat} {q n : Nat} (hH : HS w G p A c mem q n) (hn : n + 1 ≤ 1000000000) :
    Ret Tryd.prog 14 #[.pointer (some ⟨p, 0, none⟩), .slice none 0 0] w fun _ w' => ∃ G' A' c', HS w' G' p A' c' [] q (n + 1) ∧ (∀ k, G' k → w.heap.size ≤ k) ∧ Upd (At p) w w' := by
  have hlp := hH.hd.lt
  have hle := hH.le
  have hhd := hH.hd
  refine enterRet (vs := [_, _]) (N := 79) Tryd.func14 rfl rfl rfl ?_
  have hU := Upd.refl (At p) w
  refine WC.keep [(0, _), (1, _)] ⟨rfl, rfl, trivial⟩ ?_
  refine WC.seq ?_
  refine WC.seq ?_
  refine WC.region ?_
  refine WL.val rfl rfl rfl rfl (r_move rfl (ev_t rfl)) ?_
  refine WL.val rfl rfl rfl rfl (r_eqlPtrNil rfl (ev_t rfl) ev_c ptr_26) ?_
  refine WL.nil ?_
  refine WX.keep [(0, _), (1, _), (13, _)] ⟨rfl, rfl, rfl, trivial⟩ ?_
  refine WX.next ?_
  refine WC.cond rfl (ev_t rfl) (fun hc0 => ?_) (fun hc0 => ?_)
  · try (exfalso; first | (simp at hc0; done) | (simp only [decide_eq_true_eq, decide_eq_false_iff_not, Bool.not_eq_true', Bool.not_eq_false', Bool.not_eq_true, Bool.not_eq_false] at hc0; omega) | omega)
    all_goals
     try simp only [decide_eq_true_eq, decide_eq_false_iff_not, Bool.not_eq_true', Bool.not_eq_false', Bool.not_eq_true, Bool.not_eq_false, Option.isNone_none, Option.isNone_some, Option.isSome_none, Option.isSome_some, ne_eq, Decidable.not_not] at hc0
     refine WC.ret ?_
     refine WX.thenRet ?_
     refine WX.retE (l := []) (vs := []) rfl trivial ?_
     fail
  · try (exfalso; first | (simp at hc0; done) | (simp only [decide_eq_true_eq, decide_eq_false_iff_not, Bool.not_eq_true', Bool.not_eq_false', Bool.not_eq_true, Bool.not_eq_false] at hc0; omega) | omega)
    all_goals
     try simp only [decide_eq_true_eq, decide_eq_false_iff_not, Bool.not_eq_true', Bool.not_eq_false', Bool.not_eq_true, Bool.not_eq_false, Option.isNone_none, Option.isNone_some, Option.isSome_none, Option.isSome_some, ne_eq, Decidable.not_not] at hc0
     refine WC.skip ?_
     refine WX.next ?_
     refine WC.seq ?_
     refine WC.region ?_
     refine WL.val rfl rfl rfl rfl (r_move rfl (ev_t rfl)) ?_
     refine WL.val rfl rfl rfl rfl (r_nilCheck rfl (ev_t rfl)) ?_
     first | refine WL.val rfl rfl rfl rfl (r_field0 rfl (ev_t rfl) fld_79_0) ?_ | refine WL.val rfl rfl rfl rfl (r_fieldAt rfl (ev_t rfl) fld_79_0) ?_
     refine WL.val rfl rfl rfl rfl (r_load rfl (ev_t rfl) flat_30 (Blk.cell hhd rfl)) ?_
     refine WL.cons (SO.alloc rfl rfl rfl rfl (r_alloc rfl zero_30) ?_)
     intro w1 hu1 hB1 hz1
     have hs1 := hu1.size
     replace hU := hU.trans hu1 (by first | exact (fun _ _ h => h) | exact (fun _ _ h => h.elim) | (intro k hl hk; (try simp only [At, New, Grow, From, No] at hk ⊢); omega) | (intro k hl hk; first | exact (show False from hk).elim | exact hk | (simp only [At] at *; exfalso; omega)))
     replace hhd := hhd.upd hu1 (fun hS => by first | exact (show False from hS) | (simp only [At] at hS; omega))
     refine WL.cons (SO.store rfl (ev_t rfl) (ev_t rfl) size_30 hB1 rfl rfl rfl rfl rfl ?_)
     intro w2 hu2 hB1 hz2
     have hs2 := hu2.size
     replace hU := hU.trans hu2 (by first | exact (fun _ _ h => h) | exact (fun _ _ h => h.elim) | (intro k hl hk; (try simp only [At, New, Grow, From, No] at hk ⊢); omega) | (intro k hl hk; first | exact (show False from hk).elim | exact hk | (simp only [At] at *; exfalso; omega)))
     replace hhd := hhd.upd hu2 (fun hS => by first | exact (show False from hS) | (simp only [At] at hS; omega))
     refine WL.nil ?_
     refine WX.keep [(0, _), (1, _), (4, _)] ⟨rfl, rfl, rfl, trivial⟩ ?_
     have hb4 := hB1
     refine WX.next ?_
     refine WC.seq ?_
     refine WC.region ?_
     refine WL.val rfl rfl rfl rfl (r_load rfl (ev_t rfl) flat_30 (Blk.cell hb4 rfl)) ?_
     refine WL.val rfl rfl rfl rfl (r_lenSlice (ts := #[]) rfl (ev_t rfl) elem_30) ?_
     refine WL.cons (SO.alloc rfl rfl rfl rfl (r_makeSliceC (l := 0) (n := mem.length) rfl ev_c (ev_t rfl) (Nat.zero_le _) row_30 (by omega) (by omega)) ?_)
     intro w3 hu3 hBm hzm
     obtain ⟨gT, hgT⟩ : ∃ g, g = w2.heap.size := ⟨_, rfl⟩
     rw [← hgT] at hBm ⊢
     have hq := Own.room (sz := 1) hBm (le_maxLen (by omega)) (rowCells_sz _)
     have hs3 := hu3.size
     replace hU := hU.trans hu3 (by first | exact (fun _ _ h => h) | exact (fun _ _ h => h.elim) | (intro k hl hk; (try simp only [At, New, Grow, From, No] at hk ⊢); omega) | (intro k hl hk; first | exact (show False from hk).elim | exact hk | (simp only [At] at *; exfalso; omega)))
     replace hhd := hhd.upd hu3 (fun hS => by first | exact (show False from hS) | (simp only [At] at hS; omega))
     replace hb4 := hb4.upd hu3 (fun hS => by first | exact (show False from hS) | (simp only [At] at hS; omega))
     refine WL.cons (SO.alloc rfl rfl rfl rfl (r_alloc rfl zero_30) ?_)
     intro w4 hu4 hB4 hz4
     have hs4 := hu4.size
     replace hU := hU.trans hu4 (by first | exact (fun _ _ h => h) | exact (fun _ _ h => h.elim) | (intro k hl hk; (try simp only [At, New, Grow, From, No] at hk ⊢); omega) | (intro k hl hk; first | exact (show False from hk).elim | exact hk | (simp only [At] at *; exfalso; omega)))
     replace hhd := hhd.upd hu4 (fun hS => by first | exact (show False from hS) | (simp only [At] at hS; omega))
     replace hb4 := hb4.upd hu4 (fun hS => by first | exact (show False from hS) | (simp only [At] at hS; omega))
     replace hq := hq.upd hu4 (fun k hk hl hS => by first | exact (show False from hS).elim | (simp only [At] at *; omega))
     refine WL.cons (SO.store rfl (ev_t rfl) (ev_t rfl) size_30 hB4 rfl rfl rfl rfl rfl ?_)
     intro w5 hu5 hB4 hz5
     have hs5 := hu5.size
     replace hU := hU.trans hu5 (by first | exact (fun _ _ h => h) | exact (fun _ _ h => h.elim) | (intro k hl hk; (try simp only [At, New, Grow, From, No] at hk ⊢); omega) | (intro k hl hk; first | exact (show False from hk).elim | exact hk | (simp only [At] at *; exfalso; omega)))
     replace hhd := hhd.upd hu5 (fun hS => by first | exact (show False from hS) | (simp only [At] at hS; omega))
     replace hb4 := hb4.upd hu5 (fun hS => by first | exact (show False from hS) | (simp only [At] at hS; omega))
     replace hq := hq.upd hu5 (fun k hk hl hS => by first | exact (show False from hS).elim | (simp only [At] at *; omega))
     refine WL.nil ?_
     refine WX.keep [(0, _), (1, _), (4, _), (5, _)] ⟨rfl, rfl, rfl, rfl, trivial⟩ ?_
     have hb5 := hB4
     refine WX.next ?_
     refine WC.seq ?_
     refine WC.region ?_
     refine WL.val rfl rfl rfl rfl (r_load rfl (ev_t rfl) flat_30 (Blk.cell hb4 rfl)) ?_
     refine WL.val rfl rfl rfl rfl (r_lenSlice (ts := #[]) rfl (ev_t rfl) elem_30) ?_
     refine WL.cons (SO.alloc rfl rfl rfl rfl (r_makeSlice (n := mem.length) rfl (ev_t rfl) (ev_t rfl) row_30 (by omega) (by omega)) ?_)
     intro w6 hu6 hBn hzn
     have hs6 := hu6.size
     replace hU := hU.trans hu6 (by first | exact (fun _ _ h => h) | exact (fun _ _ h => h.elim) | (intro k hl hk; (try simp only [At, New, Grow, From, No] at hk ⊢); omega) | (intro k hl hk; first | exact (show False from hk).elim | exact hk | (simp only [At] at *; exfalso; omega)))
     replace hhd := hhd.upd hu6 (fun hS => by first | exact (show False from hS) | (simp only [At] at hS; omega))
     replace hb4 := hb4.upd hu6 (fun hS => by first | exact (show False from hS) | (simp only [At] at hS; omega))
     replace hq := hq.upd hu6 (fun k hk hl hS => by first | exact (show False from hS).elim | (simp only [At] at *; omega))
     replace hb5 := hb5.upd hu6 (fun hS => by first | exact (show False from hS) | (simp only [At] at hS; omega))
     refine WL.cons (SO.alloc rfl rfl rfl rfl (r_alloc rfl zero_30) ?_)
     intro w7 hu7 hB7 hz7
     have hs7 := hu7.size
     replace hU := hU.trans hu7 (by first | exact (fun _ _ h => h) | exact (fun _ _ h => h.elim) | (intro k hl hk; (try simp only [At, New, Grow, From, No] at hk ⊢); omega) | (intro k hl hk; first | exact (show False from hk).elim | exact hk | (simp only [At] at *; exfalso; omega)))
     replace hhd := hhd.upd hu7 (fun hS => by first | exact (show False from hS) | (simp only [At] at hS; omega))
     replace hb4 := hb4.upd hu7 (fun hS => by first | exact (show False from hS) | (simp only [At] at hS; omega))
     replace hq := hq.upd hu7 (fun k hk hl hS => by first | exact (show False from hS).elim | (simp only [At] at *; omega))
     replace hb5 := hb5.upd hu7 (fun hS => by first | exact (show False from hS) | (simp only [At] at hS; omega))
     refine WL.cons (SO.store rfl (ev_t rfl) (ev_t rfl) size_30 hB7 rfl rfl rfl rfl rfl ?_)
     intro w8 hu8 hB7 hz8
     have hs8 := hu8.size
     replace hU := hU.trans hu8 (by first | exact (fun _ _ h => h) | exact (fun _ _ h => h.elim) | (intro k hl hk; (try simp only [At, New, Grow, From, No] at hk ⊢); omega) | (intro k hl hk; first | exact (show False from hk).elim | exact hk | (simp only [At] at *; exfalso; omega)))
     replace hhd := hhd.upd hu8 (fun hS => by first | exact (show False from hS) | (simp only [At] at hS; omega))
     replace hb4 := hb4.upd hu8 (fun hS => by first | exact (show False from hS) | (simp only [At] at hS; omega))
     replace hq := hq.upd hu8 (fun k hk hl hS => by first | exact (show False from hS).elim | (simp only [At] at *; omega))
     replace hb5 := hb5.upd hu8 (fun hS => by first | exact (show False from hS) | (simp only [At] at hS; omega))
     refine WL.nil ?_
     refine WX.keep [(0, _), (1, _), (4, _), (5, _), (6, _)] ⟨rfl, rfl, rfl, rfl, rfl, trivial⟩ ?_
     refine WX.next ?_
     refine WC.seq ?_
     refine WC.region ?_
     refine WL.val rfl rfl rfl rfl (r_makeFunc (vs := []) (us := [_, _, _]) rfl trivial ⟨(ev_t rfl), (ev_t rfl), (ev_t rfl), trivial⟩) ?_
     refine WL.val rfl rfl rfl rfl (r_assign rfl (ev_t rfl)) ?_
     refine WL.nil ?_
     refine WX.keep [(0, _), (1, _), (5, _), (7, _)] ⟨rfl, rfl, rfl, rfl, trivial⟩ ?_
     refine WX.next ?_
     refine WC.seq ?_
     refine WC.seq ?_
     refine WC.region ?_
     refine WL.val rfl rfl rfl rfl (r_move rfl (ev_t rfl)) ?_
     refine WL.val rfl rfl rfl rfl (r_lenSlice (ts := #[]) rfl (ev_t rfl) elem_35) ?_
     refine WL.val rfl rfl rfl rfl (r_move rfl ev_c) ?_
     refine WL.nil ?_
     refine WX.keep [(0, _), (5, _), (7, _), (25, _), (26, _), (27, _)] ⟨rfl, rfl, rfl, rfl, rfl, rfl, trivial⟩ ?_
     refine WX.next ?_
     refine WC.block ?_
     -- loop 1: live [0, 5, 7, 25, 26, 27]
     refine WC.keep [(0, _), (5, _), (7, _), (25, _), (26, _), (27, _)] ⟨rfl, rfl, rfl, rfl, rfl, rfl, trivial⟩ ?_
     refine WC.loop (fun qq E wA => w8 = wA ∧ E = [(0, .pointer (some ⟨p, 0, none⟩)), (5, .pointer (some ⟨w3.heap.size, 0, none⟩)), (7, mvF w.heap.size w6.heap.size w3.heap.size), (25, .slice none 0 0), (26, .int .i64 0), (27, .int .i64 0)]) (0) ?_ ?_
     · exact ⟨rfl, rfl⟩
     · rintro qq E wA ⟨rfl, rfl⟩
       refine WC.seq ?_
       refine WC.region ?_
       refine WL.val rfl rfl rfl rfl (r_lss rfl (ev_t rfl) (ev_t rfl)) ?_
       refine WL.nil ?_
       refine WX.keep [(0, _), (5, _), (7, _), (25, _), (26, _), (27, _), (28, _)] ⟨rfl, rfl, rfl, rfl, rfl, rfl, rfl, trivial⟩ ?_
       refine WX.next ?_
       refine WC.seq ?_
       refine WC.cond rfl (ev_t rfl) (fun hc6 => ?_) (fun hc6 => ?_)
       · try simp only [decide_eq_true_eq, decide_eq_false_iff_not, Bool.not_eq_true', Bool.not_eq_false', Bool.not_eq_true, Bool.not_eq_false, Option.isNone_none, Option.isNone_some, Option.isSome_none, Option.isSome_some, ne_eq, Decidable.not_not] at hc6
         exfalso
         omega
       · try (exfalso; first | (simp at hc6; done) | (simp only [decide_eq_true_eq, decide_eq_false_iff_not, Bool.not_eq_true', Bool.not_eq_false', Bool.not_eq_true, Bool.not_eq_false] at hc6; omega) | omega)
         all_goals
          try simp only [decide_eq_true_eq, decide_eq_false_iff_not, Bool.not_eq_true', Bool.not_eq_false', Bool.not_eq_true, Bool.not_eq_false, Option.isNone_none, Option.isNone_some, Option.isSome_none, Option.isSome_some, ne_eq, Decidable.not_not] at hc6
          refine WC.exit ?_
          refine WX.thenExit ?_
          refine WX.thenExit ?_
          refine WX.blockHere ?_
          refine WX.next ?_
          refine WC.seq ?_
          refine WC.seq ?_
          refine WC.region ?_
          refine WL.val rfl rfl rfl rfl (r_assign rfl ev_c) ?_
          refine WL.nil ?_
          refine WX.keep [(0, _), (5, _), (7, _), (10, _)] ⟨rfl, rfl, rfl, rfl, trivial⟩ ?_
          refine WX.next ?_
          refine WC.block ?_
          -- loop 2: live [0, 5, 7, 10]
          refine WC.keep [(0, _), (5, _), (7, _), (10, _)] ⟨rfl, rfl, rfl, rfl, trivial⟩ ?_
          refine WC.loop (fun qq E wA => w8 = wA ∧ E = [(0, .pointer (some ⟨p, 0, none⟩)), (5, .pointer (some ⟨w3.heap.size, 0, none⟩)), (7, mvF w.heap.size w6.heap.size w3.heap.size), (10, .int .i64 0)]) (0) ?_ ?_
          · exact ⟨rfl, rfl⟩
          · rintro qq E wA ⟨rfl, rfl⟩
            refine WC.seq ?_
            refine WC.seq ?_
            refine WC.region ?_
            refine WL.val rfl rfl rfl rfl (r_move rfl (ev_t rfl)) ?_
            refine WL.val rfl rfl rfl rfl (r_load rfl (ev_t rfl) flat_30 (Blk.cell hb5 rfl)) ?_
            refine WL.val rfl rfl rfl rfl (r_lenSlice (ts := #[]) rfl (ev_t rfl) elem_30) ?_
            refine WL.val rfl rfl rfl rfl (r_lss rfl (ev_t rfl) (ev_t rfl)) ?_
            refine WL.nil ?_
            refine WX.keep [(0, _), (5, _), (7, _), (10, _), (38, _)] ⟨rfl, rfl, rfl, rfl, rfl, trivial⟩ ?_
            refine WX.next ?_
            refine WC.cond rfl (ev_t rfl) (fun hc11 => ?_) (fun hc11 => ?_)
            · try simp only [decide_eq_true_eq, decide_eq_false_iff_not, Bool.not_eq_true', Bool.not_eq_false', Bool.not_eq_true, Bool.not_eq_false, Option.isNone_none, Option.isNone_some, Option.isSome_none, Option.isSome_some, ne_eq, Decidable.not_not] at hc11
              exfalso
              omega
            · try (exfalso; first | (simp at hc11; done) | (simp only [decide_eq_true_eq, decide_eq_false_iff_not, Bool.not_eq_true', Bool.not_eq_false', Bool.not_eq_true, Bool.not_eq_false] at hc11; omega) | omega)
              all_goals
               try simp only [decide_eq_true_eq, decide_eq_false_iff_not, Bool.not_eq_true', Bool.not_eq_false', Bool.not_eq_true, Bool.not_eq_false, Option.isNone_none, Option.isNone_some, Option.isSome_none, Option.isSome_some, ne_eq, Decidable.not_not] at hc11
               refine WC.exit ?_
               refine WX.thenExit ?_
               refine WX.thenExit ?_
               refine WX.blockHere ?_
               refine WX.next ?_
               refine WC.seq ?_
               refine WC.region ?_
               refine WL.val rfl rfl rfl rfl (r_move rfl (ev_t rfl)) ?_
               refine WL.val rfl rfl rfl rfl (r_load rfl (ev_t rfl) flat_30 (Blk.cell hb5 rfl)) ?_
               refine WL.val rfl rfl rfl rfl (r_nilCheck rfl (ev_t rfl)) ?_
               first | refine WL.val rfl rfl rfl rfl (r_field0 rfl (ev_t rfl) fld_79_0) ?_ | refine WL.val rfl rfl rfl rfl (r_fieldAt rfl (ev_t rfl) fld_79_0) ?_
               refine WL.cons (SO.store rfl (ev_t rfl) (ev_t rfl) size_30 hhd rfl rfl rfl rfl rfl ?_)
               intro w9 hu9 hhd hz9
               have hs9 := hu9.size
               replace hU := hU.trans hu9 (by first | exact (fun _ _ h => h) | exact (fun _ _ h => h.elim) | (intro k hl hk; (try simp only [At, New, Grow, From, No] at hk ⊢); omega) | (intro k hl hk; first | exact (show False from hk).elim | exact hk | (simp only [At] at *; exfalso; omega)))
               replace hq := hq.upd hu9 (fun k hk hl hS => by first | exact (show False from hS).elim | (simp only [At] at *; omega))
               replace hb5 := hb5.upd hu9 (fun hS => by first | exact (show False from hS) | (simp only [At] at hS; omega))
               refine WL.nil ?_
               refine WX.keep [(0, _)] ⟨rfl, trivial⟩ ?_
               refine WX.next ?_
               refine WC.region ?_
               refine WL.val rfl rfl rfl rfl (r_move rfl (ev_t rfl)) ?_
               refine WL.val rfl rfl rfl rfl (r_nilCheck rfl (ev_t rfl)) ?_
               first | refine WL.val rfl rfl rfl rfl (r_field0 rfl (ev_t rfl) fld_79_2) ?_ | refine WL.val rfl rfl rfl rfl (r_fieldAt rfl (ev_t rfl) fld_79_2) ?_
               refine WL.val rfl rfl rfl rfl (r_load rfl (ev_t rfl) flat_3 (Blk.cell hhd rfl)) ?_
               first | refine WL.val rfl rfl rfl rfl (r_addN rfl (ev_t rfl) ev_c (by simp only [inK]; omega)) ?_ | refine WL.val rfl rfl rfl rfl (r_add rfl (ev_t rfl) ev_c) ?_
               refine WL.val rfl rfl rfl rfl (r_nilCheck rfl (ev_t rfl)) ?_
               first | refine WL.val rfl rfl rfl rfl (r_field0 rfl (ev_t rfl) fld_79_2) ?_ | refine WL.val rfl rfl rfl rfl (r_fieldAt rfl (ev_t rfl) fld_79_2) ?_
               refine WL.cons (SO.store rfl (ev_t rfl) (ev_t rfl) size_3 hhd rfl rfl rfl rfl rfl ?_)
               intro w10 hu10 hhd hz10
               have hs10 := hu10.size
               replace hU := hU.trans hu10 (by first | exact (fun _ _ h => h) | exact (fun _ _ h => h.elim) | (intro k hl hk; (try simp only [At, New, Grow, From, No] at hk ⊢); omega) | (intro k hl hk; first | exact (show False from hk).elim | exact hk | (simp only [At] at *; exfalso; omega)))
               replace hq := hq.upd hu10 (fun k hk hl hS => by first | exact (show False from hS).elim | (simp only [At] at *; omega))
               replace hb5 := hb5.upd hu10 (fun hS => by first | exact (show False from hS) | (simp only [At] at hS; omega))
               refine WL.nil ?_
               refine WX.keep [] trivial ?_
               refine WX.endE (l := []) (vs := []) rfl trivial ?_
               exact ⟨At gT, _, _, ⟨hhd, hq, by simp only [At]; omega, fun k hk => by simp only [At] at hk; omega, by simp; omega, hn⟩, fun k hk => by simp only [At] at hk; omega, hU⟩
end Go.Proofs.YtdpnnclkkbfihaaDoor
