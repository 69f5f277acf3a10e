/-
  Several texts put together: Coc, Cod, Coe, OrdP, RdrP, WrtP, EncP, CoS, SumP, RefP, Sum, Seal, Ref.
-/
import Derived.Test.YtipabhbnljadfaaDoorZc
/-
  code: can a function run? can functions?
-/
namespace Go.Proofs.YtipabhbnljadfaaDoor
open Go
set_option linter.unusedSimpArgs false
set_option linter.unusedVariables false

theorem zeroRow (n : Nat) : rowCells (.int .i64 0) n = ((List.replicate n (0 : Int)).map I64).toArray := by
  unfold rowCells
  congr 1
  induction n with
  | zero => rfl
  | succ n ih =>
    rw [List.replicate_succ, List.replicate_succ, List.map_cons, List.flatten_cons, ih]
    rfl

theorem inK_zero (n : Nat) (k : Nat) : inK .i64 ((List.replicate n (0 : Int)).getD k 0) := by
  rw [List.getD_eq_getElem?_getD, List.getElem?_replicate]
  split <;> simp [inK]
theorem inK_one {n : Nat} (h : 0 < n) (k : Nat) : inK .i64 (((List.replicate n (0 : Int)).set 0 1).getD k 0) := by
  rw [getD_set (by simpa using h)]
  split
  · simp [inK]
  · exact inK_zero n k
theorem inK_reach {n at_ : Nat} {to d t : Int} {D R D' R' : List Int} {T T' : List Nat} {b : Bool} (hD : D.length = n) (hR : R.length = n) (h1 : ∀ k, inK .i64 (D.getD k 0)) (h2 : ∀ k, inK .i64 (R.getD k 0)) (hd : inK .i64 d) (ht : inK .i64 t) (he : reachP n at_ to d t D R T = (b, D', R', T')) :
    (∀ k, inK .i64 (D'.getD k 0)) ∧ ∀ k, inK .i64 (R'.getD k 0) := by
  unfold reachP at he
  split at he
  · simp only [Prod.mk.injEq] at he
    obtain ⟨rfl, rfl, rfl, rfl⟩ := he
    exact ⟨h1, h2⟩
  · split at he
    · simp only [Prod.mk.injEq] at he
      obtain ⟨rfl, rfl, rfl, rfl⟩ := he
      refine ⟨fun k => ?_, fun k => ?_⟩
      · rw [getD_set (by omega)]
        split
        · exact hd
        · exact h1 k
      · rw [getD_set (by omega)]
        split
        · exact ht
        · exact h2 k
    · simp only [Prod.mk.injEq] at he
      obtain ⟨rfl, rfl, rfl, rfl⟩ := he
      exact ⟨h1, h2⟩

set_option maxHeartbeats 4000000 in
theorem check_ok {w : World} {H H' : Nat → Prop} {F : Fn} {A : Option Addr} {c : Nat} {allv : Value} {all : List Fn} {globs : Int} (hTk : Tk w) (hF : inK .i64 F.caps) (hok : ∀ i ∈ F.code, i.ok) (hcode : Rd w H (.slice A F.code.length c) F.code.length 4 (F.code.flatMap insC))
    (hall : IsFs w H' allv all) (hlen : F.code.length ≤ 1000) :
    Ret Tryd.prog 20 #[.agg #[.int .i64 F.caps, .slice A F.code.length c], allv, .int .i64 globs] w fun u w' => (∃ b, u = .bool b ∧ (F.caps < 0 → b = false) ∧ (PosAll all → 0 ≤ F.caps → (b = true ↔ GoodF F all globs))) ∧ Upd No w w' := by
  obtain ⟨n, hn⟩ : ∃ n, F.code.length = n := ⟨_, rfl⟩
  rw [hn] at hcode hlen ⊢
  obtain ⟨bF, hbF⟩ : ∃ bF, bF = w.heap.size := ⟨_, rfl⟩
  refine enterRet (vs := [_, _, _]) (N := 130) Tryd.func20 rfl rfl rfl ?_
  have hU := Upd.refl No w
  refine WC.keep [(0, _), (1, _), (2, _)] ⟨rfl, rfl, rfl, trivial⟩ ?_
  refine WC.seq ?_
  refine WC.region ?_
  refine WL.cons (SO.alloc rfl rfl rfl rfl (r_boxAgg rfl (ev_t rfl)) ?_)
  intro w1 hu1 hB1 hz1
  have hs1 := hu1.size
  replace hU := hU.trans hu1 (by first | exact (fun _ _ h => h) | exact (fun _ _ h => h.elim) | (intro k hl hk; (try simp only [At, New, Grow, From, No] at hk ⊢); omega) | (intro k hl hk; first | (have h1 := hk.1; omega) | ((try simp only [At, New, Grow, From, No] at *); omega)))
  refine WL.val rfl rfl rfl rfl (r_assign rfl ev_c) ?_
  refine WL.nil ?_
  refine WX.keep [(1, _), (2, _), (3, _)] ⟨rfl, rfl, rfl, trivial⟩ ?_
  have hF3 : Blk w1 bF #[.int .i64 F.caps, .slice A n c] 42 := by rw [hbF]; exact hB1
  rw [← hbF]
  refine WX.next ?_
  refine WC.seq ?_
  refine WC.region ?_
  first | refine WL.val rfl rfl rfl rfl (r_field0 rfl (ev_t rfl) fld_42_1) ?_ | refine WL.val rfl rfl rfl rfl (r_fieldAt rfl (ev_t rfl) fld_42_1) ?_
  refine WL.val rfl rfl rfl rfl (r_load rfl (ev_t rfl) flat_40 (Blk.cell hF3 rfl)) ?_
  refine WL.val rfl rfl rfl rfl (r_lenSlice (ts := #[]) rfl (ev_t rfl) elem_40) ?_
  refine WL.cons (SO.alloc rfl rfl rfl rfl (r_makeSlice (n := n) rfl (ev_t rfl) (ev_t rfl) row_69 (by omega) (by omega)) ?_)
  intro w2 hu2 hgD hzD
  rw [zeroRow] at hgD
  have hs2 := hu2.size
  replace hU := hU.trans hu2 (by first | exact (fun _ _ h => h) | exact (fun _ _ h => h.elim) | (intro k hl hk; (try simp only [At, New, Grow, From, No] at hk ⊢); omega) | (intro k hl hk; first | (have h1 := hk.1; omega) | ((try simp only [At, New, Grow, From, No] at *); omega)))
  replace hF3 := hF3.upd hu2 (by first | exact (fun h => h) | (simp only [At, No]; omega) | (exact fun h => by have h1 := h.1; omega))
  refine WL.cons (SO.alloc rfl rfl rfl rfl (r_alloc rfl zero_69) ?_)
  intro w3 hu3 hB3 hz3
  have hs3 := hu3.size
  replace hU := hU.trans hu3 (by first | exact (fun _ _ h => h) | exact (fun _ _ h => h.elim) | (intro k hl hk; (try simp only [At, New, Grow, From, No] at hk ⊢); omega) | (intro k hl hk; first | (have h1 := hk.1; omega) | ((try simp only [At, New, Grow, From, No] at *); omega)))
  replace hF3 := hF3.upd hu3 (by first | exact (fun h => h) | (simp only [At, No]; omega) | (exact fun h => by have h1 := h.1; omega))
  replace hgD := hgD.upd hu3 (by first | exact (fun h => h) | (simp only [At, No]; omega))
  refine WL.cons (SO.store rfl (ev_t rfl) (ev_t rfl) size_69 hB3 rfl rfl rfl rfl rfl ?_)
  intro w4 hu4 hB3 hz4
  have hs4 := hu4.size
  replace hU := hU.trans hu4 (by first | exact (fun _ _ h => h) | exact (fun _ _ h => h.elim) | (intro k hl hk; (try simp only [At, New, Grow, From, No] at hk ⊢); omega) | (intro k hl hk; first | (have h1 := hk.1; omega) | ((try simp only [At, New, Grow, From, No] at *); omega)))
  replace hF3 := hF3.upd hu4 (by first | exact (fun h => h) | (simp only [At, No]; omega) | (exact fun h => by have h1 := h.1; omega))
  replace hgD := hgD.upd hu4 (by first | exact (fun h => h) | (simp only [At, No]; omega))
  refine WL.nil ?_
  refine WX.keep [(1, _), (2, _), (3, _), (7, _)] ⟨rfl, rfl, rfl, rfl, trivial⟩ ?_
  have hbD := hB3
  refine WX.next ?_
  refine WC.seq ?_
  refine WC.region ?_
  first | refine WL.val rfl rfl rfl rfl (r_field0 rfl (ev_t rfl) fld_42_1) ?_ | refine WL.val rfl rfl rfl rfl (r_fieldAt rfl (ev_t rfl) fld_42_1) ?_
  refine WL.val rfl rfl rfl rfl (r_load rfl (ev_t rfl) flat_40 (Blk.cell hF3 rfl)) ?_
  refine WL.val rfl rfl rfl rfl (r_lenSlice (ts := #[]) rfl (ev_t rfl) elem_40) ?_
  refine WL.cons (SO.alloc rfl rfl rfl rfl (r_makeSlice (n := n) rfl (ev_t rfl) (ev_t rfl) row_69 (by omega) (by omega)) ?_)
  intro w5 hu5 hgR hzR
  rw [zeroRow] at hgR
  have hs5 := hu5.size
  replace hU := hU.trans hu5 (by first | exact (fun _ _ h => h) | exact (fun _ _ h => h.elim) | (intro k hl hk; (try simp only [At, New, Grow, From, No] at hk ⊢); omega) | (intro k hl hk; first | (have h1 := hk.1; omega) | ((try simp only [At, New, Grow, From, No] at *); omega)))
  replace hF3 := hF3.upd hu5 (by first | exact (fun h => h) | (simp only [At, No]; omega) | (exact fun h => by have h1 := h.1; omega))
  replace hgD := hgD.upd hu5 (by first | exact (fun h => h) | (simp only [At, No]; omega))
  replace hbD := hbD.upd hu5 (by first | exact (fun h => h) | (simp only [At, No]; omega))
  refine WL.cons (SO.alloc rfl rfl rfl rfl (r_alloc rfl zero_69) ?_)
  intro w6 hu6 hB6 hz6
  have hs6 := hu6.size
  replace hU := hU.trans hu6 (by first | exact (fun _ _ h => h) | exact (fun _ _ h => h.elim) | (intro k hl hk; (try simp only [At, New, Grow, From, No] at hk ⊢); omega) | (intro k hl hk; first | (have h1 := hk.1; omega) | ((try simp only [At, New, Grow, From, No] at *); omega)))
  replace hF3 := hF3.upd hu6 (by first | exact (fun h => h) | (simp only [At, No]; omega) | (exact fun h => by have h1 := h.1; omega))
  replace hgD := hgD.upd hu6 (by first | exact (fun h => h) | (simp only [At, No]; omega))
  replace hbD := hbD.upd hu6 (by first | exact (fun h => h) | (simp only [At, No]; omega))
  replace hgR := hgR.upd hu6 (by first | exact (fun h => h) | (simp only [At, No]; omega))
  refine WL.cons (SO.store rfl (ev_t rfl) (ev_t rfl) size_69 hB6 rfl rfl rfl rfl rfl ?_)
  intro w7 hu7 hB6 hz7
  have hs7 := hu7.size
  replace hU := hU.trans hu7 (by first | exact (fun _ _ h => h) | exact (fun _ _ h => h.elim) | (intro k hl hk; (try simp only [At, New, Grow, From, No] at hk ⊢); omega) | (intro k hl hk; first | (have h1 := hk.1; omega) | ((try simp only [At, New, Grow, From, No] at *); omega)))
  replace hF3 := hF3.upd hu7 (by first | exact (fun h => h) | (simp only [At, No]; omega) | (exact fun h => by have h1 := h.1; omega))
  replace hgD := hgD.upd hu7 (by first | exact (fun h => h) | (simp only [At, No]; omega))
  replace hbD := hbD.upd hu7 (by first | exact (fun h => h) | (simp only [At, No]; omega))
  replace hgR := hgR.upd hu7 (by first | exact (fun h => h) | (simp only [At, No]; omega))
  refine WL.nil ?_
  refine WX.keep [(1, _), (2, _), (3, _), (7, _), (8, _)] ⟨rfl, rfl, rfl, rfl, rfl, trivial⟩ ?_
  have hbR := hB6
  refine WX.next ?_
  refine WC.seq ?_
  refine WC.region ?_
  refine WL.cons (SO.alloc rfl rfl rfl rfl (r_buildSlice1 (vs := [_]) rfl ⟨ev_c, trivial⟩ rfl row_69 rfl rfl) ?_)
  intro w8 hu8 hB8 hz8
  have hs8 := hu8.size
  replace hU := hU.trans hu8 (by first | exact (fun _ _ h => h) | exact (fun _ _ h => h.elim) | (intro k hl hk; (try simp only [At, New, Grow, From, No] at hk ⊢); omega) | (intro k hl hk; first | (have h1 := hk.1; omega) | ((try simp only [At, New, Grow, From, No] at *); omega)))
  replace hF3 := hF3.upd hu8 (by first | exact (fun h => h) | (simp only [At, No]; omega) | (exact fun h => by have h1 := h.1; omega))
  replace hgD := hgD.upd hu8 (by first | exact (fun h => h) | (simp only [At, No]; omega))
  replace hbD := hbD.upd hu8 (by first | exact (fun h => h) | (simp only [At, No]; omega))
  replace hgR := hgR.upd hu8 (by first | exact (fun h => h) | (simp only [At, No]; omega))
  replace hbR := hbR.upd hu8 (by first | exact (fun h => h) | (simp only [At, No]; omega))
  have hgT := hB8
  have hoT := Own.of_blk (F := At _) (n := 1) (sz := 1) hgT rfl rfl (le_maxLen (by omega))
  refine WL.cons (SO.alloc rfl rfl rfl rfl (r_alloc rfl zero_69) ?_)
  intro w9 hu9 hB9 hz9
  have hs9 := hu9.size
  replace hU := hU.trans hu9 (by first | exact (fun _ _ h => h) | exact (fun _ _ h => h.elim) | (intro k hl hk; (try simp only [At, New, Grow, From, No] at hk ⊢); omega) | (intro k hl hk; first | (have h1 := hk.1; omega) | ((try simp only [At, New, Grow, From, No] at *); omega)))
  replace hF3 := hF3.upd hu9 (by first | exact (fun h => h) | (simp only [At, No]; omega) | (exact fun h => by have h1 := h.1; omega))
  replace hgD := hgD.upd hu9 (by first | exact (fun h => h) | (simp only [At, No]; omega))
  replace hbD := hbD.upd hu9 (by first | exact (fun h => h) | (simp only [At, No]; omega))
  replace hgR := hgR.upd hu9 (by first | exact (fun h => h) | (simp only [At, No]; omega))
  replace hbR := hbR.upd hu9 (by first | exact (fun h => h) | (simp only [At, No]; omega))
  replace hoT := hoT.upd hu9 (by first | exact (fun _ _ _ h => h) | (intro k hk hl hS; simp only [At, No] at hk hS; omega))
  refine WL.cons (SO.store rfl (ev_t rfl) (ev_t rfl) size_69 hB9 rfl rfl rfl rfl rfl ?_)
  intro w10 hu10 hB9 hz10
  have hs10 := hu10.size
  replace hU := hU.trans hu10 (by first | exact (fun _ _ h => h) | exact (fun _ _ h => h.elim) | (intro k hl hk; (try simp only [At, New, Grow, From, No] at hk ⊢); omega) | (intro k hl hk; first | (have h1 := hk.1; omega) | ((try simp only [At, New, Grow, From, No] at *); omega)))
  replace hF3 := hF3.upd hu10 (by first | exact (fun h => h) | (simp only [At, No]; omega) | (exact fun h => by have h1 := h.1; omega))
  replace hgD := hgD.upd hu10 (by first | exact (fun h => h) | (simp only [At, No]; omega))
  replace hbD := hbD.upd hu10 (by first | exact (fun h => h) | (simp only [At, No]; omega))
  replace hgR := hgR.upd hu10 (by first | exact (fun h => h) | (simp only [At, No]; omega))
  replace hbR := hbR.upd hu10 (by first | exact (fun h => h) | (simp only [At, No]; omega))
  replace hoT := hoT.upd hu10 (by first | exact (fun _ _ _ h => h) | (intro k hk hl hS; simp only [At, No] at hk hS; omega))
  refine WL.nil ?_
  refine WX.keep [(1, _), (2, _), (3, _), (7, _), (8, _), (9, _)] ⟨rfl, rfl, rfl, rfl, rfl, rfl, trivial⟩ ?_
  have hbT := hB9
  refine WX.next ?_
  refine WC.seq ?_
  refine WC.seq ?_
  refine WC.region ?_
  first | refine WL.val rfl rfl rfl rfl (r_field0 rfl (ev_t rfl) fld_42_1) ?_ | refine WL.val rfl rfl rfl rfl (r_fieldAt rfl (ev_t rfl) fld_42_1) ?_
  refine WL.val rfl rfl rfl rfl (r_load rfl (ev_t rfl) flat_40 (Blk.cell hF3 rfl)) ?_
  refine WL.val rfl rfl rfl rfl (r_lenSlice (ts := #[]) rfl (ev_t rfl) elem_40) ?_
  refine WL.val rfl rfl rfl rfl (r_eql rfl (ev_t rfl) ev_c) ?_
  refine WL.val rfl rfl rfl rfl (r_move rfl (ev_t rfl)) ?_
  refine WL.cases 31 rfl (fun hb4_4 => ?_) (fun hb4_4 => ?_)
  · try (exfalso; first | (simp at hb4_4; done) | (simp only [decide_eq_true_eq, decide_eq_false_iff_not, Bool.not_eq_true', Bool.not_eq_false', Bool.not_eq_true, Bool.not_eq_false] at hb4_4; omega) | omega)
    all_goals
     try simp only [decide_eq_true_eq, decide_eq_false_iff_not, Bool.not_eq_true', Bool.not_eq_false', Bool.not_eq_true, Bool.not_eq_false, Option.isNone_none, Option.isNone_some, Option.isSome_none, Option.isSome_some, ne_eq, Decidable.not_not] at hb4_4
     refine WL.skip rfl rfl rfl ?_
     refine WL.skip rfl rfl rfl ?_
     refine WL.skip rfl rfl rfl ?_
     refine WL.val rfl rfl rfl rfl (r_pickT rfl (ev_t rfl) ev_c) ?_
     refine WL.nil ?_
     refine WX.keep [(1, _), (2, _), (3, _), (7, _), (8, _), (9, _), (35, _)] ⟨rfl, rfl, rfl, rfl, rfl, rfl, rfl, trivial⟩ ?_
     refine WX.next ?_
     refine WC.cond_true rfl (ev_t rfl) ?_
     refine WC.seq ?_
     refine WC.region ?_
     refine WL.val rfl rfl rfl rfl (r_assign rfl ev_c) ?_
     refine WL.nil ?_
     refine WX.keep [(6, _)] ⟨rfl, trivial⟩ ?_
     refine WX.next ?_
     refine WC.ret ?_
     refine WX.thenRet ?_
     refine WX.retE1 rfl rfl ?_
     refine ⟨⟨false, rfl, fun _ => rfl, fun _ hc0 => ⟨(fun h => by cases h), fun hg => ?_⟩⟩, hU⟩
     have h0 : n = 0 := by omega
     exact absurd (List.eq_nil_of_length_eq_zero (l := F.code) (by omega)) (good_ne hg)
  · try (exfalso; first | (simp at hb4_4; done) | (simp only [decide_eq_true_eq, decide_eq_false_iff_not, Bool.not_eq_true', Bool.not_eq_false', Bool.not_eq_true, Bool.not_eq_false] at hb4_4; omega) | omega)
    all_goals
     try simp only [decide_eq_true_eq, decide_eq_false_iff_not, Bool.not_eq_true', Bool.not_eq_false', Bool.not_eq_true, Bool.not_eq_false, Option.isNone_none, Option.isNone_some, Option.isSome_none, Option.isSome_some, ne_eq, Decidable.not_not] at hb4_4
     first | refine WL.val rfl rfl rfl rfl (r_field0 rfl (ev_t rfl) fld_42_0) ?_ | refine WL.val rfl rfl rfl rfl (r_fieldAt rfl (ev_t rfl) fld_42_0) ?_
     refine WL.val rfl rfl rfl rfl (r_load rfl (ev_t rfl) flat_3 (Blk.cell hF3 rfl)) ?_
     refine WL.val rfl rfl rfl rfl (r_lss rfl (ev_t rfl) ev_c) ?_
     refine WL.val rfl rfl rfl rfl (r_pickF rfl (ev_t rfl) (ev_t rfl)) ?_
     refine WL.nil ?_
     refine WX.keep [(1, _), (2, _), (3, _), (7, _), (8, _), (9, _), (35, _)] ⟨rfl, rfl, rfl, rfl, rfl, rfl, rfl, trivial⟩ ?_
     refine WX.next ?_
     refine WC.cond rfl (ev_t rfl) (fun hc4 => ?_) (fun hc4 => ?_)
     · try (exfalso; first | (simp at hc4; done) | (simp only [decide_eq_true_eq, decide_eq_false_iff_not, Bool.not_eq_true', Bool.not_eq_false', Bool.not_eq_true, Bool.not_eq_false] at hc4; omega) | omega)
       all_goals
        try simp only [decide_eq_true_eq, decide_eq_false_iff_not, Bool.not_eq_true', Bool.not_eq_false', Bool.not_eq_true, Bool.not_eq_false, Option.isNone_none, Option.isNone_some, Option.isSome_none, Option.isSome_some, ne_eq, Decidable.not_not] at hc4
        refine WC.seq ?_
        refine WC.region ?_
        refine WL.val rfl rfl rfl rfl (r_assign rfl ev_c) ?_
        refine WL.nil ?_
        refine WX.keep [(6, _)] ⟨rfl, trivial⟩ ?_
        refine WX.next ?_
        refine WC.ret ?_
        refine WX.thenRet ?_
        refine WX.retE1 rfl rfl ?_
        refine ⟨⟨false, rfl, fun _ => rfl, fun _ hc0 => ⟨(fun h => by cases h), fun hg => ?_⟩⟩, hU⟩
        have h0 : n = 0 := by omega
        exact absurd (List.eq_nil_of_length_eq_zero (l := F.code) (by omega)) (good_ne hg)
     · try (exfalso; first | (simp at hc4; done) | (simp only [decide_eq_true_eq, decide_eq_false_iff_not, Bool.not_eq_true', Bool.not_eq_false', Bool.not_eq_true, Bool.not_eq_false] at hc4; omega) | omega)
       all_goals
        try simp only [decide_eq_true_eq, decide_eq_false_iff_not, Bool.not_eq_true', Bool.not_eq_false', Bool.not_eq_true, Bool.not_eq_false, Option.isNone_none, Option.isNone_some, Option.isSome_none, Option.isSome_some, ne_eq, Decidable.not_not] at hc4
        refine WC.skip ?_
        refine WX.next ?_
        refine WC.seq ?_
        refine WC.region ?_
        refine WL.val rfl rfl rfl rfl (r_load rfl (ev_t rfl) flat_69 (Blk.cell hbD rfl)) ?_
        refine WL.val rfl rfl rfl rfl (r_indexAddr rfl (ev_t rfl) ev_c elem_69 size_3 (by omega) (by omega)) ?_
        refine WL.cons (SO.store rfl (ev_t rfl) ev_c size_3 hgD (bltOf (by simp; omega)) rfl rfl rfl rfl ?_)
        intro w11 hu11 hgD hz6
        have hs11 := hu11.size
        replace hU := hU.trans hu11 (by first | exact (fun _ _ h => h) | exact (fun _ _ h => h.elim) | (intro k hl hk; (try simp only [At, New, Grow, From, No] at hk ⊢); omega) | (intro k hl hk; first | (have h1 := hk.1; omega) | ((try simp only [At, New, Grow, From, No] at *); omega)))
        replace hF3 := hF3.upd hu11 (by first | exact (fun h => h) | (simp only [At, No]; omega) | (exact fun h => by have h1 := h.1; omega))
        replace hbD := hbD.upd hu11 (by first | exact (fun h => h) | (simp only [At, No]; omega))
        replace hgR := hgR.upd hu11 (by first | exact (fun h => h) | (simp only [At, No]; omega))
        replace hbR := hbR.upd hu11 (by first | exact (fun h => h) | (simp only [At, No]; omega))
        replace hoT := hoT.upd hu11 (by first | exact (fun _ _ _ h => h) | (intro k hk hl hS; simp only [At, No] at hk hS; omega))
        replace hbT := hbT.upd hu11 (by first | exact (fun h => h) | (simp only [At, No]; omega))
        refine WL.nil ?_
        refine WX.keep [(1, _), (2, _), (3, _), (7, _), (8, _), (9, _)] ⟨rfl, rfl, rfl, rfl, rfl, rfl, trivial⟩ ?_
        have hne : F.code ≠ [] := fun e => by rw [e] at hn; simp at hn; omega
        rw [show 0 + (0 : Int).toNat * 1 = 0 from rfl, setI] at hgD
        have hn0 : 0 < n := by rw [← hn]; exact List.length_pos_iff.2 hne
        have hCk : CkS w11 (fun k => bF < k ∧ k < w11.heap.size) w2.heap.size w5.heap.size w8.heap.size ((List.replicate n 0).set 0 1) (List.replicate n 0) [0] := by
          refine ⟨w1.heap.size, w4.heap.size, _, _, At w7.heap.size, ?_, hgD, ?_, hgR, hbT, hoT, by omega, ⟨by omega, by omega, by omega, by omega, by omega⟩, fun k hk => by simp only [At] at hk; omega⟩
          · rw [List.length_set, List.length_replicate]; exact hbD
          · rw [List.length_replicate]; exact hbR
        obtain ⟨bD, hbDe⟩ : ∃ bD, bD = w2.heap.size := ⟨_, rfl⟩
        obtain ⟨bR, hbRe⟩ : ∃ bR, bR = w5.heap.size := ⟨_, rfl⟩
        obtain ⟨bT, hbTe⟩ : ∃ bT, bT = w8.heap.size := ⟨_, rfl⟩
        rw [← hbDe, ← hbRe, ← hbTe] at hCk ⊢
        have hI0 : InvD F all globs (fun _ => False) ((List.replicate n 0).set 0 1) (List.replicate n 0) [0] := by have := inv_start (f := F) (all := all) (globs := globs) hne; rw [hn] at this; exact this
        have hbl : bF < bD ∧ bD < w11.heap.size ∧ bF < bR ∧ bR < w11.heap.size ∧ bF < bT ∧ bT < w11.heap.size := by omega
        refine WX.next ?_
        refine WC.seq ?_
        refine WC.block ?_
        -- loop 1: live [1, 2, 3, 7, 8, 9]
        refine WC.keep [(1, _), (2, _), (3, _), (7, _), (8, _), (9, _)] ⟨rfl, rfl, rfl, rfl, rfl, rfl, trivial⟩ ?_
        refine WC.loop (fun q E w' => ∃ (D R : List Int) (T : List Nat), q = wtT n T ∧ Upd No w w' ∧ w11.heap.size ≤ w'.heap.size ∧ CkS w' (fun k => bF < k ∧ k < w'.heap.size) bD bR bT D R T ∧ Blk w' bF #[.int .i64 F.caps, .slice A n c] 42 ∧ D.length = n ∧ R.length = n ∧ (∀ k ∈ T, k < n) ∧ Stk T ∧ (∀ k, inK .i64 (D.getD k 0)) ∧ (∀ k, inK .i64 (R.getD k 0)) ∧ (PosAll all → InvD F all globs (fun _ => False) D R T) ∧   E = [(1, allv), (2, .int .i64 globs), (3, .pointer (some ⟨bF, 0, none⟩)), (7, .pointer (some ⟨bD, 0, none⟩)), (8, .pointer (some ⟨bR, 0, none⟩)), (9, .pointer (some ⟨bT, 0, none⟩))]) (wtT n [0]) ?_ ?_
        · exact ⟨_, _, _, rfl, hU, Nat.le_refl _, hCk, hF3, by simp, by simp, (fun k hk => by rw [List.mem_singleton] at hk; omega), (fun j v hj => by cases j with | zero => omega | succ j => simp at hj), inK_one hn0, inK_zero n, fun _ => hI0, rfl⟩
        · clear hU hCk hF3 hI0 hgD hbD hgR hbR hoT hbT
          rintro q E w' ⟨D, R, T, rfl, hU, hwl, hCk, hF3, hDl, hRl, hTn, hSt, hKD, hKR, hI, rfl⟩
          have hw0 := hU.size
          obtain ⟨gD, gR, AT, cT, G, h1, h2, h3, h4, h5, h6, h7, h8, h9⟩ := id hCk
          refine WC.seq ?_
          refine WC.seq ?_
          refine WC.region ?_
          refine WL.val rfl rfl rfl rfl (r_load rfl (ev_t rfl) flat_69 (Blk.cell h5 rfl)) ?_
          refine WL.val rfl rfl rfl rfl (r_lenSlice (ts := #[]) rfl (ev_t rfl) elem_69) ?_
          refine WL.val rfl rfl rfl rfl (r_gtr rfl (ev_t rfl) ev_c) ?_
          refine WL.nil ?_
          refine WX.keep [(1, _), (2, _), (3, _), (7, _), (8, _), (9, _), (40, _)] ⟨rfl, rfl, rfl, rfl, rfl, rfl, rfl, trivial⟩ ?_
          refine WX.next ?_
          refine WC.cond rfl (ev_t rfl) (fun hc7 => ?_) (fun hc7 => ?_)
          · try (exfalso; first | (simp at hc7; done) | (simp only [decide_eq_true_eq, decide_eq_false_iff_not, Bool.not_eq_true', Bool.not_eq_false', Bool.not_eq_true, Bool.not_eq_false] at hc7; omega) | omega)
            all_goals
             try simp only [decide_eq_true_eq, decide_eq_false_iff_not, Bool.not_eq_true', Bool.not_eq_false', Bool.not_eq_true, Bool.not_eq_false, Option.isNone_none, Option.isNone_some, Option.isSome_none, Option.isSome_some, ne_eq, Decidable.not_not] at hc7
             refine WC.skip ?_
             refine WX.next ?_
             refine WC.block ?_
             refine WC.seq ?_
             obtain ⟨T0, a, rfl⟩ : ∃ T0 a, T = T0 ++ [a] := by
               rcases List.eq_nil_or_concat T with rfl | ⟨T0, a, rfl⟩
               · exfalso; simp at *
               · exact ⟨T0, a, List.concat_eq_append⟩
             have hTl : (T0 ++ [a]).length = T0.length + 1 := by simp
             have ha := hTn a (by simp)
             obtain ⟨hSt0, hSta⟩ := hSt.pop
             have hr6 := h6.rd (by omega)
             have hcT : (T0 ++ [a]).length ≤ cT := by obtain ⟨_, _, e, h⟩ := h6.form; simp only [Value.slice.injEq] at e; omega
             obtain ⟨bt, ot, rfl, _⟩ := hr6.open (by omega)
             refine WC.region ?_
             refine WL.val rfl rfl rfl rfl (r_load rfl (ev_t rfl) flat_69 (Blk.cell h5 rfl)) ?_
             refine WL.val rfl rfl rfl rfl (r_load rfl (ev_t rfl) flat_69 (Blk.cell h5 rfl)) ?_
             refine WL.val rfl rfl rfl rfl (r_lenSlice (ts := #[]) rfl (ev_t rfl) elem_69) ?_
             first | refine WL.val rfl rfl rfl rfl (r_subN rfl (ev_t rfl) ev_c (by simp only [inK]; omega)) ?_ | refine WL.val rfl rfl rfl rfl (r_sub rfl (ev_t rfl) ev_c) ?_
             refine WL.val rfl rfl rfl rfl (r_indexAddr rfl (ev_t rfl) (ev_t rfl) elem_69 size_3 (by omega) (by omega)) ?_
             refine WL.val rfl rfl rfl rfl (r_load rfl (ev_t rfl) flat_3 (Rd.cell hr6 (j := T0.length) (u := I64 (a : Int)) (by omega) (by rw [List.getElem?_map]; simp))) ?_
             refine WL.cons (SO.alloc rfl rfl rfl rfl (r_alloc rfl zero_3) ?_)
             intro w12 hu12 hB12 hz12
             have hs12 := hu12.size
             replace hU := hU.trans hu12 (by first | exact (fun _ _ h => h) | exact (fun _ _ h => h.elim) | (intro k hl hk; (try simp only [At, New, Grow, From, No] at hk ⊢); omega) | (intro k hl hk; first | (have h1 := hk.1; omega) | ((try simp only [At, New, Grow, From, No] at *); omega)))
             replace hF3 := hF3.upd hu12 (by first | exact (fun h => h) | (simp only [At, No]; omega) | (exact fun h => by have h1 := h.1; omega))
             replace h5 := h5.upd hu12 (by first | exact (fun h => h) | (simp only [At, No]; omega))
             replace h6 := h6.upd hu12 (by first | exact (fun _ _ _ h => h) | (intro k hk hl hS; have := h9 k hk; simp only [At, No] at hS; omega))
             replace h1 := h1.upd hu12 (by first | exact (fun h => h) | (simp only [At, No]; omega))
             replace h2 := h2.upd hu12 (by first | exact (fun h => h) | (simp only [At, No]; omega))
             replace h3 := h3.upd hu12 (by first | exact (fun h => h) | (simp only [At, No]; omega))
             replace h4 := h4.upd hu12 (by first | exact (fun h => h) | (simp only [At, No]; omega))
             refine WL.cons (SO.store rfl (ev_t rfl) (ev_t rfl) size_3 hB12 rfl rfl rfl rfl rfl ?_)
             intro w13 hu13 hB12 hz13
             have hs13 := hu13.size
             replace hU := hU.trans hu13 (by first | exact (fun _ _ h => h) | exact (fun _ _ h => h.elim) | (intro k hl hk; (try simp only [At, New, Grow, From, No] at hk ⊢); omega) | (intro k hl hk; first | (have h1 := hk.1; omega) | ((try simp only [At, New, Grow, From, No] at *); omega)))
             replace hF3 := hF3.upd hu13 (by first | exact (fun h => h) | (simp only [At, No]; omega) | (exact fun h => by have h1 := h.1; omega))
             replace h5 := h5.upd hu13 (by first | exact (fun h => h) | (simp only [At, No]; omega))
             replace h6 := h6.upd hu13 (by first | exact (fun _ _ _ h => h) | (intro k hk hl hS; have := h9 k hk; simp only [At, No] at hS; omega))
             replace h1 := h1.upd hu13 (by first | exact (fun h => h) | (simp only [At, No]; omega))
             replace h2 := h2.upd hu13 (by first | exact (fun h => h) | (simp only [At, No]; omega))
             replace h3 := h3.upd hu13 (by first | exact (fun h => h) | (simp only [At, No]; omega))
             replace h4 := h4.upd hu13 (by first | exact (fun h => h) | (simp only [At, No]; omega))
             refine WL.nil ?_
             refine WX.keep [(1, _), (2, _), (3, _), (7, _), (8, _), (9, _), (10, _)] ⟨rfl, rfl, rfl, rfl, rfl, rfl, rfl, trivial⟩ ?_
             have hba : Blk w13 _ #[.int .i64 (a : Int)] 3 := hB12
             refine WX.next ?_
             refine WC.seq ?_
             refine WC.region ?_
             refine WL.val rfl rfl rfl rfl (r_load rfl (ev_t rfl) flat_69 (Blk.cell h5 rfl)) ?_
             refine WL.val rfl rfl rfl rfl (r_load rfl (ev_t rfl) flat_69 (Blk.cell h5 rfl)) ?_
             refine WL.val rfl rfl rfl rfl (r_lenSlice (ts := #[]) rfl (ev_t rfl) elem_69) ?_
             first | refine WL.val rfl rfl rfl rfl (r_subN rfl (ev_t rfl) ev_c (by simp only [inK]; omega)) ?_ | refine WL.val rfl rfl rfl rfl (r_sub rfl (ev_t rfl) ev_c) ?_
             refine WL.val rfl rfl rfl rfl (r_slice (l := 0) (h := T0.length) rfl (ev_t rfl) elem_69 size_3 bnd_none (bnd_some (ev_t rfl) (by omega)) (by omega) (by omega) (by omega)) ?_
             rw [cutA_zero, Nat.sub_zero, Nat.sub_zero]
             refine WL.cons (SO.store rfl (ev_t rfl) (ev_t rfl) size_69 h5 rfl rfl rfl rfl rfl ?_)
             intro w14 hu14 h5 hz9
             have hs14 := hu14.size
             replace hU := hU.trans hu14 (by first | exact (fun _ _ h => h) | exact (fun _ _ h => h.elim) | (intro k hl hk; (try simp only [At, New, Grow, From, No] at hk ⊢); omega) | (intro k hl hk; first | (have h1 := hk.1; omega) | ((try simp only [At, New, Grow, From, No] at *); omega)))
             replace hF3 := hF3.upd hu14 (by first | exact (fun h => h) | (simp only [At, No]; omega) | (exact fun h => by have h1 := h.1; omega))
             replace h6 := h6.upd hu14 (by first | exact (fun _ _ _ h => h) | (intro k hk hl hS; have := h9 k hk; simp only [At, No] at hS; omega))
             replace h1 := h1.upd hu14 (by first | exact (fun h => h) | (simp only [At, No]; omega))
             replace h2 := h2.upd hu14 (by first | exact (fun h => h) | (simp only [At, No]; omega))
             replace h3 := h3.upd hu14 (by first | exact (fun h => h) | (simp only [At, No]; omega))
             replace h4 := h4.upd hu14 (by first | exact (fun h => h) | (simp only [At, No]; omega))
             replace hba := hba.upd hu14 (by first | exact (fun h => h) | (simp only [At, No]; omega) | (exact fun h => by have h1 := h.1; have h2 := h.2; omega))
             refine WL.nil ?_
             refine WX.keep [(1, _), (2, _), (3, _), (7, _), (8, _), (9, _), (10, _)] ⟨rfl, rfl, rfl, rfl, rfl, rfl, rfl, trivial⟩ ?_
             have hoo := Own.shrink (m := T0.length) h6 (by omega)
             rw [show (List.map (fun (k : Nat) => I64 (k : Int)) (T0 ++ [a])).take (T0.length * 1) = T0.map fun (k : Nat) => I64 (k : Int) by rw [List.map_append, Nat.mul_one, List.take_left' (by simp)]] at hoo
             have hCk : CkS w14 (fun k => bF < k ∧ k < w'.heap.size) bD bR bT D R T0 := ⟨gD, gR, _, _, G, h1, h2, h3, h4, h5, hoo, h7, h8, h9⟩
             have hba0 := hba.lt
             obtain ⟨i, hi⟩ : ∃ i, F.code[a]? = some i := ⟨_, List.getElem?_eq_getElem (by omega)⟩
             have hio := hok i (List.mem_of_getElem? hi)
             have hcell := flatMap_get insC_len hi
             obtain ⟨bc, oc, rfl, _⟩ := hcode.open (by omega)
             refine WX.next ?_
             refine WC.seq ?_
             refine WC.draws' (fun u0_ u1_ => Upd No u0_ u1_) (fun j => [0, 0, 0, 0, 0, 0, 0, 0, 0, 0, 0, 0, 0, 1, 1, 0, 0].getD j 0) (.calm 0 (.held 1 (.held 2 (.calm 3 (.held 4 (.held 5 (.held 6 (.calm 7 (.held 8 (.held 9 (.held 10 (.calm 11 (.held 12 (.one 13 (.one 14 (.calm 15 (.calm 16 (.done)))))))))))))))))) mixed (by kernel_rfl) (by repeat (first | with_reducible exact Deaf.body | with_reducible apply Deaf.then | with_reducible apply Deaf.block)) ?_
             intro w15 hu15
             have hz15 := congrArg Array.size hu15.2.2.2
             replace hu15 := Upd.of_draw hu15
             have hs15 := hu15.size
             replace hU := hU.trans hu15 (by first | exact (fun _ _ h => h) | exact (fun _ _ h => h.elim) | (intro k hl hk; (try simp only [At, New, Grow, From, No] at hk ⊢); omega) | (intro k hl hk; first | (have h1 := hk.1; omega) | ((try simp only [At, New, Grow, From, No] at *); omega)))
             replace hF3 := hF3.upd hu15 (by first | exact (fun h => h) | (simp only [At, No]; omega) | (exact fun h => by have h1 := h.1; omega))
             replace h1 := h1.upd hu15 (by first | exact (fun h => h) | (simp only [At, No]; omega))
             replace h2 := h2.upd hu15 (by first | exact (fun h => h) | (simp only [At, No]; omega))
             replace h3 := h3.upd hu15 (by first | exact (fun h => h) | (simp only [At, No]; omega))
             replace h4 := h4.upd hu15 (by first | exact (fun h => h) | (simp only [At, No]; omega))
             replace hba := hba.upd hu15 (by first | exact (fun h => h) | (simp only [At, No]; omega) | (exact fun h => by have h1 := h.1; have h2 := h.2; omega))
             replace hCk := hCk.upd hu15 (by first | exact (fun _ _ _ h => h) | (intro k hk hl hS; simp only [At, No] at hk hS; omega))
             have hS10 := Upd.refl No w15
             first | refine WN.calm _ rfl rfl rfl rfl rfl (fun _ => r_field0 rfl (ev_t rfl) fld_42_1) ?_ | refine WN.calm _ rfl rfl rfl rfl rfl (fun _ => r_fieldAt rfl (ev_t rfl) fld_42_1) ?_
             refine WN.held _ rfl rfl rfl rfl rfl hS10 (fun w' hS => r_load rfl (ev_t rfl) flat_40 (Blk.cell (hF3.upd hS (fun h => h)) rfl)) ?_
             refine WN.held _ rfl rfl rfl rfl rfl hS10 (fun w' hS => r_load rfl (ev_t rfl) flat_3 (Blk.cell (hba.upd hS (fun h => h)) rfl)) ?_
             refine WN.calm _ rfl rfl rfl rfl rfl (fun _ => r_indexAddr rfl (ev_t rfl) (ev_t rfl) elem_40 size_44 (by omega) (by omega)) ?_
             refine WN.held _ rfl rfl rfl rfl rfl hS10 (fun w' hS => r_loadAgg (vs := [_, _, _, _]) rfl (ev_t rfl) agg_44 size_44 (Rd.cellsL (us := insC i) ((hcode.upd hU (fun _ _ _ h => h)).upd hS (fun _ _ _ h => h)) (i := a * 4) (by omega) hcell)) ?_
             refine WN.held _ rfl rfl rfl rfl rfl hS10 (fun w' hS => r_load rfl (ev_t rfl) flat_69 (Blk.cell (h1.upd hS (fun h => h)) rfl)) ?_
             refine WN.held _ rfl rfl rfl rfl rfl hS10 (fun w' hS => r_load rfl (ev_t rfl) flat_3 (Blk.cell (hba.upd hS (fun h => h)) rfl)) ?_
             refine WN.calm _ rfl rfl rfl rfl rfl (fun _ => r_indexAddr rfl (ev_t rfl) (ev_t rfl) elem_69 size_3 (by omega) (by omega)) ?_
             refine WN.held _ rfl rfl rfl rfl rfl hS10 (fun w' hS => r_load rfl (ev_t rfl) flat_3 (Blk.cell (h2.upd hS (fun h => h)) (by rw [show 0 + ((a : Nat) : Int).toNat * 1 = a by omega, List.getElem?_toArray]; exact getI (by omega)))) ?_
             refine WN.held _ rfl rfl rfl rfl rfl hS10 (fun w' hS => r_load rfl (ev_t rfl) flat_69 (Blk.cell (h3.upd hS (fun h => h)) rfl)) ?_
             refine WN.held _ rfl rfl rfl rfl rfl hS10 (fun w' hS => r_load rfl (ev_t rfl) flat_3 (Blk.cell (hba.upd hS (fun h => h)) rfl)) ?_
             refine WN.calm _ rfl rfl rfl rfl rfl (fun _ => r_indexAddr rfl (ev_t rfl) (ev_t rfl) elem_69 size_3 (by omega) (by omega)) ?_
             refine WN.held _ rfl rfl rfl rfl rfl hS10 (fun w' hS => r_load rfl (ev_t rfl) flat_3 (Blk.cell (h4.upd hS (fun h => h)) (by rw [show 0 + ((a : Nat) : Int).toNat * 1 = a by omega, List.getElem?_toArray]; exact getI (by omega)))) ?_
             refine WN.step _ rfl (SO.alloc rfl rfl rfl rfl (r_alloc rfl zero_44) ?_)
             intro w16 hu16 hB16 hz16
             have hs16 := hu16.size
             replace hS10 := Upd.transA hS10 hu16
             replace hU := hU.trans hu16 (by first | exact (fun _ _ h => h) | exact (fun _ _ h => h.elim) | (intro k hl hk; (try simp only [At, New, Grow, From, No] at hk ⊢); omega) | (intro k hl hk; first | (have h1 := hk.1; omega) | ((try simp only [At, New, Grow, From, No] at *); omega)))
             replace hF3 := hF3.upd hu16 (by first | exact (fun h => h) | (simp only [At, No]; omega) | (exact fun h => by have h1 := h.1; omega))
             replace h1 := h1.upd hu16 (by first | exact (fun h => h) | (simp only [At, No]; omega))
             replace h2 := h2.upd hu16 (by first | exact (fun h => h) | (simp only [At, No]; omega))
             replace h3 := h3.upd hu16 (by first | exact (fun h => h) | (simp only [At, No]; omega))
             replace h4 := h4.upd hu16 (by first | exact (fun h => h) | (simp only [At, No]; omega))
             replace hba := hba.upd hu16 (by first | exact (fun h => h) | (simp only [At, No]; omega) | (exact fun h => by have h1 := h.1; have h2 := h.2; omega))
             replace hCk := hCk.upd hu16 (by first | exact (fun _ _ _ h => h) | (intro k hk hl hS; simp only [At, No] at hk hS; omega))
             refine ⟨hS10, ?_⟩
             refine WN.step _ rfl (SO.storeAll (us := [_, _, _, _]) rfl (ev_t rfl) (ev_t rfl) size_44 hB16 rfl rfl rfl rfl rfl ?_)
             intro w17 hu17 hB16 hz17
             have hs17 := hu17.size
             replace hS10 := Upd.transA hS10 hu17
             replace hU := hU.trans hu17 (by first | exact (fun _ _ h => h) | exact (fun _ _ h => h.elim) | (intro k hl hk; (try simp only [At, New, Grow, From, No] at hk ⊢); omega) | (intro k hl hk; first | (have h1 := hk.1; omega) | ((try simp only [At, New, Grow, From, No] at *); omega)))
             replace hF3 := hF3.upd hu17 (by first | exact (fun h => h) | (simp only [At, No]; omega) | (exact fun h => by have h1 := h.1; omega))
             replace h1 := h1.upd hu17 (by first | exact (fun h => h) | (simp only [At, No]; omega))
             replace h2 := h2.upd hu17 (by first | exact (fun h => h) | (simp only [At, No]; omega))
             replace h3 := h3.upd hu17 (by first | exact (fun h => h) | (simp only [At, No]; omega))
             replace h4 := h4.upd hu17 (by first | exact (fun h => h) | (simp only [At, No]; omega))
             replace hba := hba.upd hu17 (by first | exact (fun h => h) | (simp only [At, No]; omega) | (exact fun h => by have h1 := h.1; have h2 := h.2; omega))
             replace hCk := hCk.upd hu17 (by first | exact (fun _ _ _ h => h) | (intro k hk hl hS; simp only [At, No] at hk hS; omega))
             refine ⟨hS10, ?_⟩
             refine WN.calm _ rfl rfl rfl rfl rfl (fun _ => r_assign rfl (ev_t rfl)) ?_
             refine WN.calm _ rfl rfl rfl rfl rfl (fun _ => r_assign rfl (ev_t rfl)) ?_
             refine WN.done ?_
             refine WX.keep [(1, _), (2, _), (3, _), (7, _), (8, _), (9, _), (10, _), (11, _), (12, _), (13, _)] ⟨rfl, rfl, rfl, rfl, rfl, rfl, rfl, rfl, rfl, rfl, trivial⟩ ?_
             have hbi : Blk w17 _ (insC i).toArray 44 := hB16
             have hbil := hbi.lt
             obtain ⟨bi, hbie⟩ : ∃ bi, bi = w15.heap.size := ⟨_, rfl⟩
             obtain ⟨ba, hbae⟩ : ∃ ba, ba = w'.heap.size := ⟨_, rfl⟩
             rw [← hbie] at hbi ⊢
             rw [← hbae] at hba ⊢
             obtain ⟨d0, hd0⟩ : ∃ d0, D.getD a 0 = d0 := ⟨_, rfl⟩
             obtain ⟨t0, ht0⟩ : ∃ t0, R.getD a 0 = t0 := ⟨_, rfl⟩
             have hKd : inK .i64 d0 := hd0 ▸ hKD a
             have hKt : inK .i64 t0 := ht0 ▸ hKR a
             rw [hd0, ht0]
             have hnew : bF < ba ∧ bF < bi ∧ ba < bi ∧ bi < w17.heap.size := by omega
             have hIp : PosAll all → InvD F all globs (fun k => k = a) D R T0 ∧ d0 ≠ 0 ∧ 1 ≤ d0 ∧ d0 ≤ (a : Int) + 1 ∧ 0 ≤ t0 ∧ t0 ≤ a := fun hp => by
               have h0 := hI hp
               have h01 := (h0.td a (by simp)).2
               have h02 := h0.bd a h01
               rw [hd0] at h01 h02
               rw [ht0] at h02
               exact ⟨inv_pop h0, h01, h02⟩
             clear h1 h2 h3 h4
             refine WX.next ?_
             refine WC.seq ?_
             refine WC.seq ?_
             refine WC.region ?_
             refine WL.val rfl rfl rfl rfl (r_loadAgg (vs := [_, _]) rfl (ev_t rfl) agg_42 size_42 (Blk.cellsL hF3)) ?_
             refine WL.val rfl rfl rfl rfl (r_loadAgg (vs := [_, _, _, _]) rfl (ev_t rfl) agg_44 size_44 (Blk.cellsL hbi)) ?_
             refine WL.val rfl rfl rfl rfl (r_move rfl (ev_t rfl)) ?_
             refine WL.val rfl rfl rfl rfl (r_move rfl (ev_t rfl)) ?_
             refine WL.val rfl rfl rfl rfl (r_move rfl (ev_t rfl)) ?_
             refine WL.val rfl rfl rfl rfl (r_move rfl (ev_t rfl)) ?_
             refine WL.cons (SO.call (fine_ok (F := F) (i := i) (all := all) (hTk.upd hU) (hall.upd hU (fun _ _ _ h => h)) hio hKd hKt hF) rfl body_35 ⟨(ev_t rfl), (ev_t rfl), (ev_t rfl), (ev_t rfl), (ev_t rfl), (ev_t rfl), trivial⟩ rfl rfl rfl rfl ?_)
             rintro v w18 ⟨⟨bf, rfl, hbf1, hbf2⟩, hu18⟩
             have hs18 := hu18.size
             replace hU := hU.trans hu18 (by first | exact (fun _ _ h => h) | exact (fun _ _ h => h.elim) | (intro k hl hk; (try simp only [At, New, Grow, From, No] at hk ⊢); omega) | (intro k hl hk; first | (have h1 := hk.1; omega) | ((try simp only [At, New, Grow, From, No] at *); omega)))
             replace hF3 := hF3.upd hu18 (by first | exact (fun h => h) | (simp only [At, No]; omega) | (exact fun h => by have h1 := h.1; omega))
             replace hba := hba.upd hu18 (by first | exact (fun h => h) | (simp only [At, No]; omega) | (exact fun h => by have h1 := h.1; have h2 := h.2; omega))
             replace hCk := hCk.upd hu18 (by first | exact (fun _ _ _ h => h) | (intro k hk hl hS; simp only [At, No] at hk hS; omega))
             replace hbi := hbi.upd hu18 (by first | exact (fun h => h) | (simp only [At, No]; omega) | (exact fun h => by have h1 := h.1; have h2 := h.2; omega))
             refine WL.val rfl rfl rfl rfl (r_not rfl (ev_t rfl)) ?_
             refine WL.nil ?_
             refine WX.keep [(1, _), (2, _), (3, _), (7, _), (8, _), (9, _), (10, _), (11, _), (12, _), (13, _), (72, _)] ⟨rfl, rfl, rfl, rfl, rfl, rfl, rfl, rfl, rfl, rfl, rfl, trivial⟩ ?_
             refine WX.next ?_
             refine WC.cond rfl (ev_t rfl) (fun hc11 => ?_) (fun hc11 => ?_)
             · try (exfalso; first | (simp at hc11; done) | (simp only [decide_eq_true_eq, decide_eq_false_iff_not, Bool.not_eq_true', Bool.not_eq_false', Bool.not_eq_true, Bool.not_eq_false] at hc11; omega) | omega)
               all_goals
                try simp only [decide_eq_true_eq, decide_eq_false_iff_not, Bool.not_eq_true', Bool.not_eq_false', Bool.not_eq_true, Bool.not_eq_false, Option.isNone_none, Option.isNone_some, Option.isSome_none, Option.isSome_some, ne_eq, Decidable.not_not] at hc11
                refine WC.seq ?_
                refine WC.region ?_
                refine WL.val rfl rfl rfl rfl (r_assign rfl ev_c) ?_
                refine WL.nil ?_
                refine WX.keep [(6, _)] ⟨rfl, trivial⟩ ?_
                refine WX.next ?_
                refine WC.ret ?_
                refine WX.thenRet ?_
                refine WX.blockRet ?_
                refine WX.thenRet ?_
                refine WX.blockRet ?_
                refine WX.thenRet ?_
                refine WX.retE1 rfl rfl ?_
                refine ⟨⟨false, rfl, fun _ => rfl, fun hp _ => ⟨(fun h => by cases h), fun hg => ?_⟩⟩, hU⟩
                obtain ⟨i1, i2, i3, _⟩ := hIp hp
                have h9 := hbf2 i3
                rw [hc11] at h9
                exact absurd hg (fine_bad i1 (by rw [hd0]; exact i2) hi (by rw [hd0, ht0]; exact h9.symm))
             · try (exfalso; first | (simp at hc11; done) | (simp only [decide_eq_true_eq, decide_eq_false_iff_not, Bool.not_eq_true', Bool.not_eq_false', Bool.not_eq_true, Bool.not_eq_false] at hc11; omega) | omega)
               all_goals
                try simp only [decide_eq_true_eq, decide_eq_false_iff_not, Bool.not_eq_true', Bool.not_eq_false', Bool.not_eq_true, Bool.not_eq_false, Option.isNone_none, Option.isNone_some, Option.isSome_none, Option.isSome_some, ne_eq, Decidable.not_not] at hc11
                subst hc11
                have hop := hbf1 rfl
                refine WC.skip ?_
                refine WX.next ?_
                refine WC.seq ?_
                refine WC.region ?_
                refine WL.val rfl rfl rfl rfl (r_loadAgg (vs := [_, _, _, _]) rfl (ev_t rfl) agg_44 size_44 (Blk.cellsL hbi)) ?_
                refine WL.val rfl rfl rfl rfl (r_move rfl (ev_t rfl)) ?_
                refine WL.val rfl rfl rfl rfl (r_move rfl (ev_t rfl)) ?_
                refine WL.cons (SO.call (after_ok (hTk.upd hU) hio hop hKd hKt) rfl body_36 ⟨(ev_t rfl), (ev_t rfl), (ev_t rfl), trivial⟩ rfl rfl rfl rfl ?_)
                rintro v w19 ⟨⟨d1, t1, rfl, hd1, ht1, hdq, htq⟩, hu19⟩
                have hs19 := hu19.size
                replace hU := hU.trans hu19 (by first | exact (fun _ _ h => h) | exact (fun _ _ h => h.elim) | (intro k hl hk; (try simp only [At, New, Grow, From, No] at hk ⊢); omega) | (intro k hl hk; first | (have h1 := hk.1; omega) | ((try simp only [At, New, Grow, From, No] at *); omega)))
                replace hF3 := hF3.upd hu19 (by first | exact (fun h => h) | (simp only [At, No]; omega) | (exact fun h => by have h1 := h.1; omega))
                replace hba := hba.upd hu19 (by first | exact (fun h => h) | (simp only [At, No]; omega) | (exact fun h => by have h1 := h.1; have h2 := h.2; omega))
                replace hCk := hCk.upd hu19 (by first | exact (fun _ _ _ h => h) | (intro k hk hl hS; simp only [At, No] at hk hS; omega))
                replace hbi := hbi.upd hu19 (by first | exact (fun h => h) | (simp only [At, No]; omega) | (exact fun h => by have h1 := h.1; have h2 := h.2; omega))
                have hIq : PosAll all → InvD F all globs (fun k => k = a) D R T0 ∧ D.getD a 0 ≠ 0 ∧ fineB F i (D.getD a 0) (R.getD a 0) all globs = true ∧ d1 = d0 - nnI i + lvT i.op ∧ t1 = t0 + dtI i := fun hp => by
                  obtain ⟨i1, i2, i3, i4, i5, i6⟩ := hIp hp
                  have h9 := (hbf2 i3).symm
                  obtain ⟨h10, h11⟩ := fine_takes h9 hp i3
                  exact ⟨i1, by rw [hd0]; exact i2, by rw [hd0, ht0]; exact h9, hdq h10 (by omega) (by omega), htq (by omega) (by omega)⟩
                refine WL.val rfl rfl rfl rfl (r_move rfl (ev_t rfl)) ?_
                refine WL.val rfl rfl rfl rfl (r_extract rfl (ev_t rfl) rfl) ?_
                refine WL.val rfl rfl rfl rfl (r_extract rfl (ev_t rfl) rfl) ?_
                refine WL.val rfl rfl rfl rfl (r_extract rfl (ev_t rfl) rfl) ?_
                refine WL.val rfl rfl rfl rfl (r_assign rfl (ev_t rfl)) ?_
                refine WL.val rfl rfl rfl rfl (r_assign rfl (ev_t rfl)) ?_
                refine WL.val rfl rfl rfl rfl (r_assign rfl (ev_t rfl)) ?_
                refine WL.nil ?_
                refine WX.keep [(1, _), (2, _), (3, _), (7, _), (8, _), (9, _), (10, _), (11, _), (12, _), (13, _), (14, _), (15, _), (16, _)] ⟨rfl, rfl, rfl, rfl, rfl, rfl, rfl, rfl, rfl, rfl, rfl, rfl, rfl, trivial⟩ ?_
                refine WX.next ?_
                refine WC.seq ?_
                refine WC.region ?_
                refine WL.val rfl rfl rfl rfl (r_makeFunc (vs := []) (us := [_, _, _, _, _]) rfl trivial ⟨(ev_t rfl), (ev_t rfl), (ev_t rfl), (ev_t rfl), (ev_t rfl), trivial⟩) ?_
                refine WL.val rfl rfl rfl rfl (r_assign rfl (ev_t rfl)) ?_
                refine WL.nil ?_
                refine WX.keep [(1, _), (2, _), (3, _), (7, _), (8, _), (9, _), (10, _), (11, _), (12, _), (13, _), (14, _), (15, _), (16, _), (17, _)] ⟨rfl, rfl, rfl, rfl, rfl, rfl, rfl, rfl, rfl, rfl, rfl, rfl, rfl, rfl, trivial⟩ ?_
                refine WX.next ?_
                -- cut 15: live [1, 2, 3, 7, 8, 9, 11, 12, 13, 15, 16, 17]
                refine WC.cut (fun E w9 => ∃ (D1 R1 : List Int) (T1 : List Nat), Upd No w w9 ∧ bi < w9.heap.size ∧ CkS w9 (fun k => bF < k ∧ k ≠ ba ∧ k ≠ bi ∧ k < w9.heap.size) bD bR bT D1 R1 T1 ∧ Blk w9 bF #[.int .i64 F.caps, .slice (some ⟨bc, oc, none⟩) n c] 42 ∧ Blk w9 ba #[.int .i64 (a : Int)] 3 ∧ Blk w9 bi (insC i).toArray 44 ∧ D1.length = n ∧ R1.length = n ∧ (∀ k ∈ T1, k < n) ∧ Stk T1 ∧ T1.length ≤ T0.length + 1 ∧ 3 * wtT n T1 ≤ 3 * wtT n T0 + 3 ^ (n - a) ∧ (∀ k, inK .i64 (D1.getD k 0)) ∧ (∀ k, inK .i64 (R1.getD k 0)) ∧   (PosAll all → InvD F all globs (fun k => k = a) D1 R1 T1 ∧ D1.getD a 0 = d0 ∧ R1.getD a 0 = t0 ∧ (nextB i = true → a + 1 < n ∧ D1.getD (a + 1) 0 = d1 ∧ R1.getD (a + 1) 0 = t1)) ∧   E = [(1, allv), (2, .int .i64 globs), (3, .pointer (some ⟨bF, 0, none⟩)), (7, .pointer (some ⟨bD, 0, none⟩)), (8, .pointer (some ⟨bR, 0, none⟩)), (9, .pointer (some ⟨bT, 0, none⟩)), (11, .pointer (some ⟨bi, 0, none⟩)), (12, .int .i64 d0), (13, .int .i64 t0), (15, .int .i64 d1), (16, .int .i64 t1),     (17, .func (.func 37) #[] #[.pointer (some ⟨ba, 0, none⟩), .pointer (some ⟨bF, 0, none⟩), .pointer (some ⟨bD, 0, none⟩), .pointer (some ⟨bR, 0, none⟩), .pointer (some ⟨bT, 0, none⟩)])]) ?_ ?_
                · refine WC.seq ?_
                  refine WC.region ?_
                  refine WL.val rfl rfl rfl rfl (r_move rfl (ev_t rfl)) ?_
                  refine WL.val rfl rfl rfl rfl (r_move rfl (ev_t rfl)) ?_
                  refine WL.cases 83 rfl (fun hb15_1 => ?_) (fun hb15_1 => ?_)
                  · try (exfalso; first | (simp at hb15_1; done) | (simp only [decide_eq_true_eq, decide_eq_false_iff_not, Bool.not_eq_true', Bool.not_eq_false', Bool.not_eq_true, Bool.not_eq_false] at hb15_1; omega) | omega)
                    all_goals
                     try simp only [decide_eq_true_eq, decide_eq_false_iff_not, Bool.not_eq_true', Bool.not_eq_false', Bool.not_eq_true, Bool.not_eq_false, Option.isNone_none, Option.isNone_some, Option.isSome_none, Option.isSome_some, ne_eq, Decidable.not_not] at hb15_1
                     obtain ⟨b1, D1, R1, T1, he1⟩ : ∃ b1 D1 R1 T1, reachP n a ((a : Int) + 1) d1 t1 D R T0 = (b1, D1, R1, T1) := ⟨_, _, _, _, rfl⟩
                     obtain ⟨q1, q2, q3, q4⟩ := wt_reach (by omega) he1
                     obtain ⟨q5, q6⟩ := hSt0.reach (by omega) he1
                     obtain ⟨q7, q8⟩ := inK_reach hDl hRl hKD hKR hd1 ht1 he1
                     refine WL.val rfl rfl rfl rfl (r_move rfl (ev_t rfl)) ?_
                     refine WL.val rfl rfl rfl rfl (r_load rfl (ev_t rfl) flat_3 (Blk.cell hba rfl)) ?_
                     first | refine WL.val rfl rfl rfl rfl (r_addN rfl (ev_t rfl) ev_c (by simp only [inK]; omega)) ?_ | refine WL.val rfl rfl rfl rfl (r_add rfl (ev_t rfl) ev_c) ?_
                     refine WL.val rfl rfl rfl rfl (r_move rfl (ev_t rfl)) ?_
                     refine WL.val rfl rfl rfl rfl (r_move rfl (ev_t rfl)) ?_
                     refine WL.cons (SO.callV (vs := [_, _, _]) rfl (ev_t rfl) body_37 ⟨(ev_t rfl), (ev_t rfl), (ev_t rfl), trivial⟩ rfl (reach_ok hCk hba hF3 (fun h => by have := h.2; omega) (fun h => by have := h.1; omega) hDl hRl (by omega) he1) rfl rfl rfl rfl ?_)
                     rintro v w20 ⟨rfl, hCk, hu20⟩
                     have hps := hu20.size
                     have hs20 := hu20.size
                     replace hU := hU.trans hu20 (by first | exact (fun _ _ h => h) | exact (fun _ _ h => h.elim) | (intro k hl hk; (try simp only [At, New, Grow, From, No] at hk ⊢); omega) | (intro k hl hk; first | (have h1 := hk.1; omega) | ((try simp only [At, New, Grow, From, No] at *); omega)))
                     replace hF3 := hF3.upd hu20 (by first | exact (fun h => h) | (simp only [At, No]; omega) | (exact fun h => by have h1 := h.1; omega))
                     replace hba := hba.upd hu20 (by first | exact (fun h => h) | (simp only [At, No]; omega) | (exact fun h => by have h1 := h.1; have h2 := h.2; omega))
                     replace hbi := hbi.upd hu20 (by first | exact (fun h => h) | (simp only [At, No]; omega) | (exact fun h => by have h1 := h.1; have h2 := h.2; omega))
                     refine WL.val rfl rfl rfl rfl (r_not rfl (ev_t rfl)) ?_
                     refine WL.val rfl rfl rfl rfl (r_pickT rfl (ev_t rfl) (ev_t rfl)) ?_
                     refine WL.nil ?_
                     refine WX.keep [(1, _), (2, _), (3, _), (7, _), (8, _), (9, _), (11, _), (12, _), (13, _), (15, _), (16, _), (17, _), (91, _)] ⟨rfl, rfl, rfl, rfl, rfl, rfl, rfl, rfl, rfl, rfl, rfl, rfl, rfl, trivial⟩ ?_
                     refine WX.next ?_
                     refine WC.cond rfl (ev_t rfl) (fun hc15 => ?_) (fun hc15 => ?_)
                     · try (exfalso; first | (simp at hc15; done) | (simp only [decide_eq_true_eq, decide_eq_false_iff_not, Bool.not_eq_true', Bool.not_eq_false', Bool.not_eq_true, Bool.not_eq_false] at hc15; omega) | omega)
                       all_goals
                        try simp only [decide_eq_true_eq, decide_eq_false_iff_not, Bool.not_eq_true', Bool.not_eq_false', Bool.not_eq_true, Bool.not_eq_false, Option.isNone_none, Option.isNone_some, Option.isSome_none, Option.isSome_some, ne_eq, Decidable.not_not] at hc15
                        refine WC.seq ?_
                        refine WC.region ?_
                        refine WL.val rfl rfl rfl rfl (r_assign rfl ev_c) ?_
                        refine WL.nil ?_
                        refine WX.keep [(6, _)] ⟨rfl, trivial⟩ ?_
                        refine WX.next ?_
                        refine WC.ret ?_
                        refine WX.thenRet ?_
                        refine WX.blockRet ?_
                        refine WX.thenRet ?_
                        refine WX.blockRet ?_
                        refine WX.thenRet ?_
                        refine WX.retE1 rfl rfl ?_
                        refine ⟨⟨false, rfl, fun _ => rfl, fun hp _ => ⟨(fun h => by cases h), fun hg => ?_⟩⟩, hU⟩
                        obtain ⟨i1, i2, i3, i4, i5⟩ := hIq hp
                        have hmem : ((a : Int) + 1, d1, t1) ∈ succsI i a (D.getD a 0) (R.getD a 0) := by
                          rw [hd0, ht0, i4, i5]
                          exact List.mem_append.2 (.inl (by rw [if_pos (by assumption)]; simp))
                        exact absurd hg ((reach_inv i1 i2 hi i3 hp hmem (by rw [hn]; exact he1)).1 hc15)
                     · try (exfalso; first | (simp at hc15; done) | (simp only [decide_eq_true_eq, decide_eq_false_iff_not, Bool.not_eq_true', Bool.not_eq_false', Bool.not_eq_true, Bool.not_eq_false] at hc15; omega) | omega)
                       all_goals
                        try simp only [decide_eq_true_eq, decide_eq_false_iff_not, Bool.not_eq_true', Bool.not_eq_false', Bool.not_eq_true, Bool.not_eq_false, Option.isNone_none, Option.isNone_some, Option.isSome_none, Option.isSome_some, ne_eq, Decidable.not_not] at hc15
                        refine WC.skip ?_
                        refine WX.meet [(1, _), (2, _), (3, _), (7, _), (8, _), (9, _), (11, _), (12, _), (13, _), (15, _), (16, _), (17, _)] ⟨rfl, rfl, rfl, rfl, rfl, rfl, rfl, rfl, rfl, rfl, rfl, rfl, trivial⟩ ?_
                        first
                          | refine ⟨D1, R1, T1, hU, by omega, hCk.mono (fun k hk => ?_), hF3, hba, hbi, by omega, by omega, (fun k hk => (q4 k hk).elim (fun h => hTn k (by simp [h])) (fun h => h.2)), q5, q6, q1, q7, q8, fun hp => ?_, rfl⟩
                            · rcases hk with hk | hk
                              · have h1 := hk.1; have h2 := hk.2; exact ⟨h1, by omega, by omega, by omega⟩
                              · exact ⟨by omega, by omega, by omega, hk.2⟩
                            · obtain ⟨i1, i2, i3, i4, i5⟩ := hIq hp
                              have hmem : ((a : Int) + 1, d1, t1) ∈ succsI i a (D.getD a 0) (R.getD a 0) := by
                                rw [hd0, ht0, i4, i5]
                                exact List.mem_append.2 (.inl (by rw [if_pos (by assumption)]; simp))
                              obtain ⟨j1, j2, j3, j4, j5, j6⟩ := (reach_inv i1 i2 hi i3 hp hmem (by rw [hn]; exact he1)).2 hc15
                              rw [show ((a : Int) + 1).toNat = a + 1 by omega] at j4 j5
                              exact ⟨j1, by rw [(j6 a i2).1]; exact hd0, by rw [(j6 a i2).2]; exact ht0, fun _ => ⟨by omega, j4, j5⟩⟩
                          | exact ⟨D, R, T0, hU, by omega, hCk.mono (fun k hk => by have h1 := hk.1; have h2 := hk.2; exact ⟨h1, by omega, by omega, by omega⟩), hF3, hba, hbi, hDl, hRl, (fun k hk => hTn k (by simp [hk])), hSt0, by omega, Nat.le_add_right _ _, hKD, hKR, (fun hp => ⟨(hIq hp).1, hd0, ht0, fun h => by simp_all⟩), rfl⟩
                  · try (exfalso; first | (simp at hb15_1; done) | (simp only [decide_eq_true_eq, decide_eq_false_iff_not, Bool.not_eq_true', Bool.not_eq_false', Bool.not_eq_true, Bool.not_eq_false] at hb15_1; omega) | omega)
                    all_goals
                     try simp only [decide_eq_true_eq, decide_eq_false_iff_not, Bool.not_eq_true', Bool.not_eq_false', Bool.not_eq_true, Bool.not_eq_false, Option.isNone_none, Option.isNone_some, Option.isSome_none, Option.isSome_some, ne_eq, Decidable.not_not] at hb15_1
                     refine WL.skip rfl rfl rfl ?_
                     refine WL.skip rfl rfl rfl ?_
                     refine WL.skip rfl rfl rfl ?_
                     refine WL.skip rfl rfl rfl ?_
                     refine WL.skip rfl rfl rfl ?_
                     refine WL.skip rfl rfl rfl ?_
                     refine WL.skip rfl rfl rfl ?_
                     refine WL.val rfl rfl rfl rfl (r_pickF rfl (ev_t rfl) ev_c) ?_
                     refine WL.nil ?_
                     refine WX.keep [(1, _), (2, _), (3, _), (7, _), (8, _), (9, _), (11, _), (12, _), (13, _), (15, _), (16, _), (17, _), (91, _)] ⟨rfl, rfl, rfl, rfl, rfl, rfl, rfl, rfl, rfl, rfl, rfl, rfl, rfl, trivial⟩ ?_
                     refine WX.next ?_
                     refine WC.cond_false rfl (ev_t rfl) ?_
                     refine WC.skip ?_
                     refine WX.meet [(1, _), (2, _), (3, _), (7, _), (8, _), (9, _), (11, _), (12, _), (13, _), (15, _), (16, _), (17, _)] ⟨rfl, rfl, rfl, rfl, rfl, rfl, rfl, rfl, rfl, rfl, rfl, rfl, trivial⟩ ?_
                     first
                       | refine ⟨D1, R1, T1, hU, by omega, hCk.mono (fun k hk => ?_), hF3, hba, hbi, by omega, by omega, (fun k hk => (q4 k hk).elim (fun h => hTn k (by simp [h])) (fun h => h.2)), q5, q6, q1, q7, q8, fun hp => ?_, rfl⟩
                         · rcases hk with hk | hk
                           · have h1 := hk.1; have h2 := hk.2; exact ⟨h1, by omega, by omega, by omega⟩
                           · exact ⟨by omega, by omega, by omega, hk.2⟩
                         · obtain ⟨i1, i2, i3, i4, i5⟩ := hIq hp
                           have hmem : ((a : Int) + 1, d1, t1) ∈ succsI i a (D.getD a 0) (R.getD a 0) := by
                             rw [hd0, ht0, i4, i5]
                             exact List.mem_append.2 (.inl (by rw [if_pos (by assumption)]; simp))
                           obtain ⟨j1, j2, j3, j4, j5, j6⟩ := (reach_inv i1 i2 hi i3 hp hmem (by rw [hn]; exact he1)).2 hc15
                           rw [show ((a : Int) + 1).toNat = a + 1 by omega] at j4 j5
                           exact ⟨j1, by rw [(j6 a i2).1]; exact hd0, by rw [(j6 a i2).2]; exact ht0, fun _ => ⟨by omega, j4, j5⟩⟩
                       | exact ⟨D, R, T0, hU, by omega, hCk.mono (fun k hk => by have h1 := hk.1; have h2 := hk.2; exact ⟨h1, by omega, by omega, by omega⟩), hF3, hba, hbi, hDl, hRl, (fun k hk => hTn k (by simp [hk])), hSt0, by omega, Nat.le_add_right _ _, hKD, hKR, (fun hp => ⟨(hIq hp).1, hd0, ht0, fun h => by simp_all⟩), rfl⟩
                · rintro E w9 ⟨D1, R1, T1, hU, hw9, hCk, hF3, hba, hbi, hD1, hR1, hT1, hSt1, hTl1, hwt1, hKD1, hKR1, hI1, rfl⟩
                  refine WC.seq ?_
                  refine WC.region ?_
                  first | refine WL.val rfl rfl rfl rfl (r_field0 rfl (ev_t rfl) fld_44_0) ?_ | refine WL.val rfl rfl rfl rfl (r_fieldAt rfl (ev_t rfl) fld_44_0) ?_
                  refine WL.val rfl rfl rfl rfl (r_load rfl (ev_t rfl) flat_5 (Blk.cell hbi rfl)) ?_
                  refine WL.nil ?_
                  refine WX.keep [(1, _), (2, _), (3, _), (7, _), (8, _), (9, _), (11, _), (12, _), (13, _), (15, _), (16, _), (17, _), (93, _)] ⟨rfl, rfl, rfl, rfl, rfl, rfl, rfl, rfl, rfl, rfl, rfl, rfl, rfl, trivial⟩ ?_
                  refine WX.next ?_
                  refine WC.block ?_
                  refine WC.seq ?_
                  refine WC.seq ?_
                  refine WC.region ?_
                  refine WL.val rfl rfl rfl rfl (r_eql rfl (ev_t rfl) ev_c) ?_
                  refine WL.val rfl rfl rfl rfl (r_assign rfl (ev_t rfl)) ?_
                  refine WL.nil ?_
                  refine WX.keep [(1, _), (2, _), (3, _), (7, _), (8, _), (9, _), (11, _), (12, _), (13, _), (15, _), (16, _), (17, _), (93, _), (94, _)] ⟨rfl, rfl, rfl, rfl, rfl, rfl, rfl, rfl, rfl, rfl, rfl, rfl, rfl, rfl, trivial⟩ ?_
                  refine WX.next ?_
                  refine WC.cond rfl (ev_t rfl) (fun hc18 => ?_) (fun hc18 => ?_)
                  · try (exfalso; first | (simp at hc18; done) | (simp only [decide_eq_true_eq, decide_eq_false_iff_not, Bool.not_eq_true', Bool.not_eq_false', Bool.not_eq_true, Bool.not_eq_false] at hc18; omega) | omega)
                    all_goals
                     try simp only [decide_eq_true_eq, decide_eq_false_iff_not, Bool.not_eq_true', Bool.not_eq_false', Bool.not_eq_true, Bool.not_eq_false, Option.isNone_none, Option.isNone_some, Option.isSome_none, Option.isSome_some, ne_eq, Decidable.not_not] at hc18
                     refine WC.skip ?_
                     refine WX.next ?_
                     refine WC.cond rfl (ev_t rfl) (fun hc18 => ?_) (fun hc18 => ?_)
                     · try (exfalso; first | (simp at hc18; done) | (simp only [decide_eq_true_eq, decide_eq_false_iff_not, Bool.not_eq_true', Bool.not_eq_false', Bool.not_eq_true, Bool.not_eq_false] at hc18; omega) | omega)
                       all_goals
                        try simp only [decide_eq_true_eq, decide_eq_false_iff_not, Bool.not_eq_true', Bool.not_eq_false', Bool.not_eq_true, Bool.not_eq_false, Option.isNone_none, Option.isNone_some, Option.isSome_none, Option.isSome_some, ne_eq, Decidable.not_not] at hc18
                        refine WC.seq ?_
                        refine WC.region ?_
                        first | refine WL.val rfl rfl rfl rfl (r_field0 rfl (ev_t rfl) fld_44_1) ?_ | refine WL.val rfl rfl rfl rfl (r_fieldAt rfl (ev_t rfl) fld_44_1) ?_
                        refine WL.val rfl rfl rfl rfl (r_load rfl (ev_t rfl) flat_2 (Blk.cell hbi rfl)) ?_
                        first | refine WL.val rfl rfl rfl rfl (r_field0 rfl (ev_t rfl) fld_42_1) ?_ | refine WL.val rfl rfl rfl rfl (r_fieldAt rfl (ev_t rfl) fld_42_1) ?_
                        refine WL.val rfl rfl rfl rfl (r_load rfl (ev_t rfl) flat_40 (Blk.cell hF3 rfl)) ?_
                        refine WL.val rfl rfl rfl rfl (r_lenSlice (ts := #[]) rfl (ev_t rfl) elem_40) ?_
                        refine WL.val rfl rfl rfl rfl (r_geq rfl (ev_t rfl) (ev_t rfl)) ?_
                        refine WL.val rfl rfl rfl rfl (r_move rfl (ev_t rfl)) ?_
                        refine WL.cases 103 rfl (fun hb20_6 => ?_) (fun hb20_6 => ?_)
                        · try (exfalso; first | (simp at hb20_6; done) | (simp only [decide_eq_true_eq, decide_eq_false_iff_not, Bool.not_eq_true', Bool.not_eq_false', Bool.not_eq_true, Bool.not_eq_false] at hb20_6; omega) | omega)
                          all_goals
                           try simp only [decide_eq_true_eq, decide_eq_false_iff_not, Bool.not_eq_true', Bool.not_eq_false', Bool.not_eq_true, Bool.not_eq_false, Option.isNone_none, Option.isNone_some, Option.isSome_none, Option.isSome_some, ne_eq, Decidable.not_not] at hb20_6
                           refine WL.skip rfl rfl rfl ?_
                           refine WL.skip rfl rfl rfl ?_
                           refine WL.skip rfl rfl rfl ?_
                           refine WL.skip rfl rfl rfl ?_
                           refine WL.skip rfl rfl rfl ?_
                           refine WL.skip rfl rfl rfl ?_
                           refine WL.skip rfl rfl rfl ?_
                           refine WL.val rfl rfl rfl rfl (r_pickT rfl (ev_t rfl) ev_c) ?_
                           refine WL.nil ?_
                           refine WX.keep [(1, _), (2, _), (3, _), (7, _), (8, _), (9, _), (111, _)] ⟨rfl, rfl, rfl, rfl, rfl, rfl, rfl, trivial⟩ ?_
                           refine WX.next ?_
                           refine WC.cond_true rfl (ev_t rfl) ?_
                           refine WC.seq ?_
                           refine WC.region ?_
                           refine WL.val rfl rfl rfl rfl (r_assign rfl ev_c) ?_
                           refine WL.nil ?_
                           refine WX.keep [(6, _)] ⟨rfl, trivial⟩ ?_
                           refine WX.next ?_
                           refine WC.ret ?_
                           refine WX.blockRet ?_
                           refine WX.blockRet ?_
                           refine WX.thenRet ?_
                           refine WX.blockRet ?_
                           refine WX.thenRet ?_
                           refine WX.retE1 rfl rfl ?_
                           refine ⟨⟨false, rfl, fun _ => rfl, fun hp _ => ⟨(fun h => by cases h), fun hg => ?_⟩⟩, hU⟩
                           obtain ⟨i1, i2, i3, i4, i5⟩ := hIq hp
                           obtain ⟨j1, j2, j3, j4⟩ := hI1 hp
                           have hmem : (i.n, d1, t1) ∈ succsI i a (D1.getD a 0) (R1.getD a 0) := by
                             rw [j2, j3, i4, i5]
                             exact List.mem_append.2 (.inr (by rw [if_pos (by omega)]; simp))
                           rw [hd0, ht0] at i3
                           have hb : ∃ D2 R2 T2, reachP n a i.n d1 t1 D1 R1 T1 = (false, D2, R2, T2) := by
                             first
                               | exact ⟨_, _, _, by rw [← hc20]; exact he2⟩
                               | exact ⟨D1, R1, T1, by unfold reachP; rw [if_pos (.inr (by omega))]⟩
                           obtain ⟨_, _, _, hb⟩ := hb
                           exact absurd hg ((reach_inv j1 (by rw [j2]; exact (hIp hp).2.1) hi (by rw [j2, j3]; exact i3) hp hmem (by rw [hn]; exact hb)).1 rfl)
                        · try (exfalso; first | (simp at hb20_6; done) | (simp only [decide_eq_true_eq, decide_eq_false_iff_not, Bool.not_eq_true', Bool.not_eq_false', Bool.not_eq_true, Bool.not_eq_false] at hb20_6; omega) | omega)
                          all_goals
                           try simp only [decide_eq_true_eq, decide_eq_false_iff_not, Bool.not_eq_true', Bool.not_eq_false', Bool.not_eq_true, Bool.not_eq_false, Option.isNone_none, Option.isNone_some, Option.isSome_none, Option.isSome_some, ne_eq, Decidable.not_not] at hb20_6
                           obtain ⟨b2, D2, R2, T2, he2⟩ : ∃ b2 D2 R2 T2, reachP n a i.n d1 t1 D1 R1 T1 = (b2, D2, R2, T2) := ⟨_, _, _, _, rfl⟩
                           obtain ⟨q1, q2, q3, q4⟩ := wt_reach (by omega) he2
                           obtain ⟨q5, q6⟩ := hSt1.reach (by omega) he2
                           obtain ⟨q7, q8⟩ := inK_reach hD1 hR1 hKD1 hKR1 hd1 ht1 he2
                           refine WL.val rfl rfl rfl rfl (r_move rfl (ev_t rfl)) ?_
                           first | refine WL.val rfl rfl rfl rfl (r_field0 rfl (ev_t rfl) fld_44_1) ?_ | refine WL.val rfl rfl rfl rfl (r_fieldAt rfl (ev_t rfl) fld_44_1) ?_
                           refine WL.val rfl rfl rfl rfl (r_load rfl (ev_t rfl) flat_2 (Blk.cell hbi rfl)) ?_
                           refine WL.val rfl rfl rfl rfl (r_move rfl (ev_t rfl)) ?_
                           refine WL.val rfl rfl rfl rfl (r_move rfl (ev_t rfl)) ?_
                           refine WL.cons (SO.callV (vs := [_, _, _]) rfl (ev_t rfl) body_37 ⟨(ev_t rfl), (ev_t rfl), (ev_t rfl), trivial⟩ rfl (reach_ok hCk hba hF3 (fun h => by have := h.2; omega) (fun h => by have := h.1; omega) hD1 hR1 (by omega) he2) rfl rfl rfl rfl ?_)
                           rintro v w21 ⟨rfl, hCk, hu21⟩
                           have hps := hu21.size
                           have hs21 := hu21.size
                           replace hU := hU.trans hu21 (by first | exact (fun _ _ h => h) | exact (fun _ _ h => h.elim) | (intro k hl hk; (try simp only [At, New, Grow, From, No] at hk ⊢); omega) | (intro k hl hk; first | (have h1 := hk.1; omega) | ((try simp only [At, New, Grow, From, No] at *); omega)))
                           replace hF3 := hF3.upd hu21 (by first | exact (fun h => h) | (simp only [At, No]; omega) | (exact fun h => by have h1 := h.1; omega))
                           replace hba := hba.upd hu21 (by first | exact (fun h => h) | (simp only [At, No]; omega) | (exact fun h => by have h1 := h.1; have h2 := h.2; omega))
                           replace hbi := hbi.upd hu21 (by first | exact (fun h => h) | (simp only [At, No]; omega) | (exact fun h => by have h1 := h.1; have h2 := h.2; omega))
                           refine WL.val rfl rfl rfl rfl (r_not rfl (ev_t rfl)) ?_
                           refine WL.val rfl rfl rfl rfl (r_pickF rfl (ev_t rfl) (ev_t rfl)) ?_
                           refine WL.nil ?_
                           refine WX.keep [(1, _), (2, _), (3, _), (7, _), (8, _), (9, _), (111, _)] ⟨rfl, rfl, rfl, rfl, rfl, rfl, rfl, trivial⟩ ?_
                           refine WX.next ?_
                           refine WC.cond rfl (ev_t rfl) (fun hc20 => ?_) (fun hc20 => ?_)
                           · try (exfalso; first | (simp at hc20; done) | (simp only [decide_eq_true_eq, decide_eq_false_iff_not, Bool.not_eq_true', Bool.not_eq_false', Bool.not_eq_true, Bool.not_eq_false] at hc20; omega) | omega)
                             all_goals
                              try simp only [decide_eq_true_eq, decide_eq_false_iff_not, Bool.not_eq_true', Bool.not_eq_false', Bool.not_eq_true, Bool.not_eq_false, Option.isNone_none, Option.isNone_some, Option.isSome_none, Option.isSome_some, ne_eq, Decidable.not_not] at hc20
                              refine WC.seq ?_
                              refine WC.region ?_
                              refine WL.val rfl rfl rfl rfl (r_assign rfl ev_c) ?_
                              refine WL.nil ?_
                              refine WX.keep [(6, _)] ⟨rfl, trivial⟩ ?_
                              refine WX.next ?_
                              refine WC.ret ?_
                              refine WX.blockRet ?_
                              refine WX.blockRet ?_
                              refine WX.thenRet ?_
                              refine WX.blockRet ?_
                              refine WX.thenRet ?_
                              refine WX.retE1 rfl rfl ?_
                              refine ⟨⟨false, rfl, fun _ => rfl, fun hp _ => ⟨(fun h => by cases h), fun hg => ?_⟩⟩, hU⟩
                              obtain ⟨i1, i2, i3, i4, i5⟩ := hIq hp
                              obtain ⟨j1, j2, j3, j4⟩ := hI1 hp
                              have hmem : (i.n, d1, t1) ∈ succsI i a (D1.getD a 0) (R1.getD a 0) := by
                                rw [j2, j3, i4, i5]
                                exact List.mem_append.2 (.inr (by rw [if_pos (by omega)]; simp))
                              rw [hd0, ht0] at i3
                              have hb : ∃ D2 R2 T2, reachP n a i.n d1 t1 D1 R1 T1 = (false, D2, R2, T2) := by
                                first
                                  | exact ⟨_, _, _, by rw [← hc20]; exact he2⟩
                                  | exact ⟨D1, R1, T1, by unfold reachP; rw [if_pos (.inr (by omega))]⟩
                              obtain ⟨_, _, _, hb⟩ := hb
                              exact absurd hg ((reach_inv j1 (by rw [j2]; exact (hIp hp).2.1) hi (by rw [j2, j3]; exact i3) hp hmem (by rw [hn]; exact hb)).1 rfl)
                           · try (exfalso; first | (simp at hc20; done) | (simp only [decide_eq_true_eq, decide_eq_false_iff_not, Bool.not_eq_true', Bool.not_eq_false', Bool.not_eq_true, Bool.not_eq_false] at hc20; omega) | omega)
                             all_goals
                              try simp only [decide_eq_true_eq, decide_eq_false_iff_not, Bool.not_eq_true', Bool.not_eq_false', Bool.not_eq_true, Bool.not_eq_false, Option.isNone_none, Option.isNone_some, Option.isSome_none, Option.isSome_some, ne_eq, Decidable.not_not] at hc20
                              subst hc20
                              refine WC.skip ?_
                              refine WX.blockNormal ?_
                              refine WX.blockNormal ?_
                              refine WX.meet [(1, _), (2, _), (3, _), (7, _), (8, _), (9, _)] ⟨rfl, rfl, rfl, rfl, rfl, rfl, trivial⟩ ?_
                              have hP : 0 < 3 ^ (n - a) := Nat.pow_pos (by omega)
                              have hwq : wtT n (T0 ++ [a]) = wtT n T0 + 3 ^ (n - a) := wt_snoc _ _ _
                              have hw99 := hU.size
                              first
                                | refine ⟨wtT n T2, by omega, D2, R2, T2, rfl, hU, by omega, hCk.mono (fun k hk => ?_), hF3, by omega, by omega, (fun k hk => (q4 k hk).elim (hT1 k) (fun h => h.2)), q5, q7, q8, fun hp => ?_, rfl⟩
                                  · rcases hk with hk | hk
                                    · have h1 := hk.1; have h2 := hk.2; exact ⟨h1, by omega⟩
                                    · exact ⟨by omega, hk.2⟩
                                  · obtain ⟨i1, i2, i3, i4, i5⟩ := hIq hp
                                    obtain ⟨j1, j2, j3, j4⟩ := hI1 hp
                                    obtain ⟨_, k2, k3, k4, _, _⟩ := hIp hp
                                    rw [hd0, ht0] at i3
                                    have hw : IntKind.i64.wrap (d0 + 1) = d0 + 1 := wrap_i64_in (by omega) (by omega)
                                    try rw [hw] at he2
                                    have hk1 : nextB i = true → D1.getD (a + 1) 0 ≠ 0 := fun hx => by
                                      obtain ⟨m1, m2, m3⟩ := j4 hx
                                      have := fine_takes i3 hp k3
                                      have := (tk_le hop).2.2.1
                                      omega
                                    first
                                      | (have hmem : (i.n, d1, t1) ∈ succsI i a (D1.getD a 0) (R1.getD a 0) := by
                                           rw [j2, j3, i4, i5]
                                           exact List.mem_append.2 (.inr (by rw [if_pos (by omega)]; simp))
                                         obtain ⟨l1, l2, l3, l4, l5, l6⟩ := (reach_inv j1 (by rw [j2]; exact k2) hi (by rw [j2, j3]; exact i3) hp hmem (by rw [hn]; exact he2)).2 rfl
                                         have l7 := l6 a (by rw [j2]; exact k2)
                                         refine inv_done l1 (proc_of hi (l7.1.trans j2) (l7.2.trans j3) i3 (fun hx => ?_) (fun _ => ⟨l2, l3, by rw [l4, i4], by rw [l5, i5]⟩) (fun hx => by omega))
                                         obtain ⟨m1, m2, m3⟩ := j4 hx
                                         have l8 := l6 (a + 1) (hk1 hx)
                                         exact ⟨by omega, by rw [l8.1, m2, i4], by rw [l8.2, m3, i5]⟩)
                                      | (have hmem : (i.n, d0 + 1, t0) ∈ succsI i a (D1.getD a 0) (R1.getD a 0) := by
                                           rw [j2, j3]
                                           exact List.mem_append.2 (.inr (by rw [if_neg (by omega), if_pos (by omega)]; simp))
                                         obtain ⟨l1, l2, l3, l4, l5, l6⟩ := (reach_inv j1 (by rw [j2]; exact k2) hi (by rw [j2, j3]; exact i3) hp hmem (by rw [hn]; exact he2)).2 rfl
                                         have l7 := l6 a (by rw [j2]; exact k2)
                                         refine inv_done l1 (proc_of hi (l7.1.trans j2) (l7.2.trans j3) i3 (fun hx => ?_) (fun hx => by omega) (fun _ => ⟨l2, l3, l4, l5⟩))
                                         obtain ⟨m1, m2, m3⟩ := j4 hx
                                         have l8 := l6 (a + 1) (hk1 hx)
                                         exact ⟨by omega, by rw [l8.1, m2, i4], by rw [l8.2, m3, i5]⟩)
                                | refine ⟨wtT n T1, by omega, D1, R1, T1, rfl, hU, by omega, hCk.mono (fun k hk => ⟨hk.1, hk.2.2.2⟩), hF3, hD1, hR1, hT1, hSt1, hKD1, hKR1, fun hp => ?_, rfl⟩
                                  obtain ⟨i1, i2, i3, i4, i5⟩ := hIq hp
                                  obtain ⟨j1, j2, j3, j4⟩ := hI1 hp
                                  rw [hd0, ht0] at i3
                                  refine inv_done j1 (proc_of hi j2 j3 i3 (fun hx => ?_) (fun hx => by omega) (fun hx => by omega))
                                  obtain ⟨m1, m2, m3⟩ := j4 hx
                                  exact ⟨by omega, by rw [m2, i4], by rw [m3, i5]⟩
                     · try (exfalso; first | (simp at hc18; done) | (simp only [decide_eq_true_eq, decide_eq_false_iff_not, Bool.not_eq_true', Bool.not_eq_false', Bool.not_eq_true, Bool.not_eq_false] at hc18; omega) | omega)
                       all_goals
                        try simp only [decide_eq_true_eq, decide_eq_false_iff_not, Bool.not_eq_true', Bool.not_eq_false', Bool.not_eq_true, Bool.not_eq_false, Option.isNone_none, Option.isNone_some, Option.isSome_none, Option.isSome_some, ne_eq, Decidable.not_not] at hc18
                        refine WC.seq ?_
                        refine WC.region ?_
                        refine WL.val rfl rfl rfl rfl (r_eql rfl (ev_t rfl) ev_c) ?_
                        refine WL.val rfl rfl rfl rfl (r_assign rfl (ev_t rfl)) ?_
                        refine WL.nil ?_
                        refine WX.keep [(1, _), (2, _), (3, _), (7, _), (8, _), (9, _), (11, _), (12, _), (13, _), (17, _), (112, _)] ⟨rfl, rfl, rfl, rfl, rfl, rfl, rfl, rfl, rfl, rfl, rfl, trivial⟩ ?_
                        refine WX.next ?_
                        refine WC.cond rfl (ev_t rfl) (fun hc22 => ?_) (fun hc22 => ?_)
                        · try (exfalso; first | (simp at hc22; done) | (simp only [decide_eq_true_eq, decide_eq_false_iff_not, Bool.not_eq_true', Bool.not_eq_false', Bool.not_eq_true, Bool.not_eq_false] at hc22; omega) | omega)
                          all_goals
                           try simp only [decide_eq_true_eq, decide_eq_false_iff_not, Bool.not_eq_true', Bool.not_eq_false', Bool.not_eq_true, Bool.not_eq_false, Option.isNone_none, Option.isNone_some, Option.isSome_none, Option.isSome_some, ne_eq, Decidable.not_not] at hc22
                           refine WC.seq ?_
                           refine WC.region ?_
                           first | refine WL.val rfl rfl rfl rfl (r_field0 rfl (ev_t rfl) fld_44_1) ?_ | refine WL.val rfl rfl rfl rfl (r_fieldAt rfl (ev_t rfl) fld_44_1) ?_
                           refine WL.val rfl rfl rfl rfl (r_load rfl (ev_t rfl) flat_2 (Blk.cell hbi rfl)) ?_
                           first | refine WL.val rfl rfl rfl rfl (r_field0 rfl (ev_t rfl) fld_42_1) ?_ | refine WL.val rfl rfl rfl rfl (r_fieldAt rfl (ev_t rfl) fld_42_1) ?_
                           refine WL.val rfl rfl rfl rfl (r_load rfl (ev_t rfl) flat_40 (Blk.cell hF3 rfl)) ?_
                           refine WL.val rfl rfl rfl rfl (r_lenSlice (ts := #[]) rfl (ev_t rfl) elem_40) ?_
                           refine WL.val rfl rfl rfl rfl (r_geq rfl (ev_t rfl) (ev_t rfl)) ?_
                           refine WL.val rfl rfl rfl rfl (r_move rfl (ev_t rfl)) ?_
                           refine WL.cases 120 rfl (fun hb23_6 => ?_) (fun hb23_6 => ?_)
                           · try (exfalso; first | (simp at hb23_6; done) | (simp only [decide_eq_true_eq, decide_eq_false_iff_not, Bool.not_eq_true', Bool.not_eq_false', Bool.not_eq_true, Bool.not_eq_false] at hb23_6; omega) | omega)
                             all_goals
                              try simp only [decide_eq_true_eq, decide_eq_false_iff_not, Bool.not_eq_true', Bool.not_eq_false', Bool.not_eq_true, Bool.not_eq_false, Option.isNone_none, Option.isNone_some, Option.isSome_none, Option.isSome_some, ne_eq, Decidable.not_not] at hb23_6
                              refine WL.skip rfl rfl rfl ?_
                              refine WL.skip rfl rfl rfl ?_
                              refine WL.skip rfl rfl rfl ?_
                              refine WL.skip rfl rfl rfl ?_
                              refine WL.skip rfl rfl rfl ?_
                              refine WL.skip rfl rfl rfl ?_
                              refine WL.skip rfl rfl rfl ?_
                              refine WL.skip rfl rfl rfl ?_
                              refine WL.val rfl rfl rfl rfl (r_pickT rfl (ev_t rfl) ev_c) ?_
                              refine WL.nil ?_
                              refine WX.keep [(1, _), (2, _), (3, _), (7, _), (8, _), (9, _), (129, _)] ⟨rfl, rfl, rfl, rfl, rfl, rfl, rfl, trivial⟩ ?_
                              refine WX.next ?_
                              refine WC.cond_true rfl (ev_t rfl) ?_
                              refine WC.seq ?_
                              refine WC.region ?_
                              refine WL.val rfl rfl rfl rfl (r_assign rfl ev_c) ?_
                              refine WL.nil ?_
                              refine WX.keep [(6, _)] ⟨rfl, trivial⟩ ?_
                              refine WX.next ?_
                              refine WC.ret ?_
                              refine WX.blockRet ?_
                              refine WX.blockRet ?_
                              refine WX.thenRet ?_
                              refine WX.blockRet ?_
                              refine WX.thenRet ?_
                              refine WX.retE1 rfl rfl ?_
                              refine ⟨⟨false, rfl, fun _ => rfl, fun hp _ => ⟨(fun h => by cases h), fun hg => ?_⟩⟩, hU⟩
                              obtain ⟨i1, i2, i3, i4, i5⟩ := hIq hp
                              obtain ⟨j1, j2, j3, j4⟩ := hI1 hp
                              obtain ⟨_, k2, k3, k4, _, _⟩ := hIp hp
                              have hw : IntKind.i64.wrap (d0 + 1) = d0 + 1 := wrap_i64_in (by omega) (by omega)
                              have hmem : (i.n, d0 + 1, t0) ∈ succsI i a (D1.getD a 0) (R1.getD a 0) := by
                                rw [j2, j3]
                                exact List.mem_append.2 (.inr (by rw [if_neg (by omega), if_pos (by omega)]; simp))
                              rw [hd0, ht0] at i3
                              have hb : ∃ D2 R2 T2, reachP n a i.n (d0 + 1) t0 D1 R1 T1 = (false, D2, R2, T2) := by
                                first
                                  | exact ⟨_, _, _, by rw [← hc23, ← hw]; exact he2⟩
                                  | exact ⟨D1, R1, T1, by unfold reachP; rw [if_pos (.inr (by omega))]⟩
                              obtain ⟨_, _, _, hb⟩ := hb
                              exact absurd hg ((reach_inv j1 (by rw [j2]; exact k2) hi (by rw [j2, j3]; exact i3) hp hmem (by rw [hn]; exact hb)).1 rfl)
                           · try (exfalso; first | (simp at hb23_6; done) | (simp only [decide_eq_true_eq, decide_eq_false_iff_not, Bool.not_eq_true', Bool.not_eq_false', Bool.not_eq_true, Bool.not_eq_false] at hb23_6; omega) | omega)
                             all_goals
                              try simp only [decide_eq_true_eq, decide_eq_false_iff_not, Bool.not_eq_true', Bool.not_eq_false', Bool.not_eq_true, Bool.not_eq_false, Option.isNone_none, Option.isNone_some, Option.isSome_none, Option.isSome_some, ne_eq, Decidable.not_not] at hb23_6
                              obtain ⟨b2, D2, R2, T2, he2⟩ : ∃ b2 D2 R2 T2, reachP n a i.n (IntKind.i64.wrap (d0 + 1)) t0 D1 R1 T1 = (b2, D2, R2, T2) := ⟨_, _, _, _, rfl⟩
                              obtain ⟨q1, q2, q3, q4⟩ := wt_reach (by omega) he2
                              obtain ⟨q5, q6⟩ := hSt1.reach (by omega) he2
                              obtain ⟨q7, q8⟩ := inK_reach hD1 hR1 hKD1 hKR1 (wrap_inK _ _) hKt he2
                              refine WL.val rfl rfl rfl rfl (r_move rfl (ev_t rfl)) ?_
                              first | refine WL.val rfl rfl rfl rfl (r_field0 rfl (ev_t rfl) fld_44_1) ?_ | refine WL.val rfl rfl rfl rfl (r_fieldAt rfl (ev_t rfl) fld_44_1) ?_
                              refine WL.val rfl rfl rfl rfl (r_load rfl (ev_t rfl) flat_2 (Blk.cell hbi rfl)) ?_
                              refine WL.val rfl rfl rfl rfl (r_move rfl (ev_t rfl)) ?_
                              refine WL.val rfl rfl rfl rfl (r_add rfl (ev_t rfl) ev_c) ?_
                              refine WL.val rfl rfl rfl rfl (r_move rfl (ev_t rfl)) ?_
                              refine WL.cons (SO.callV (vs := [_, _, _]) rfl (ev_t rfl) body_37 ⟨(ev_t rfl), (ev_t rfl), (ev_t rfl), trivial⟩ rfl (reach_ok hCk hba hF3 (fun h => by have := h.2; omega) (fun h => by have := h.1; omega) hD1 hR1 (by omega) he2) rfl rfl rfl rfl ?_)
                              rintro v w22 ⟨rfl, hCk, hu22⟩
                              have hps := hu22.size
                              have hs22 := hu22.size
                              replace hU := hU.trans hu22 (by first | exact (fun _ _ h => h) | exact (fun _ _ h => h.elim) | (intro k hl hk; (try simp only [At, New, Grow, From, No] at hk ⊢); omega) | (intro k hl hk; first | (have h1 := hk.1; omega) | ((try simp only [At, New, Grow, From, No] at *); omega)))
                              replace hF3 := hF3.upd hu22 (by first | exact (fun h => h) | (simp only [At, No]; omega) | (exact fun h => by have h1 := h.1; omega))
                              replace hba := hba.upd hu22 (by first | exact (fun h => h) | (simp only [At, No]; omega) | (exact fun h => by have h1 := h.1; have h2 := h.2; omega))
                              replace hbi := hbi.upd hu22 (by first | exact (fun h => h) | (simp only [At, No]; omega) | (exact fun h => by have h1 := h.1; have h2 := h.2; omega))
                              refine WL.val rfl rfl rfl rfl (r_not rfl (ev_t rfl)) ?_
                              refine WL.val rfl rfl rfl rfl (r_pickF rfl (ev_t rfl) (ev_t rfl)) ?_
                              refine WL.nil ?_
                              refine WX.keep [(1, _), (2, _), (3, _), (7, _), (8, _), (9, _), (129, _)] ⟨rfl, rfl, rfl, rfl, rfl, rfl, rfl, trivial⟩ ?_
                              refine WX.next ?_
                              refine WC.cond rfl (ev_t rfl) (fun hc23 => ?_) (fun hc23 => ?_)
                              · try (exfalso; first | (simp at hc23; done) | (simp only [decide_eq_true_eq, decide_eq_false_iff_not, Bool.not_eq_true', Bool.not_eq_false', Bool.not_eq_true, Bool.not_eq_false] at hc23; omega) | omega)
                                all_goals
                                 try simp only [decide_eq_true_eq, decide_eq_false_iff_not, Bool.not_eq_true', Bool.not_eq_false', Bool.not_eq_true, Bool.not_eq_false, Option.isNone_none, Option.isNone_some, Option.isSome_none, Option.isSome_some, ne_eq, Decidable.not_not] at hc23
                                 refine WC.seq ?_
                                 refine WC.region ?_
                                 refine WL.val rfl rfl rfl rfl (r_assign rfl ev_c) ?_
                                 refine WL.nil ?_
                                 refine WX.keep [(6, _)] ⟨rfl, trivial⟩ ?_
                                 refine WX.next ?_
                                 refine WC.ret ?_
                                 refine WX.blockRet ?_
                                 refine WX.blockRet ?_
                                 refine WX.thenRet ?_
                                 refine WX.blockRet ?_
                                 refine WX.thenRet ?_
                                 refine WX.retE1 rfl rfl ?_
                                 refine ⟨⟨false, rfl, fun _ => rfl, fun hp _ => ⟨(fun h => by cases h), fun hg => ?_⟩⟩, hU⟩
                                 obtain ⟨i1, i2, i3, i4, i5⟩ := hIq hp
                                 obtain ⟨j1, j2, j3, j4⟩ := hI1 hp
                                 obtain ⟨_, k2, k3, k4, _, _⟩ := hIp hp
                                 have hw : IntKind.i64.wrap (d0 + 1) = d0 + 1 := wrap_i64_in (by omega) (by omega)
                                 have hmem : (i.n, d0 + 1, t0) ∈ succsI i a (D1.getD a 0) (R1.getD a 0) := by
                                   rw [j2, j3]
                                   exact List.mem_append.2 (.inr (by rw [if_neg (by omega), if_pos (by omega)]; simp))
                                 rw [hd0, ht0] at i3
                                 have hb : ∃ D2 R2 T2, reachP n a i.n (d0 + 1) t0 D1 R1 T1 = (false, D2, R2, T2) := by
                                   first
                                     | exact ⟨_, _, _, by rw [← hc23, ← hw]; exact he2⟩
                                     | exact ⟨D1, R1, T1, by unfold reachP; rw [if_pos (.inr (by omega))]⟩
                                 obtain ⟨_, _, _, hb⟩ := hb
                                 exact absurd hg ((reach_inv j1 (by rw [j2]; exact k2) hi (by rw [j2, j3]; exact i3) hp hmem (by rw [hn]; exact hb)).1 rfl)
                              · try (exfalso; first | (simp at hc23; done) | (simp only [decide_eq_true_eq, decide_eq_false_iff_not, Bool.not_eq_true', Bool.not_eq_false', Bool.not_eq_true, Bool.not_eq_false] at hc23; omega) | omega)
                                all_goals
                                 try simp only [decide_eq_true_eq, decide_eq_false_iff_not, Bool.not_eq_true', Bool.not_eq_false', Bool.not_eq_true, Bool.not_eq_false, Option.isNone_none, Option.isNone_some, Option.isSome_none, Option.isSome_some, ne_eq, Decidable.not_not] at hc23
                                 subst hc23
                                 refine WC.skip ?_
                                 refine WX.blockNormal ?_
                                 refine WX.blockNormal ?_
                                 refine WX.meet [(1, _), (2, _), (3, _), (7, _), (8, _), (9, _)] ⟨rfl, rfl, rfl, rfl, rfl, rfl, trivial⟩ ?_
                                 have hP : 0 < 3 ^ (n - a) := Nat.pow_pos (by omega)
                                 have hwq : wtT n (T0 ++ [a]) = wtT n T0 + 3 ^ (n - a) := wt_snoc _ _ _
                                 have hw99 := hU.size
                                 first
                                   | refine ⟨wtT n T2, by omega, D2, R2, T2, rfl, hU, by omega, hCk.mono (fun k hk => ?_), hF3, by omega, by omega, (fun k hk => (q4 k hk).elim (hT1 k) (fun h => h.2)), q5, q7, q8, fun hp => ?_, rfl⟩
                                     · rcases hk with hk | hk
                                       · have h1 := hk.1; have h2 := hk.2; exact ⟨h1, by omega⟩
                                       · exact ⟨by omega, hk.2⟩
                                     · obtain ⟨i1, i2, i3, i4, i5⟩ := hIq hp
                                       obtain ⟨j1, j2, j3, j4⟩ := hI1 hp
                                       obtain ⟨_, k2, k3, k4, _, _⟩ := hIp hp
                                       rw [hd0, ht0] at i3
                                       have hw : IntKind.i64.wrap (d0 + 1) = d0 + 1 := wrap_i64_in (by omega) (by omega)
                                       try rw [hw] at he2
                                       have hk1 : nextB i = true → D1.getD (a + 1) 0 ≠ 0 := fun hx => by
                                         obtain ⟨m1, m2, m3⟩ := j4 hx
                                         have := fine_takes i3 hp k3
                                         have := (tk_le hop).2.2.1
                                         omega
                                       first
                                         | (have hmem : (i.n, d1, t1) ∈ succsI i a (D1.getD a 0) (R1.getD a 0) := by
                                              rw [j2, j3, i4, i5]
                                              exact List.mem_append.2 (.inr (by rw [if_pos (by omega)]; simp))
                                            obtain ⟨l1, l2, l3, l4, l5, l6⟩ := (reach_inv j1 (by rw [j2]; exact k2) hi (by rw [j2, j3]; exact i3) hp hmem (by rw [hn]; exact he2)).2 rfl
                                            have l7 := l6 a (by rw [j2]; exact k2)
                                            refine inv_done l1 (proc_of hi (l7.1.trans j2) (l7.2.trans j3) i3 (fun hx => ?_) (fun _ => ⟨l2, l3, by rw [l4, i4], by rw [l5, i5]⟩) (fun hx => by omega))
                                            obtain ⟨m1, m2, m3⟩ := j4 hx
                                            have l8 := l6 (a + 1) (hk1 hx)
                                            exact ⟨by omega, by rw [l8.1, m2, i4], by rw [l8.2, m3, i5]⟩)
                                         | (have hmem : (i.n, d0 + 1, t0) ∈ succsI i a (D1.getD a 0) (R1.getD a 0) := by
                                              rw [j2, j3]
                                              exact List.mem_append.2 (.inr (by rw [if_neg (by omega), if_pos (by omega)]; simp))
                                            obtain ⟨l1, l2, l3, l4, l5, l6⟩ := (reach_inv j1 (by rw [j2]; exact k2) hi (by rw [j2, j3]; exact i3) hp hmem (by rw [hn]; exact he2)).2 rfl
                                            have l7 := l6 a (by rw [j2]; exact k2)
                                            refine inv_done l1 (proc_of hi (l7.1.trans j2) (l7.2.trans j3) i3 (fun hx => ?_) (fun hx => by omega) (fun _ => ⟨l2, l3, l4, l5⟩))
                                            obtain ⟨m1, m2, m3⟩ := j4 hx
                                            have l8 := l6 (a + 1) (hk1 hx)
                                            exact ⟨by omega, by rw [l8.1, m2, i4], by rw [l8.2, m3, i5]⟩)
                                   | refine ⟨wtT n T1, by omega, D1, R1, T1, rfl, hU, by omega, hCk.mono (fun k hk => ⟨hk.1, hk.2.2.2⟩), hF3, hD1, hR1, hT1, hSt1, hKD1, hKR1, fun hp => ?_, rfl⟩
                                     obtain ⟨i1, i2, i3, i4, i5⟩ := hIq hp
                                     obtain ⟨j1, j2, j3, j4⟩ := hI1 hp
                                     rw [hd0, ht0] at i3
                                     refine inv_done j1 (proc_of hi j2 j3 i3 (fun hx => ?_) (fun hx => by omega) (fun hx => by omega))
                                     obtain ⟨m1, m2, m3⟩ := j4 hx
                                     exact ⟨by omega, by rw [m2, i4], by rw [m3, i5]⟩
                        · try (exfalso; first | (simp at hc22; done) | (simp only [decide_eq_true_eq, decide_eq_false_iff_not, Bool.not_eq_true', Bool.not_eq_false', Bool.not_eq_true, Bool.not_eq_false] at hc22; omega) | omega)
                          all_goals
                           try simp only [decide_eq_true_eq, decide_eq_false_iff_not, Bool.not_eq_true', Bool.not_eq_false', Bool.not_eq_true, Bool.not_eq_false, Option.isNone_none, Option.isNone_some, Option.isSome_none, Option.isSome_some, ne_eq, Decidable.not_not] at hc22
                           refine WC.skip ?_
                           refine WX.blockNormal ?_
                           refine WX.blockNormal ?_
                           refine WX.meet [(1, _), (2, _), (3, _), (7, _), (8, _), (9, _)] ⟨rfl, rfl, rfl, rfl, rfl, rfl, trivial⟩ ?_
                           have hP : 0 < 3 ^ (n - a) := Nat.pow_pos (by omega)
                           have hwq : wtT n (T0 ++ [a]) = wtT n T0 + 3 ^ (n - a) := wt_snoc _ _ _
                           have hw99 := hU.size
                           first
                             | refine ⟨wtT n T2, by omega, D2, R2, T2, rfl, hU, by omega, hCk.mono (fun k hk => ?_), hF3, by omega, by omega, (fun k hk => (q4 k hk).elim (hT1 k) (fun h => h.2)), q5, q7, q8, fun hp => ?_, rfl⟩
                               · rcases hk with hk | hk
                                 · have h1 := hk.1; have h2 := hk.2; exact ⟨h1, by omega⟩
                                 · exact ⟨by omega, hk.2⟩
                               · obtain ⟨i1, i2, i3, i4, i5⟩ := hIq hp
                                 obtain ⟨j1, j2, j3, j4⟩ := hI1 hp
                                 obtain ⟨_, k2, k3, k4, _, _⟩ := hIp hp
                                 rw [hd0, ht0] at i3
                                 have hw : IntKind.i64.wrap (d0 + 1) = d0 + 1 := wrap_i64_in (by omega) (by omega)
                                 try rw [hw] at he2
                                 have hk1 : nextB i = true → D1.getD (a + 1) 0 ≠ 0 := fun hx => by
                                   obtain ⟨m1, m2, m3⟩ := j4 hx
                                   have := fine_takes i3 hp k3
                                   have := (tk_le hop).2.2.1
                                   omega
                                 first
                                   | (have hmem : (i.n, d1, t1) ∈ succsI i a (D1.getD a 0) (R1.getD a 0) := by
                                        rw [j2, j3, i4, i5]
                                        exact List.mem_append.2 (.inr (by rw [if_pos (by omega)]; simp))
                                      obtain ⟨l1, l2, l3, l4, l5, l6⟩ := (reach_inv j1 (by rw [j2]; exact k2) hi (by rw [j2, j3]; exact i3) hp hmem (by rw [hn]; exact he2)).2 rfl
                                      have l7 := l6 a (by rw [j2]; exact k2)
                                      refine inv_done l1 (proc_of hi (l7.1.trans j2) (l7.2.trans j3) i3 (fun hx => ?_) (fun _ => ⟨l2, l3, by rw [l4, i4], by rw [l5, i5]⟩) (fun hx => by omega))
                                      obtain ⟨m1, m2, m3⟩ := j4 hx
                                      have l8 := l6 (a + 1) (hk1 hx)
                                      exact ⟨by omega, by rw [l8.1, m2, i4], by rw [l8.2, m3, i5]⟩)
                                   | (have hmem : (i.n, d0 + 1, t0) ∈ succsI i a (D1.getD a 0) (R1.getD a 0) := by
                                        rw [j2, j3]
                                        exact List.mem_append.2 (.inr (by rw [if_neg (by omega), if_pos (by omega)]; simp))
                                      obtain ⟨l1, l2, l3, l4, l5, l6⟩ := (reach_inv j1 (by rw [j2]; exact k2) hi (by rw [j2, j3]; exact i3) hp hmem (by rw [hn]; exact he2)).2 rfl
                                      have l7 := l6 a (by rw [j2]; exact k2)
                                      refine inv_done l1 (proc_of hi (l7.1.trans j2) (l7.2.trans j3) i3 (fun hx => ?_) (fun hx => by omega) (fun _ => ⟨l2, l3, l4, l5⟩))
                                      obtain ⟨m1, m2, m3⟩ := j4 hx
                                      have l8 := l6 (a + 1) (hk1 hx)
                                      exact ⟨by omega, by rw [l8.1, m2, i4], by rw [l8.2, m3, i5]⟩)
                             | refine ⟨wtT n T1, by omega, D1, R1, T1, rfl, hU, by omega, hCk.mono (fun k hk => ⟨hk.1, hk.2.2.2⟩), hF3, hD1, hR1, hT1, hSt1, hKD1, hKR1, fun hp => ?_, rfl⟩
                               obtain ⟨i1, i2, i3, i4, i5⟩ := hIq hp
                               obtain ⟨j1, j2, j3, j4⟩ := hI1 hp
                               rw [hd0, ht0] at i3
                               refine inv_done j1 (proc_of hi j2 j3 i3 (fun hx => ?_) (fun hx => by omega) (fun hx => by omega))
                               obtain ⟨m1, m2, m3⟩ := j4 hx
                               exact ⟨by omega, by rw [m2, i4], by rw [m3, i5]⟩
                  · try (exfalso; first | (simp at hc18; done) | (simp only [decide_eq_true_eq, decide_eq_false_iff_not, Bool.not_eq_true', Bool.not_eq_false', Bool.not_eq_true, Bool.not_eq_false] at hc18; omega) | omega)
                    all_goals
                     try simp only [decide_eq_true_eq, decide_eq_false_iff_not, Bool.not_eq_true', Bool.not_eq_false', Bool.not_eq_true, Bool.not_eq_false, Option.isNone_none, Option.isNone_some, Option.isSome_none, Option.isSome_some, ne_eq, Decidable.not_not] at hc18
                     refine WC.region ?_
                     refine WL.val rfl rfl rfl rfl (r_eql rfl (ev_t rfl) ev_c) ?_
                     refine WL.val rfl rfl rfl rfl (r_assign rfl (ev_t rfl)) ?_
                     refine WL.nil ?_
                     refine WX.keep [(1, _), (2, _), (3, _), (7, _), (8, _), (9, _), (11, _), (12, _), (13, _), (15, _), (16, _), (17, _), (93, _), (94, _)] ⟨rfl, rfl, rfl, rfl, rfl, rfl, rfl, rfl, rfl, rfl, rfl, rfl, rfl, rfl, trivial⟩ ?_
                     refine WX.next ?_
                     refine WC.cond rfl (ev_t rfl) (fun hc19 => ?_) (fun hc19 => ?_)
                     · try (exfalso; first | (simp at hc19; done) | (simp only [decide_eq_true_eq, decide_eq_false_iff_not, Bool.not_eq_true', Bool.not_eq_false', Bool.not_eq_true, Bool.not_eq_false] at hc19; omega) | omega)
                       all_goals
                        try simp only [decide_eq_true_eq, decide_eq_false_iff_not, Bool.not_eq_true', Bool.not_eq_false', Bool.not_eq_true, Bool.not_eq_false, Option.isNone_none, Option.isNone_some, Option.isSome_none, Option.isSome_some, ne_eq, Decidable.not_not] at hc19
                        refine WC.seq ?_
                        refine WC.region ?_
                        first | refine WL.val rfl rfl rfl rfl (r_field0 rfl (ev_t rfl) fld_44_1) ?_ | refine WL.val rfl rfl rfl rfl (r_fieldAt rfl (ev_t rfl) fld_44_1) ?_
                        refine WL.val rfl rfl rfl rfl (r_load rfl (ev_t rfl) flat_2 (Blk.cell hbi rfl)) ?_
                        first | refine WL.val rfl rfl rfl rfl (r_field0 rfl (ev_t rfl) fld_42_1) ?_ | refine WL.val rfl rfl rfl rfl (r_fieldAt rfl (ev_t rfl) fld_42_1) ?_
                        refine WL.val rfl rfl rfl rfl (r_load rfl (ev_t rfl) flat_40 (Blk.cell hF3 rfl)) ?_
                        refine WL.val rfl rfl rfl rfl (r_lenSlice (ts := #[]) rfl (ev_t rfl) elem_40) ?_
                        refine WL.val rfl rfl rfl rfl (r_geq rfl (ev_t rfl) (ev_t rfl)) ?_
                        refine WL.val rfl rfl rfl rfl (r_move rfl (ev_t rfl)) ?_
                        refine WL.cases 103 rfl (fun hb20_6 => ?_) (fun hb20_6 => ?_)
                        · try (exfalso; first | (simp at hb20_6; done) | (simp only [decide_eq_true_eq, decide_eq_false_iff_not, Bool.not_eq_true', Bool.not_eq_false', Bool.not_eq_true, Bool.not_eq_false] at hb20_6; omega) | omega)
                          all_goals
                           try simp only [decide_eq_true_eq, decide_eq_false_iff_not, Bool.not_eq_true', Bool.not_eq_false', Bool.not_eq_true, Bool.not_eq_false, Option.isNone_none, Option.isNone_some, Option.isSome_none, Option.isSome_some, ne_eq, Decidable.not_not] at hb20_6
                           refine WL.skip rfl rfl rfl ?_
                           refine WL.skip rfl rfl rfl ?_
                           refine WL.skip rfl rfl rfl ?_
                           refine WL.skip rfl rfl rfl ?_
                           refine WL.skip rfl rfl rfl ?_
                           refine WL.skip rfl rfl rfl ?_
                           refine WL.skip rfl rfl rfl ?_
                           refine WL.val rfl rfl rfl rfl (r_pickT rfl (ev_t rfl) ev_c) ?_
                           refine WL.nil ?_
                           refine WX.keep [(1, _), (2, _), (3, _), (7, _), (8, _), (9, _), (111, _)] ⟨rfl, rfl, rfl, rfl, rfl, rfl, rfl, trivial⟩ ?_
                           refine WX.next ?_
                           refine WC.cond_true rfl (ev_t rfl) ?_
                           refine WC.seq ?_
                           refine WC.region ?_
                           refine WL.val rfl rfl rfl rfl (r_assign rfl ev_c) ?_
                           refine WL.nil ?_
                           refine WX.keep [(6, _)] ⟨rfl, trivial⟩ ?_
                           refine WX.next ?_
                           refine WC.ret ?_
                           refine WX.blockRet ?_
                           refine WX.blockRet ?_
                           refine WX.thenRet ?_
                           refine WX.blockRet ?_
                           refine WX.thenRet ?_
                           refine WX.retE1 rfl rfl ?_
                           refine ⟨⟨false, rfl, fun _ => rfl, fun hp _ => ⟨(fun h => by cases h), fun hg => ?_⟩⟩, hU⟩
                           obtain ⟨i1, i2, i3, i4, i5⟩ := hIq hp
                           obtain ⟨j1, j2, j3, j4⟩ := hI1 hp
                           have hmem : (i.n, d1, t1) ∈ succsI i a (D1.getD a 0) (R1.getD a 0) := by
                             rw [j2, j3, i4, i5]
                             exact List.mem_append.2 (.inr (by rw [if_pos (by omega)]; simp))
                           rw [hd0, ht0] at i3
                           have hb : ∃ D2 R2 T2, reachP n a i.n d1 t1 D1 R1 T1 = (false, D2, R2, T2) := by
                             first
                               | exact ⟨_, _, _, by rw [← hc20]; exact he2⟩
                               | exact ⟨D1, R1, T1, by unfold reachP; rw [if_pos (.inr (by omega))]⟩
                           obtain ⟨_, _, _, hb⟩ := hb
                           exact absurd hg ((reach_inv j1 (by rw [j2]; exact (hIp hp).2.1) hi (by rw [j2, j3]; exact i3) hp hmem (by rw [hn]; exact hb)).1 rfl)
                        · try (exfalso; first | (simp at hb20_6; done) | (simp only [decide_eq_true_eq, decide_eq_false_iff_not, Bool.not_eq_true', Bool.not_eq_false', Bool.not_eq_true, Bool.not_eq_false] at hb20_6; omega) | omega)
                          all_goals
                           try simp only [decide_eq_true_eq, decide_eq_false_iff_not, Bool.not_eq_true', Bool.not_eq_false', Bool.not_eq_true, Bool.not_eq_false, Option.isNone_none, Option.isNone_some, Option.isSome_none, Option.isSome_some, ne_eq, Decidable.not_not] at hb20_6
                           obtain ⟨b2, D2, R2, T2, he2⟩ : ∃ b2 D2 R2 T2, reachP n a i.n d1 t1 D1 R1 T1 = (b2, D2, R2, T2) := ⟨_, _, _, _, rfl⟩
                           obtain ⟨q1, q2, q3, q4⟩ := wt_reach (by omega) he2
                           obtain ⟨q5, q6⟩ := hSt1.reach (by omega) he2
                           obtain ⟨q7, q8⟩ := inK_reach hD1 hR1 hKD1 hKR1 hd1 ht1 he2
                           refine WL.val rfl rfl rfl rfl (r_move rfl (ev_t rfl)) ?_
                           first | refine WL.val rfl rfl rfl rfl (r_field0 rfl (ev_t rfl) fld_44_1) ?_ | refine WL.val rfl rfl rfl rfl (r_fieldAt rfl (ev_t rfl) fld_44_1) ?_
                           refine WL.val rfl rfl rfl rfl (r_load rfl (ev_t rfl) flat_2 (Blk.cell hbi rfl)) ?_
                           refine WL.val rfl rfl rfl rfl (r_move rfl (ev_t rfl)) ?_
                           refine WL.val rfl rfl rfl rfl (r_move rfl (ev_t rfl)) ?_
                           refine WL.cons (SO.callV (vs := [_, _, _]) rfl (ev_t rfl) body_37 ⟨(ev_t rfl), (ev_t rfl), (ev_t rfl), trivial⟩ rfl (reach_ok hCk hba hF3 (fun h => by have := h.2; omega) (fun h => by have := h.1; omega) hD1 hR1 (by omega) he2) rfl rfl rfl rfl ?_)
                           rintro v w23 ⟨rfl, hCk, hu23⟩
                           have hps := hu23.size
                           have hs23 := hu23.size
                           replace hU := hU.trans hu23 (by first | exact (fun _ _ h => h) | exact (fun _ _ h => h.elim) | (intro k hl hk; (try simp only [At, New, Grow, From, No] at hk ⊢); omega) | (intro k hl hk; first | (have h1 := hk.1; omega) | ((try simp only [At, New, Grow, From, No] at *); omega)))
                           replace hF3 := hF3.upd hu23 (by first | exact (fun h => h) | (simp only [At, No]; omega) | (exact fun h => by have h1 := h.1; omega))
                           replace hba := hba.upd hu23 (by first | exact (fun h => h) | (simp only [At, No]; omega) | (exact fun h => by have h1 := h.1; have h2 := h.2; omega))
                           replace hbi := hbi.upd hu23 (by first | exact (fun h => h) | (simp only [At, No]; omega) | (exact fun h => by have h1 := h.1; have h2 := h.2; omega))
                           refine WL.val rfl rfl rfl rfl (r_not rfl (ev_t rfl)) ?_
                           refine WL.val rfl rfl rfl rfl (r_pickF rfl (ev_t rfl) (ev_t rfl)) ?_
                           refine WL.nil ?_
                           refine WX.keep [(1, _), (2, _), (3, _), (7, _), (8, _), (9, _), (111, _)] ⟨rfl, rfl, rfl, rfl, rfl, rfl, rfl, trivial⟩ ?_
                           refine WX.next ?_
                           refine WC.cond rfl (ev_t rfl) (fun hc20 => ?_) (fun hc20 => ?_)
                           · try (exfalso; first | (simp at hc20; done) | (simp only [decide_eq_true_eq, decide_eq_false_iff_not, Bool.not_eq_true', Bool.not_eq_false', Bool.not_eq_true, Bool.not_eq_false] at hc20; omega) | omega)
                             all_goals
                              try simp only [decide_eq_true_eq, decide_eq_false_iff_not, Bool.not_eq_true', Bool.not_eq_false', Bool.not_eq_true, Bool.not_eq_false, Option.isNone_none, Option.isNone_some, Option.isSome_none, Option.isSome_some, ne_eq, Decidable.not_not] at hc20
                              refine WC.seq ?_
                              refine WC.region ?_
                              refine WL.val rfl rfl rfl rfl (r_assign rfl ev_c) ?_
                              refine WL.nil ?_
                              refine WX.keep [(6, _)] ⟨rfl, trivial⟩ ?_
                              refine WX.next ?_
                              refine WC.ret ?_
                              refine WX.blockRet ?_
                              refine WX.blockRet ?_
                              refine WX.thenRet ?_
                              refine WX.blockRet ?_
                              refine WX.thenRet ?_
                              refine WX.retE1 rfl rfl ?_
                              refine ⟨⟨false, rfl, fun _ => rfl, fun hp _ => ⟨(fun h => by cases h), fun hg => ?_⟩⟩, hU⟩
                              obtain ⟨i1, i2, i3, i4, i5⟩ := hIq hp
                              obtain ⟨j1, j2, j3, j4⟩ := hI1 hp
                              have hmem : (i.n, d1, t1) ∈ succsI i a (D1.getD a 0) (R1.getD a 0) := by
                                rw [j2, j3, i4, i5]
                                exact List.mem_append.2 (.inr (by rw [if_pos (by omega)]; simp))
                              rw [hd0, ht0] at i3
                              have hb : ∃ D2 R2 T2, reachP n a i.n d1 t1 D1 R1 T1 = (false, D2, R2, T2) := by
                                first
                                  | exact ⟨_, _, _, by rw [← hc20]; exact he2⟩
                                  | exact ⟨D1, R1, T1, by unfold reachP; rw [if_pos (.inr (by omega))]⟩
                              obtain ⟨_, _, _, hb⟩ := hb
                              exact absurd hg ((reach_inv j1 (by rw [j2]; exact (hIp hp).2.1) hi (by rw [j2, j3]; exact i3) hp hmem (by rw [hn]; exact hb)).1 rfl)
                           · try (exfalso; first | (simp at hc20; done) | (simp only [decide_eq_true_eq, decide_eq_false_iff_not, Bool.not_eq_true', Bool.not_eq_false', Bool.not_eq_true, Bool.not_eq_false] at hc20; omega) | omega)
                             all_goals
                              try simp only [decide_eq_true_eq, decide_eq_false_iff_not, Bool.not_eq_true', Bool.not_eq_false', Bool.not_eq_true, Bool.not_eq_false, Option.isNone_none, Option.isNone_some, Option.isSome_none, Option.isSome_some, ne_eq, Decidable.not_not] at hc20
                              subst hc20
                              refine WC.skip ?_
                              refine WX.blockNormal ?_
                              refine WX.blockNormal ?_
                              refine WX.meet [(1, _), (2, _), (3, _), (7, _), (8, _), (9, _)] ⟨rfl, rfl, rfl, rfl, rfl, rfl, trivial⟩ ?_
                              have hP : 0 < 3 ^ (n - a) := Nat.pow_pos (by omega)
                              have hwq : wtT n (T0 ++ [a]) = wtT n T0 + 3 ^ (n - a) := wt_snoc _ _ _
                              have hw99 := hU.size
                              first
                                | refine ⟨wtT n T2, by omega, D2, R2, T2, rfl, hU, by omega, hCk.mono (fun k hk => ?_), hF3, by omega, by omega, (fun k hk => (q4 k hk).elim (hT1 k) (fun h => h.2)), q5, q7, q8, fun hp => ?_, rfl⟩
                                  · rcases hk with hk | hk
                                    · have h1 := hk.1; have h2 := hk.2; exact ⟨h1, by omega⟩
                                    · exact ⟨by omega, hk.2⟩
                                  · obtain ⟨i1, i2, i3, i4, i5⟩ := hIq hp
                                    obtain ⟨j1, j2, j3, j4⟩ := hI1 hp
                                    obtain ⟨_, k2, k3, k4, _, _⟩ := hIp hp
                                    rw [hd0, ht0] at i3
                                    have hw : IntKind.i64.wrap (d0 + 1) = d0 + 1 := wrap_i64_in (by omega) (by omega)
                                    try rw [hw] at he2
                                    have hk1 : nextB i = true → D1.getD (a + 1) 0 ≠ 0 := fun hx => by
                                      obtain ⟨m1, m2, m3⟩ := j4 hx
                                      have := fine_takes i3 hp k3
                                      have := (tk_le hop).2.2.1
                                      omega
                                    first
                                      | (have hmem : (i.n, d1, t1) ∈ succsI i a (D1.getD a 0) (R1.getD a 0) := by
                                           rw [j2, j3, i4, i5]
                                           exact List.mem_append.2 (.inr (by rw [if_pos (by omega)]; simp))
                                         obtain ⟨l1, l2, l3, l4, l5, l6⟩ := (reach_inv j1 (by rw [j2]; exact k2) hi (by rw [j2, j3]; exact i3) hp hmem (by rw [hn]; exact he2)).2 rfl
                                         have l7 := l6 a (by rw [j2]; exact k2)
                                         refine inv_done l1 (proc_of hi (l7.1.trans j2) (l7.2.trans j3) i3 (fun hx => ?_) (fun _ => ⟨l2, l3, by rw [l4, i4], by rw [l5, i5]⟩) (fun hx => by omega))
                                         obtain ⟨m1, m2, m3⟩ := j4 hx
                                         have l8 := l6 (a + 1) (hk1 hx)
                                         exact ⟨by omega, by rw [l8.1, m2, i4], by rw [l8.2, m3, i5]⟩)
                                      | (have hmem : (i.n, d0 + 1, t0) ∈ succsI i a (D1.getD a 0) (R1.getD a 0) := by
                                           rw [j2, j3]
                                           exact List.mem_append.2 (.inr (by rw [if_neg (by omega), if_pos (by omega)]; simp))
                                         obtain ⟨l1, l2, l3, l4, l5, l6⟩ := (reach_inv j1 (by rw [j2]; exact k2) hi (by rw [j2, j3]; exact i3) hp hmem (by rw [hn]; exact he2)).2 rfl
                                         have l7 := l6 a (by rw [j2]; exact k2)
                                         refine inv_done l1 (proc_of hi (l7.1.trans j2) (l7.2.trans j3) i3 (fun hx => ?_) (fun hx => by omega) (fun _ => ⟨l2, l3, l4, l5⟩))
                                         obtain ⟨m1, m2, m3⟩ := j4 hx
                                         have l8 := l6 (a + 1) (hk1 hx)
                                         exact ⟨by omega, by rw [l8.1, m2, i4], by rw [l8.2, m3, i5]⟩)
                                | refine ⟨wtT n T1, by omega, D1, R1, T1, rfl, hU, by omega, hCk.mono (fun k hk => ⟨hk.1, hk.2.2.2⟩), hF3, hD1, hR1, hT1, hSt1, hKD1, hKR1, fun hp => ?_, rfl⟩
                                  obtain ⟨i1, i2, i3, i4, i5⟩ := hIq hp
                                  obtain ⟨j1, j2, j3, j4⟩ := hI1 hp
                                  rw [hd0, ht0] at i3
                                  refine inv_done j1 (proc_of hi j2 j3 i3 (fun hx => ?_) (fun hx => by omega) (fun hx => by omega))
                                  obtain ⟨m1, m2, m3⟩ := j4 hx
                                  exact ⟨by omega, by rw [m2, i4], by rw [m3, i5]⟩
                     · try (exfalso; first | (simp at hc19; done) | (simp only [decide_eq_true_eq, decide_eq_false_iff_not, Bool.not_eq_true', Bool.not_eq_false', Bool.not_eq_true, Bool.not_eq_false] at hc19; omega) | omega)
                       all_goals
                        try simp only [decide_eq_true_eq, decide_eq_false_iff_not, Bool.not_eq_true', Bool.not_eq_false', Bool.not_eq_true, Bool.not_eq_false, Option.isNone_none, Option.isNone_some, Option.isSome_none, Option.isSome_some, ne_eq, Decidable.not_not] at hc19
                        refine WC.seq ?_
                        refine WC.region ?_
                        refine WL.val rfl rfl rfl rfl (r_eql rfl (ev_t rfl) ev_c) ?_
                        refine WL.val rfl rfl rfl rfl (r_assign rfl (ev_t rfl)) ?_
                        refine WL.nil ?_
                        refine WX.keep [(1, _), (2, _), (3, _), (7, _), (8, _), (9, _), (11, _), (12, _), (13, _), (17, _), (112, _)] ⟨rfl, rfl, rfl, rfl, rfl, rfl, rfl, rfl, rfl, rfl, rfl, trivial⟩ ?_
                        refine WX.next ?_
                        refine WC.cond rfl (ev_t rfl) (fun hc22 => ?_) (fun hc22 => ?_)
                        · try (exfalso; first | (simp at hc22; done) | (simp only [decide_eq_true_eq, decide_eq_false_iff_not, Bool.not_eq_true', Bool.not_eq_false', Bool.not_eq_true, Bool.not_eq_false] at hc22; omega) | omega)
                          all_goals
                           try simp only [decide_eq_true_eq, decide_eq_false_iff_not, Bool.not_eq_true', Bool.not_eq_false', Bool.not_eq_true, Bool.not_eq_false, Option.isNone_none, Option.isNone_some, Option.isSome_none, Option.isSome_some, ne_eq, Decidable.not_not] at hc22
                           refine WC.seq ?_
                           refine WC.region ?_
                           first | refine WL.val rfl rfl rfl rfl (r_field0 rfl (ev_t rfl) fld_44_1) ?_ | refine WL.val rfl rfl rfl rfl (r_fieldAt rfl (ev_t rfl) fld_44_1) ?_
                           refine WL.val rfl rfl rfl rfl (r_load rfl (ev_t rfl) flat_2 (Blk.cell hbi rfl)) ?_
                           first | refine WL.val rfl rfl rfl rfl (r_field0 rfl (ev_t rfl) fld_42_1) ?_ | refine WL.val rfl rfl rfl rfl (r_fieldAt rfl (ev_t rfl) fld_42_1) ?_
                           refine WL.val rfl rfl rfl rfl (r_load rfl (ev_t rfl) flat_40 (Blk.cell hF3 rfl)) ?_
                           refine WL.val rfl rfl rfl rfl (r_lenSlice (ts := #[]) rfl (ev_t rfl) elem_40) ?_
                           refine WL.val rfl rfl rfl rfl (r_geq rfl (ev_t rfl) (ev_t rfl)) ?_
                           refine WL.val rfl rfl rfl rfl (r_move rfl (ev_t rfl)) ?_
                           refine WL.cases 120 rfl (fun hb23_6 => ?_) (fun hb23_6 => ?_)
                           · try (exfalso; first | (simp at hb23_6; done) | (simp only [decide_eq_true_eq, decide_eq_false_iff_not, Bool.not_eq_true', Bool.not_eq_false', Bool.not_eq_true, Bool.not_eq_false] at hb23_6; omega) | omega)
                             all_goals
                              try simp only [decide_eq_true_eq, decide_eq_false_iff_not, Bool.not_eq_true', Bool.not_eq_false', Bool.not_eq_true, Bool.not_eq_false, Option.isNone_none, Option.isNone_some, Option.isSome_none, Option.isSome_some, ne_eq, Decidable.not_not] at hb23_6
                              refine WL.skip rfl rfl rfl ?_
                              refine WL.skip rfl rfl rfl ?_
                              refine WL.skip rfl rfl rfl ?_
                              refine WL.skip rfl rfl rfl ?_
                              refine WL.skip rfl rfl rfl ?_
                              refine WL.skip rfl rfl rfl ?_
                              refine WL.skip rfl rfl rfl ?_
                              refine WL.skip rfl rfl rfl ?_
                              refine WL.val rfl rfl rfl rfl (r_pickT rfl (ev_t rfl) ev_c) ?_
                              refine WL.nil ?_
                              refine WX.keep [(1, _), (2, _), (3, _), (7, _), (8, _), (9, _), (129, _)] ⟨rfl, rfl, rfl, rfl, rfl, rfl, rfl, trivial⟩ ?_
                              refine WX.next ?_
                              refine WC.cond_true rfl (ev_t rfl) ?_
                              refine WC.seq ?_
                              refine WC.region ?_
                              refine WL.val rfl rfl rfl rfl (r_assign rfl ev_c) ?_
                              refine WL.nil ?_
                              refine WX.keep [(6, _)] ⟨rfl, trivial⟩ ?_
                              refine WX.next ?_
                              refine WC.ret ?_
                              refine WX.blockRet ?_
                              refine WX.blockRet ?_
                              refine WX.thenRet ?_
                              refine WX.blockRet ?_
                              refine WX.thenRet ?_
                              refine WX.retE1 rfl rfl ?_
                              refine ⟨⟨false, rfl, fun _ => rfl, fun hp _ => ⟨(fun h => by cases h), fun hg => ?_⟩⟩, hU⟩
                              obtain ⟨i1, i2, i3, i4, i5⟩ := hIq hp
                              obtain ⟨j1, j2, j3, j4⟩ := hI1 hp
                              obtain ⟨_, k2, k3, k4, _, _⟩ := hIp hp
                              have hw : IntKind.i64.wrap (d0 + 1) = d0 + 1 := wrap_i64_in (by omega) (by omega)
                              have hmem : (i.n, d0 + 1, t0) ∈ succsI i a (D1.getD a 0) (R1.getD a 0) := by
                                rw [j2, j3]
                                exact List.mem_append.2 (.inr (by rw [if_neg (by omega), if_pos (by omega)]; simp))
                              rw [hd0, ht0] at i3
                              have hb : ∃ D2 R2 T2, reachP n a i.n (d0 + 1) t0 D1 R1 T1 = (false, D2, R2, T2) := by
                                first
                                  | exact ⟨_, _, _, by rw [← hc23, ← hw]; exact he2⟩
                                  | exact ⟨D1, R1, T1, by unfold reachP; rw [if_pos (.inr (by omega))]⟩
                              obtain ⟨_, _, _, hb⟩ := hb
                              exact absurd hg ((reach_inv j1 (by rw [j2]; exact k2) hi (by rw [j2, j3]; exact i3) hp hmem (by rw [hn]; exact hb)).1 rfl)
                           · try (exfalso; first | (simp at hb23_6; done) | (simp only [decide_eq_true_eq, decide_eq_false_iff_not, Bool.not_eq_true', Bool.not_eq_false', Bool.not_eq_true, Bool.not_eq_false] at hb23_6; omega) | omega)
                             all_goals
                              try simp only [decide_eq_true_eq, decide_eq_false_iff_not, Bool.not_eq_true', Bool.not_eq_false', Bool.not_eq_true, Bool.not_eq_false, Option.isNone_none, Option.isNone_some, Option.isSome_none, Option.isSome_some, ne_eq, Decidable.not_not] at hb23_6
                              obtain ⟨b2, D2, R2, T2, he2⟩ : ∃ b2 D2 R2 T2, reachP n a i.n (IntKind.i64.wrap (d0 + 1)) t0 D1 R1 T1 = (b2, D2, R2, T2) := ⟨_, _, _, _, rfl⟩
                              obtain ⟨q1, q2, q3, q4⟩ := wt_reach (by omega) he2
                              obtain ⟨q5, q6⟩ := hSt1.reach (by omega) he2
                              obtain ⟨q7, q8⟩ := inK_reach hD1 hR1 hKD1 hKR1 (wrap_inK _ _) hKt he2
                              refine WL.val rfl rfl rfl rfl (r_move rfl (ev_t rfl)) ?_
                              first | refine WL.val rfl rfl rfl rfl (r_field0 rfl (ev_t rfl) fld_44_1) ?_ | refine WL.val rfl rfl rfl rfl (r_fieldAt rfl (ev_t rfl) fld_44_1) ?_
                              refine WL.val rfl rfl rfl rfl (r_load rfl (ev_t rfl) flat_2 (Blk.cell hbi rfl)) ?_
                              refine WL.val rfl rfl rfl rfl (r_move rfl (ev_t rfl)) ?_
                              refine WL.val rfl rfl rfl rfl (r_add rfl (ev_t rfl) ev_c) ?_
                              refine WL.val rfl rfl rfl rfl (r_move rfl (ev_t rfl)) ?_
                              refine WL.cons (SO.callV (vs := [_, _, _]) rfl (ev_t rfl) body_37 ⟨(ev_t rfl), (ev_t rfl), (ev_t rfl), trivial⟩ rfl (reach_ok hCk hba hF3 (fun h => by have := h.2; omega) (fun h => by have := h.1; omega) hD1 hR1 (by omega) he2) rfl rfl rfl rfl ?_)
                              rintro v w24 ⟨rfl, hCk, hu24⟩
                              have hps := hu24.size
                              have hs24 := hu24.size
                              replace hU := hU.trans hu24 (by first | exact (fun _ _ h => h) | exact (fun _ _ h => h.elim) | (intro k hl hk; (try simp only [At, New, Grow, From, No] at hk ⊢); omega) | (intro k hl hk; first | (have h1 := hk.1; omega) | ((try simp only [At, New, Grow, From, No] at *); omega)))
                              replace hF3 := hF3.upd hu24 (by first | exact (fun h => h) | (simp only [At, No]; omega) | (exact fun h => by have h1 := h.1; omega))
                              replace hba := hba.upd hu24 (by first | exact (fun h => h) | (simp only [At, No]; omega) | (exact fun h => by have h1 := h.1; have h2 := h.2; omega))
                              replace hbi := hbi.upd hu24 (by first | exact (fun h => h) | (simp only [At, No]; omega) | (exact fun h => by have h1 := h.1; have h2 := h.2; omega))
                              refine WL.val rfl rfl rfl rfl (r_not rfl (ev_t rfl)) ?_
                              refine WL.val rfl rfl rfl rfl (r_pickF rfl (ev_t rfl) (ev_t rfl)) ?_
                              refine WL.nil ?_
                              refine WX.keep [(1, _), (2, _), (3, _), (7, _), (8, _), (9, _), (129, _)] ⟨rfl, rfl, rfl, rfl, rfl, rfl, rfl, trivial⟩ ?_
                              refine WX.next ?_
                              refine WC.cond rfl (ev_t rfl) (fun hc23 => ?_) (fun hc23 => ?_)
                              · try (exfalso; first | (simp at hc23; done) | (simp only [decide_eq_true_eq, decide_eq_false_iff_not, Bool.not_eq_true', Bool.not_eq_false', Bool.not_eq_true, Bool.not_eq_false] at hc23; omega) | omega)
                                all_goals
                                 try simp only [decide_eq_true_eq, decide_eq_false_iff_not, Bool.not_eq_true', Bool.not_eq_false', Bool.not_eq_true, Bool.not_eq_false, Option.isNone_none, Option.isNone_some, Option.isSome_none, Option.isSome_some, ne_eq, Decidable.not_not] at hc23
                                 refine WC.seq ?_
                                 refine WC.region ?_
                                 refine WL.val rfl rfl rfl rfl (r_assign rfl ev_c) ?_
                                 refine WL.nil ?_
                                 refine WX.keep [(6, _)] ⟨rfl, trivial⟩ ?_
                                 refine WX.next ?_
                                 refine WC.ret ?_
                                 refine WX.blockRet ?_
                                 refine WX.blockRet ?_
                                 refine WX.thenRet ?_
                                 refine WX.blockRet ?_
                                 refine WX.thenRet ?_
                                 refine WX.retE1 rfl rfl ?_
                                 refine ⟨⟨false, rfl, fun _ => rfl, fun hp _ => ⟨(fun h => by cases h), fun hg => ?_⟩⟩, hU⟩
                                 obtain ⟨i1, i2, i3, i4, i5⟩ := hIq hp
                                 obtain ⟨j1, j2, j3, j4⟩ := hI1 hp
                                 obtain ⟨_, k2, k3, k4, _, _⟩ := hIp hp
                                 have hw : IntKind.i64.wrap (d0 + 1) = d0 + 1 := wrap_i64_in (by omega) (by omega)
                                 have hmem : (i.n, d0 + 1, t0) ∈ succsI i a (D1.getD a 0) (R1.getD a 0) := by
                                   rw [j2, j3]
                                   exact List.mem_append.2 (.inr (by rw [if_neg (by omega), if_pos (by omega)]; simp))
                                 rw [hd0, ht0] at i3
                                 have hb : ∃ D2 R2 T2, reachP n a i.n (d0 + 1) t0 D1 R1 T1 = (false, D2, R2, T2) := by
                                   first
                                     | exact ⟨_, _, _, by rw [← hc23, ← hw]; exact he2⟩
                                     | exact ⟨D1, R1, T1, by unfold reachP; rw [if_pos (.inr (by omega))]⟩
                                 obtain ⟨_, _, _, hb⟩ := hb
                                 exact absurd hg ((reach_inv j1 (by rw [j2]; exact k2) hi (by rw [j2, j3]; exact i3) hp hmem (by rw [hn]; exact hb)).1 rfl)
                              · try (exfalso; first | (simp at hc23; done) | (simp only [decide_eq_true_eq, decide_eq_false_iff_not, Bool.not_eq_true', Bool.not_eq_false', Bool.not_eq_true, Bool.not_eq_false] at hc23; omega) | omega)
                                all_goals
                                 try simp only [decide_eq_true_eq, decide_eq_false_iff_not, Bool.not_eq_true', Bool.not_eq_false', Bool.not_eq_true, Bool.not_eq_false, Option.isNone_none, Option.isNone_some, Option.isSome_none, Option.isSome_some, ne_eq, Decidable.not_not] at hc23
                                 subst hc23
                                 refine WC.skip ?_
                                 refine WX.blockNormal ?_
                                 refine WX.blockNormal ?_
                                 refine WX.meet [(1, _), (2, _), (3, _), (7, _), (8, _), (9, _)] ⟨rfl, rfl, rfl, rfl, rfl, rfl, trivial⟩ ?_
                                 have hP : 0 < 3 ^ (n - a) := Nat.pow_pos (by omega)
                                 have hwq : wtT n (T0 ++ [a]) = wtT n T0 + 3 ^ (n - a) := wt_snoc _ _ _
                                 have hw99 := hU.size
                                 first
                                   | refine ⟨wtT n T2, by omega, D2, R2, T2, rfl, hU, by omega, hCk.mono (fun k hk => ?_), hF3, by omega, by omega, (fun k hk => (q4 k hk).elim (hT1 k) (fun h => h.2)), q5, q7, q8, fun hp => ?_, rfl⟩
                                     · rcases hk with hk | hk
                                       · have h1 := hk.1; have h2 := hk.2; exact ⟨h1, by omega⟩
                                       · exact ⟨by omega, hk.2⟩
                                     · obtain ⟨i1, i2, i3, i4, i5⟩ := hIq hp
                                       obtain ⟨j1, j2, j3, j4⟩ := hI1 hp
                                       obtain ⟨_, k2, k3, k4, _, _⟩ := hIp hp
                                       rw [hd0, ht0] at i3
                                       have hw : IntKind.i64.wrap (d0 + 1) = d0 + 1 := wrap_i64_in (by omega) (by omega)
                                       try rw [hw] at he2
                                       have hk1 : nextB i = true → D1.getD (a + 1) 0 ≠ 0 := fun hx => by
                                         obtain ⟨m1, m2, m3⟩ := j4 hx
                                         have := fine_takes i3 hp k3
                                         have := (tk_le hop).2.2.1
                                         omega
                                       first
                                         | (have hmem : (i.n, d1, t1) ∈ succsI i a (D1.getD a 0) (R1.getD a 0) := by
                                              rw [j2, j3, i4, i5]
                                              exact List.mem_append.2 (.inr (by rw [if_pos (by omega)]; simp))
                                            obtain ⟨l1, l2, l3, l4, l5, l6⟩ := (reach_inv j1 (by rw [j2]; exact k2) hi (by rw [j2, j3]; exact i3) hp hmem (by rw [hn]; exact he2)).2 rfl
                                            have l7 := l6 a (by rw [j2]; exact k2)
                                            refine inv_done l1 (proc_of hi (l7.1.trans j2) (l7.2.trans j3) i3 (fun hx => ?_) (fun _ => ⟨l2, l3, by rw [l4, i4], by rw [l5, i5]⟩) (fun hx => by omega))
                                            obtain ⟨m1, m2, m3⟩ := j4 hx
                                            have l8 := l6 (a + 1) (hk1 hx)
                                            exact ⟨by omega, by rw [l8.1, m2, i4], by rw [l8.2, m3, i5]⟩)
                                         | (have hmem : (i.n, d0 + 1, t0) ∈ succsI i a (D1.getD a 0) (R1.getD a 0) := by
                                              rw [j2, j3]
                                              exact List.mem_append.2 (.inr (by rw [if_neg (by omega), if_pos (by omega)]; simp))
                                            obtain ⟨l1, l2, l3, l4, l5, l6⟩ := (reach_inv j1 (by rw [j2]; exact k2) hi (by rw [j2, j3]; exact i3) hp hmem (by rw [hn]; exact he2)).2 rfl
                                            have l7 := l6 a (by rw [j2]; exact k2)
                                            refine inv_done l1 (proc_of hi (l7.1.trans j2) (l7.2.trans j3) i3 (fun hx => ?_) (fun hx => by omega) (fun _ => ⟨l2, l3, l4, l5⟩))
                                            obtain ⟨m1, m2, m3⟩ := j4 hx
                                            have l8 := l6 (a + 1) (hk1 hx)
                                            exact ⟨by omega, by rw [l8.1, m2, i4], by rw [l8.2, m3, i5]⟩)
                                   | refine ⟨wtT n T1, by omega, D1, R1, T1, rfl, hU, by omega, hCk.mono (fun k hk => ⟨hk.1, hk.2.2.2⟩), hF3, hD1, hR1, hT1, hSt1, hKD1, hKR1, fun hp => ?_, rfl⟩
                                     obtain ⟨i1, i2, i3, i4, i5⟩ := hIq hp
                                     obtain ⟨j1, j2, j3, j4⟩ := hI1 hp
                                     rw [hd0, ht0] at i3
                                     refine inv_done j1 (proc_of hi j2 j3 i3 (fun hx => ?_) (fun hx => by omega) (fun hx => by omega))
                                     obtain ⟨m1, m2, m3⟩ := j4 hx
                                     exact ⟨by omega, by rw [m2, i4], by rw [m3, i5]⟩
                        · try (exfalso; first | (simp at hc22; done) | (simp only [decide_eq_true_eq, decide_eq_false_iff_not, Bool.not_eq_true', Bool.not_eq_false', Bool.not_eq_true, Bool.not_eq_false] at hc22; omega) | omega)
                          all_goals
                           try simp only [decide_eq_true_eq, decide_eq_false_iff_not, Bool.not_eq_true', Bool.not_eq_false', Bool.not_eq_true, Bool.not_eq_false, Option.isNone_none, Option.isNone_some, Option.isSome_none, Option.isSome_some, ne_eq, Decidable.not_not] at hc22
                           refine WC.skip ?_
                           refine WX.blockNormal ?_
                           refine WX.blockNormal ?_
                           refine WX.meet [(1, _), (2, _), (3, _), (7, _), (8, _), (9, _)] ⟨rfl, rfl, rfl, rfl, rfl, rfl, trivial⟩ ?_
                           have hP : 0 < 3 ^ (n - a) := Nat.pow_pos (by omega)
                           have hwq : wtT n (T0 ++ [a]) = wtT n T0 + 3 ^ (n - a) := wt_snoc _ _ _
                           have hw99 := hU.size
                           first
                             | refine ⟨wtT n T2, by omega, D2, R2, T2, rfl, hU, by omega, hCk.mono (fun k hk => ?_), hF3, by omega, by omega, (fun k hk => (q4 k hk).elim (hT1 k) (fun h => h.2)), q5, q7, q8, fun hp => ?_, rfl⟩
                               · rcases hk with hk | hk
                                 · have h1 := hk.1; have h2 := hk.2; exact ⟨h1, by omega⟩
                                 · exact ⟨by omega, hk.2⟩
                               · obtain ⟨i1, i2, i3, i4, i5⟩ := hIq hp
                                 obtain ⟨j1, j2, j3, j4⟩ := hI1 hp
                                 obtain ⟨_, k2, k3, k4, _, _⟩ := hIp hp
                                 rw [hd0, ht0] at i3
                                 have hw : IntKind.i64.wrap (d0 + 1) = d0 + 1 := wrap_i64_in (by omega) (by omega)
                                 try rw [hw] at he2
                                 have hk1 : nextB i = true → D1.getD (a + 1) 0 ≠ 0 := fun hx => by
                                   obtain ⟨m1, m2, m3⟩ := j4 hx
                                   have := fine_takes i3 hp k3
                                   have := (tk_le hop).2.2.1
                                   omega
                                 first
                                   | (have hmem : (i.n, d1, t1) ∈ succsI i a (D1.getD a 0) (R1.getD a 0) := by
                                        rw [j2, j3, i4, i5]
                                        exact List.mem_append.2 (.inr (by rw [if_pos (by omega)]; simp))
                                      obtain ⟨l1, l2, l3, l4, l5, l6⟩ := (reach_inv j1 (by rw [j2]; exact k2) hi (by rw [j2, j3]; exact i3) hp hmem (by rw [hn]; exact he2)).2 rfl
                                      have l7 := l6 a (by rw [j2]; exact k2)
                                      refine inv_done l1 (proc_of hi (l7.1.trans j2) (l7.2.trans j3) i3 (fun hx => ?_) (fun _ => ⟨l2, l3, by rw [l4, i4], by rw [l5, i5]⟩) (fun hx => by omega))
                                      obtain ⟨m1, m2, m3⟩ := j4 hx
                                      have l8 := l6 (a + 1) (hk1 hx)
                                      exact ⟨by omega, by rw [l8.1, m2, i4], by rw [l8.2, m3, i5]⟩)
                                   | (have hmem : (i.n, d0 + 1, t0) ∈ succsI i a (D1.getD a 0) (R1.getD a 0) := by
                                        rw [j2, j3]
                                        exact List.mem_append.2 (.inr (by rw [if_neg (by omega), if_pos (by omega)]; simp))
                                      obtain ⟨l1, l2, l3, l4, l5, l6⟩ := (reach_inv j1 (by rw [j2]; exact k2) hi (by rw [j2, j3]; exact i3) hp hmem (by rw [hn]; exact he2)).2 rfl
                                      have l7 := l6 a (by rw [j2]; exact k2)
                                      refine inv_done l1 (proc_of hi (l7.1.trans j2) (l7.2.trans j3) i3 (fun hx => ?_) (fun hx => by omega) (fun _ => ⟨l2, l3, l4, l5⟩))
                                      obtain ⟨m1, m2, m3⟩ := j4 hx
                                      have l8 := l6 (a + 1) (hk1 hx)
                                      exact ⟨by omega, by rw [l8.1, m2, i4], by rw [l8.2, m3, i5]⟩)
                             | refine ⟨wtT n T1, by omega, D1, R1, T1, rfl, hU, by omega, hCk.mono (fun k hk => ⟨hk.1, hk.2.2.2⟩), hF3, hD1, hR1, hT1, hSt1, hKD1, hKR1, fun hp => ?_, rfl⟩
                               obtain ⟨i1, i2, i3, i4, i5⟩ := hIq hp
                               obtain ⟨j1, j2, j3, j4⟩ := hI1 hp
                               rw [hd0, ht0] at i3
                               refine inv_done j1 (proc_of hi j2 j3 i3 (fun hx => ?_) (fun hx => by omega) (fun hx => by omega))
                               obtain ⟨m1, m2, m3⟩ := j4 hx
                               exact ⟨by omega, by rw [m2, i4], by rw [m3, i5]⟩
          · try (exfalso; first | (simp at hc7; done) | (simp only [decide_eq_true_eq, decide_eq_false_iff_not, Bool.not_eq_true', Bool.not_eq_false', Bool.not_eq_true, Bool.not_eq_false] at hc7; omega) | omega)
            all_goals
             try simp only [decide_eq_true_eq, decide_eq_false_iff_not, Bool.not_eq_true', Bool.not_eq_false', Bool.not_eq_true, Bool.not_eq_false, Option.isNone_none, Option.isNone_some, Option.isSome_none, Option.isSome_some, ne_eq, Decidable.not_not] at hc7
             obtain rfl : T = [] := List.eq_nil_of_length_eq_zero (by omega)
             refine WC.exit ?_
             refine WX.thenExit ?_
             refine WX.thenExit ?_
             refine WX.blockHere ?_
             refine WX.next ?_
             refine WC.seq ?_
             refine WC.region ?_
             refine WL.val rfl rfl rfl rfl (r_assign rfl ev_c) ?_
             refine WL.nil ?_
             refine WX.keep [(6, _)] ⟨rfl, trivial⟩ ?_
             refine WX.next ?_
             refine WC.ret ?_
             refine WX.retE1 rfl rfl ?_
             exact ⟨⟨true, rfl, fun h => by omega, fun hp _ => ⟨fun _ => inv_end hp (hI hp), fun _ => rfl⟩⟩, hU⟩
end Go.Proofs.YtipabhbnljadfaaDoor

/-
  code: can functions run? law 08: the example; too many instructions; functions as the reference has them.
-/
namespace Go.Proofs.YtipabhbnljadfaaDoor
open Go
set_option linter.unusedSimpArgs false
set_option linter.unusedVariables false

set_option maxHeartbeats 1000000 in
theorem Check_ok {w : World} {H : Nat → Prop} {allv : Value} {all : List Fn} {globs : Int} (hTk : Tk w) (hall : IsFs w H allv all) (hok : OKs all) (hlen : ∀ f ∈ all, f.code.length ≤ 1000) :
    Ret Tryd.prog 8 #[allv, .int .i64 globs] w fun u w' => (∃ b, u = .bool b ∧ (b = true ↔ (PosAll all ∧ ∀ f ∈ all, GoodF f all globs))) ∧ Upd No w w' := by
  have hall' := hall
  obtain ⟨V, hV, hVc, hVl⟩ := hall'
  obtain ⟨Aa, ca, rfl, hca⟩ := hV.slice_form
  have hVm := hV.le
  have hVn : V.length = all.length := by rw [← hVl, List.length_map]
  refine enterRet (vs := [_, _]) (N := 19) Tryd.func8 rfl rfl rfl ?_
  have hU := Upd.refl No w
  refine WC.keep [(0, _), (1, _)] ⟨rfl, rfl, trivial⟩ ?_
  refine WC.seq ?_
  refine WC.region ?_
  refine WL.val rfl rfl rfl rfl (r_assign rfl ev_c) ?_
  refine WL.nil ?_
  refine WX.keep [(0, _), (1, _)] ⟨rfl, rfl, trivial⟩ ?_
  refine WX.next ?_
  refine WC.seq ?_
  refine WC.seq ?_
  refine WC.region ?_
  refine WL.val rfl rfl rfl rfl (r_move rfl (ev_t rfl)) ?_
  refine WL.val rfl rfl rfl rfl (r_lenSlice (ts := #[]) rfl (ev_t rfl) elem_22) ?_
  refine WL.val rfl rfl rfl rfl (r_move rfl ev_c) ?_
  refine WL.nil ?_
  refine WX.keep [(0, _), (1, _), (7, _), (8, _), (9, _)] ⟨rfl, rfl, rfl, rfl, rfl, trivial⟩ ?_
  refine WX.next ?_
  refine WC.block ?_
  -- loop 1: live [0, 1, 7, 8, 9]
  refine WC.keep [(0, _), (1, _), (7, _), (8, _), (9, _)] ⟨rfl, rfl, rfl, rfl, rfl, trivial⟩ ?_
  refine WC.loop (fun q E w' => ∃ i : Nat, i ≤ V.length ∧ q = V.length - i ∧ Upd No w w' ∧ (∀ (k : Nat) (f : Fn), all[k]? = some f → k < i → 0 ≤ f.caps ∧ (PosAll all → GoodF f all globs)) ∧   E = [(0, .slice Aa V.length ca), (1, .int .i64 globs), (7, .slice Aa V.length ca), (8, .int .i64 (V.length : Int)), (9, .int .i64 (i : Int))]) (V.length) ?_ ?_
  · exact ⟨0, by omega, by omega, hU, (fun k f _ h => by omega), rfl⟩
  · clear hU
    rintro q E w' ⟨i, hi, rfl, hU, hdone, rfl⟩
    have hw0 := hU.size
    refine WC.seq ?_
    refine WC.region ?_
    refine WL.val rfl rfl rfl rfl (r_lss rfl (ev_t rfl) (ev_t rfl)) ?_
    refine WL.nil ?_
    refine WX.keep [(0, _), (1, _), (7, _), (8, _), (9, _), (10, _)] ⟨rfl, rfl, rfl, rfl, rfl, rfl, trivial⟩ ?_
    refine WX.next ?_
    refine WC.seq ?_
    refine WC.cond rfl (ev_t rfl) (fun hc2 => ?_) (fun hc2 => ?_)
    · try (exfalso; first | (simp at hc2; done) | (simp only [decide_eq_true_eq, decide_eq_false_iff_not, Bool.not_eq_true', Bool.not_eq_false', Bool.not_eq_true, Bool.not_eq_false] at hc2; omega) | omega)
      all_goals
       try simp only [decide_eq_true_eq, decide_eq_false_iff_not, Bool.not_eq_true', Bool.not_eq_false', Bool.not_eq_true, Bool.not_eq_false, Option.isNone_none, Option.isNone_some, Option.isSome_none, Option.isSome_some, ne_eq, Decidable.not_not] at hc2
       obtain ⟨x, hx⟩ : ∃ x, V[i]? = some x := ⟨_, List.getElem?_eq_getElem (by omega)⟩
       have hcell := flatMap_get FnV.cells_len hx
       have hxa : all[i]? = some x.f := by rw [← hVl, List.getElem?_map, hx]; rfl
       have hxc := hVc x (List.mem_of_getElem? hx)
       have hxo := hok _ (List.mem_of_getElem? hxa)
       have hxl := hlen _ (List.mem_of_getElem? hxa)
       obtain ⟨ba, oa, rfl, _⟩ := hV.open (by omega)
       rcases x with ⟨F, fv⟩
       simp only [FnV.cells] at hcell hxa hxc hxo hxl
       obtain ⟨Af, cf, rfl, hcf⟩ := hxc.slice_form
       refine WC.skip ?_
       refine WX.next ?_
       refine WC.seq ?_
       refine WC.block ?_
       refine WC.seq ?_
       refine WC.region ?_
       refine WL.val rfl rfl rfl rfl (r_indexAddr rfl (ev_t rfl) (ev_t rfl) elem_22 size_42 (by omega) (by omega)) ?_
       refine WL.val rfl rfl rfl rfl (r_loadAgg (vs := [_, _]) rfl (ev_t rfl) agg_42 size_42 (Rd.cellsL (us := [.int .i64 F.caps, .slice Af F.code.length cf]) (hV.upd hU (fun _ _ _ h => h)) (i := i * 2) (by omega) hcell)) ?_
       refine WL.cons (SO.alloc rfl rfl rfl rfl (r_alloc rfl zero_42) ?_)
       intro w1 hu1 hB1 hz1
       have hs1 := hu1.size
       replace hU := hU.trans hu1 (by first | exact (fun _ _ h => h) | exact (fun _ _ h => h.elim) | (intro k hl hk; (try simp only [At, New, Grow, From, No] at hk ⊢); omega) | (intro k hl hk; simp only [At, No] at hk; omega))
       refine WL.cons (SO.store2 rfl (ev_t rfl) (ev_t rfl) size_42 hB1 rfl rfl rfl rfl rfl rfl ?_)
       intro w2 hu2 hB1 hz2
       have hs2 := hu2.size
       replace hU := hU.trans hu2 (by first | exact (fun _ _ h => h) | exact (fun _ _ h => h.elim) | (intro k hl hk; (try simp only [At, New, Grow, From, No] at hk ⊢); omega) | (intro k hl hk; simp only [At, No] at hk; omega))
       refine WL.nil ?_
       refine WX.keep [(0, _), (1, _), (6, _), (7, _), (8, _), (9, _)] ⟨rfl, rfl, rfl, rfl, rfl, rfl, trivial⟩ ?_
       refine WX.next ?_
       refine WC.seq ?_
       refine WC.region ?_
       refine WL.val rfl rfl rfl rfl (r_loadAgg (vs := [_, _]) rfl (ev_t rfl) agg_42 size_42 (Blk.cellsL hB1)) ?_
       refine WL.val rfl rfl rfl rfl (r_move rfl (ev_t rfl)) ?_
       refine WL.val rfl rfl rfl rfl (r_move rfl (ev_t rfl)) ?_
       refine WL.cons (SO.call (check_ok (F := F) (hTk.upd hU) hxo.1 hxo.2 (hxc.upd hU (fun _ _ _ h => h)) (hall.upd hU (fun _ _ _ h => h)) hxl) rfl body_20 ⟨(ev_t rfl), (ev_t rfl), (ev_t rfl), trivial⟩ rfl rfl rfl rfl ?_)
       rintro v w3 ⟨⟨b, rfl, hb1, hb2⟩, hu3⟩
       have hs3 := hu3.size
       replace hU := hU.trans hu3 (by first | exact (fun _ _ h => h) | exact (fun _ _ h => h.elim) | (intro k hl hk; (try simp only [At, New, Grow, From, No] at hk ⊢); omega) | (intro k hl hk; simp only [At, No] at hk; omega))
       replace hB1 := hB1.updA hu3
       refine WL.val rfl rfl rfl rfl (r_not rfl (ev_t rfl)) ?_
       refine WL.nil ?_
       refine WX.keep [(0, _), (1, _), (7, _), (8, _), (9, _), (17, _)] ⟨rfl, rfl, rfl, rfl, rfl, rfl, trivial⟩ ?_
       refine WX.next ?_
       refine WC.cond rfl (ev_t rfl) (fun hc4 => ?_) (fun hc4 => ?_)
       · try (exfalso; first | (simp at hc4; done) | (simp only [decide_eq_true_eq, decide_eq_false_iff_not, Bool.not_eq_true', Bool.not_eq_false', Bool.not_eq_true, Bool.not_eq_false] at hc4; omega) | omega)
         all_goals
          try simp only [decide_eq_true_eq, decide_eq_false_iff_not, Bool.not_eq_true', Bool.not_eq_false', Bool.not_eq_true, Bool.not_eq_false, Option.isNone_none, Option.isNone_some, Option.isSome_none, Option.isSome_some, ne_eq, Decidable.not_not] at hc4
          refine WC.seq ?_
          refine WC.region ?_
          refine WL.val rfl rfl rfl rfl (r_assign rfl ev_c) ?_
          refine WL.nil ?_
          refine WX.keep [(4, _)] ⟨rfl, trivial⟩ ?_
          refine WX.next ?_
          refine WC.ret ?_
          refine WX.blockRet ?_
          refine WX.thenRet ?_
          refine WX.thenRet ?_
          refine WX.blockRet ?_
          refine WX.thenRet ?_
          refine WX.retE1 rfl rfl ?_
          refine ⟨⟨false, rfl, (fun h => by cases h), fun ⟨hp, hg⟩ => ?_⟩, hU⟩
          have h1 := hp F (List.mem_of_getElem? hxa)
          rw [hc4] at hb2
          exact (hb2 hp h1).2 (hg F (List.mem_of_getElem? hxa))
       · try (exfalso; first | (simp at hc4; done) | (simp only [decide_eq_true_eq, decide_eq_false_iff_not, Bool.not_eq_true', Bool.not_eq_false', Bool.not_eq_true, Bool.not_eq_false] at hc4; omega) | omega)
         all_goals
          try simp only [decide_eq_true_eq, decide_eq_false_iff_not, Bool.not_eq_true', Bool.not_eq_false', Bool.not_eq_true, Bool.not_eq_false, Option.isNone_none, Option.isNone_some, Option.isSome_none, Option.isSome_some, ne_eq, Decidable.not_not] at hc4
          refine WC.skip ?_
          refine WX.blockNormal ?_
          refine WX.next ?_
          refine WC.region ?_
          first | refine WL.val rfl rfl rfl rfl (r_addN rfl (ev_t rfl) ev_c (by simp only [inK]; omega)) ?_ | refine WL.val rfl rfl rfl rfl (r_add rfl (ev_t rfl) ev_c) ?_
          refine WL.val rfl rfl rfl rfl (r_move rfl (ev_t rfl)) ?_
          refine WL.nil ?_
          refine WX.keep [(0, _), (1, _), (7, _), (8, _), (9, _)] ⟨rfl, rfl, rfl, rfl, rfl, trivial⟩ ?_
          refine WX.meet [(0, _), (1, _), (7, _), (8, _), (9, _)] ⟨rfl, rfl, rfl, rfl, rfl, trivial⟩ ?_
          refine ⟨V.length - (i + 1), by omega, i + 1, by omega, rfl, hU, fun k f hk hki => ?_, rfl⟩
          rcases Nat.lt_or_ge k i with h | h
          · exact hdone k f hk h
          · obtain rfl : k = i := by omega
            rw [hxa] at hk
            have := Option.some.inj hk
            subst this
            have hc0 : 0 ≤ F.caps := Int.not_lt.1 fun h => by rw [hb1 h] at hc4; cases hc4
            exact ⟨hc0, fun hp => (hb2 hp hc0).1 hc4⟩
    · try (exfalso; first | (simp at hc2; done) | (simp only [decide_eq_true_eq, decide_eq_false_iff_not, Bool.not_eq_true', Bool.not_eq_false', Bool.not_eq_true, Bool.not_eq_false] at hc2; omega) | omega)
      all_goals
       try simp only [decide_eq_true_eq, decide_eq_false_iff_not, Bool.not_eq_true', Bool.not_eq_false', Bool.not_eq_true, Bool.not_eq_false, Option.isNone_none, Option.isNone_some, Option.isSome_none, Option.isSome_some, ne_eq, Decidable.not_not] at hc2
       refine WC.exit ?_
       refine WX.thenExit ?_
       refine WX.thenExit ?_
       refine WX.blockHere ?_
       refine WX.next ?_
       refine WC.seq ?_
       refine WC.region ?_
       refine WL.val rfl rfl rfl rfl (r_assign rfl ev_c) ?_
       refine WL.nil ?_
       refine WX.keep [(4, _)] ⟨rfl, trivial⟩ ?_
       refine WX.next ?_
       refine WC.ret ?_
       refine WX.retE1 rfl rfl ?_
       have hp : PosAll all := fun f hf => by
         obtain ⟨k, hk⟩ := List.mem_iff_getElem?.1 hf
         exact (hdone k f hk (by have := (List.getElem?_eq_some_iff.1 hk).1; omega)).1
       refine ⟨⟨true, rfl, fun _ => ⟨hp, fun f hf => ?_⟩, fun _ => rfl⟩, hU⟩
       obtain ⟨k, hk⟩ := List.mem_iff_getElem?.1 hf
       exact (hdone k f hk (by have := (List.getElem?_eq_some_iff.1 hk).1; omega)).2 hp

def exA : List Fn := [⟨0, [⟨2, 0, 0, []⟩, ⟨8, 0, 0, []⟩]⟩]
def exB : List Fn := [⟨0, [⟨8, 0, 0, []⟩]⟩]
theorem exA_good : PosAll exA ∧ ∀ f ∈ exA, GoodF f exA 0 := by
  refine ⟨fun g hg => by simp [exA] at hg; subst hg; decide, fun f hf => ?_⟩
  simp only [exA, List.mem_singleton] at hf
  subst hf
  refine ⟨fun k => if k = 0 then some (1, 0) else if k = 1 then some (2, 0) else none, rfl, fun k d t hk => ?_⟩
  by_cases h0 : k = 0
  · subst h0
    simp at hk
    obtain ⟨rfl, rfl⟩ := hk
    refine ⟨_, rfl, by decide, fun x hx => ?_⟩
    have e : succsI ⟨2, 0, 0, []⟩ 0 1 0 = [(1, 2, 0)] := by decide
    rw [e, List.mem_singleton] at hx
    subst hx
    exact ⟨by decide, by decide, rfl⟩
  · by_cases h1 : k = 1
    · subst h1
      simp at hk
      obtain ⟨rfl, rfl⟩ := hk
      refine ⟨_, rfl, by decide, fun x hx => ?_⟩
      have e : succsI ⟨8, 0, 0, []⟩ 1 2 0 = [] := by decide
      rw [e] at hx
      cases hx
    · simp [h0, h1] at hk
theorem exB_bad : ¬ (PosAll exB ∧ ∀ f ∈ exB, GoodF f exB 0) := by
  rintro ⟨_, h⟩
  obtain ⟨L, hL⟩ := h ⟨0, [⟨8, 0, 0, []⟩]⟩ (by simp [exB])
  obtain ⟨i, hi, hf, _⟩ := hL.2 0 1 0 hL.1
  simp at hi
  subst hi
  revert hf
  decide
theorem exA_ok : OKs exA ∧ OKs exB := by
  refine ⟨fun f hf => ?_, fun f hf => ?_⟩
  · simp only [exA, List.mem_singleton] at hf
    subst hf
    refine ⟨by simp [inK], fun i hi => ?_⟩
    simp only [List.mem_cons, List.not_mem_nil, or_false] at hi
    rcases hi with rfl | rfl <;> exact ⟨by simp, by simp [inK], by simp [inK], by simp⟩
  · simp only [exB, List.mem_singleton] at hf
    subst hf
    refine ⟨by simp [inK], fun i hi => ?_⟩
    simp only [List.mem_cons, List.not_mem_nil, or_false] at hi
    subst hi
    exact ⟨by simp, by simp [inK], by simp [inK], by simp⟩

set_option maxHeartbeats 1000000 in
theorem awake08_ok {w : World} (hTk : Tk w) : Ret Tryd.prog 6 #[] w fun v w' => v = .bool true ∧ Upd No w w' := by
  refine enterRet (vs := []) (N := 25) Tryd.func6 rfl rfl rfl ?_
  have hU := Upd.refl No w
  refine WC.keep [] trivial ?_
  refine WC.seq ?_
  refine WC.region ?_
  refine WL.val rfl rfl rfl rfl (r_assign rfl ev_c) ?_
  refine WL.nil ?_
  refine WX.keep [] trivial ?_
  refine WX.next ?_
  refine WC.seq ?_
  refine WC.region ?_
  refine WL.val rfl rfl rfl rfl (r_build (cs := #[_, _, _, _]) (vs := [(0, _)]) rfl ⟨⟨rfl, ev_c⟩, trivial⟩ plc_44 zero_44 rfl) ?_
  refine WL.val rfl rfl rfl rfl (r_build (cs := #[_, _, _, _]) (vs := [(0, _)]) rfl ⟨⟨rfl, ev_c⟩, trivial⟩ plc_44 zero_44 rfl) ?_
  refine WL.cons (SO.alloc rfl rfl rfl rfl (r_buildSlice (cs := #[_, _, _, _, _, _, _, _]) (vs := [(0, _), (1, _)]) rfl ⟨⟨rfl, (ev_t rfl)⟩, ⟨rfl, (ev_t rfl)⟩, trivial⟩ row_40 rfl rfl) ?_)
  intro w1 hu1 hB1 hz1
  have hs1 := hu1.size
  replace hU := hU.transA hu1
  skip
  refine WL.val rfl rfl rfl rfl (r_build (cs := #[_, _]) (vs := [(1, _)]) rfl ⟨⟨rfl, (ev_t rfl)⟩, trivial⟩ plc_42 zero_42 rfl) ?_
  refine WL.cons (SO.alloc rfl rfl rfl rfl (r_buildSlice (cs := #[_, _]) (vs := [(0, _)]) rfl ⟨⟨rfl, (ev_t rfl)⟩, trivial⟩ row_22 rfl rfl) ?_)
  intro w2 hu2 hB2 hz2
  have hs2 := hu2.size
  replace hU := hU.transA hu2
  replace hB1 := hB1.upd hu2 (fun h => h)
  refine WL.val rfl rfl rfl rfl (r_assign rfl (ev_t rfl)) ?_
  refine WL.nil ?_
  refine WX.keep [(1, _)] ⟨rfl, trivial⟩ ?_
  have hA : IsFs w2 (fun _ => True) (.slice (some ⟨w1.heap.size, 0, none⟩) 1 1) exA := ⟨[⟨⟨0, [⟨2, 0, 0, []⟩, ⟨8, 0, 0, []⟩]⟩, .slice (some ⟨w.heap.size, 0, none⟩) 2 2⟩], Rd.of_blk (F := fun _ => True) (n := 1) (sz := 2) hB2 trivial rfl (by omega), (fun x hx => by
    simp only [List.mem_singleton] at hx
    subst hx
    exact Rd.of_blk (F := fun _ => True) (n := 2) (sz := 4) hB1 trivial rfl (by omega)), rfl⟩
  refine WX.next ?_
  refine WC.seq ?_
  refine WC.region ?_
  refine WL.val rfl rfl rfl rfl (r_build (cs := #[_, _, _, _]) (vs := [(0, _)]) rfl ⟨⟨rfl, ev_c⟩, trivial⟩ plc_44 zero_44 rfl) ?_
  refine WL.cons (SO.alloc rfl rfl rfl rfl (r_buildSlice (cs := #[_, _, _, _]) (vs := [(0, _)]) rfl ⟨⟨rfl, (ev_t rfl)⟩, trivial⟩ row_40 rfl rfl) ?_)
  intro w3 hu3 hB3 hz3
  have hs3 := hu3.size
  replace hU := hU.transA hu3
  replace hA := hA.upd hu3 (fun _ _ _ h => h)
  skip
  refine WL.val rfl rfl rfl rfl (r_build (cs := #[_, _]) (vs := [(1, _)]) rfl ⟨⟨rfl, (ev_t rfl)⟩, trivial⟩ plc_42 zero_42 rfl) ?_
  refine WL.cons (SO.alloc rfl rfl rfl rfl (r_buildSlice (cs := #[_, _]) (vs := [(0, _)]) rfl ⟨⟨rfl, (ev_t rfl)⟩, trivial⟩ row_22 rfl rfl) ?_)
  intro w4 hu4 hB4 hz4
  have hs4 := hu4.size
  replace hU := hU.transA hu4
  replace hA := hA.upd hu4 (fun _ _ _ h => h)
  replace hB3 := hB3.upd hu4 (fun h => h)
  refine WL.val rfl rfl rfl rfl (r_assign rfl (ev_t rfl)) ?_
  refine WL.nil ?_
  refine WX.keep [(1, _), (2, _)] ⟨rfl, rfl, trivial⟩ ?_
  have hBB : IsFs w4 (fun _ => True) (.slice (some ⟨w3.heap.size, 0, none⟩) 1 1) exB := ⟨[⟨⟨0, [⟨8, 0, 0, []⟩]⟩, .slice (some ⟨w2.heap.size, 0, none⟩) 1 1⟩], Rd.of_blk (F := fun _ => True) (n := 1) (sz := 2) hB4 trivial rfl (by omega), (fun x hx => by
    simp only [List.mem_singleton] at hx
    subst hx
    exact Rd.of_blk (F := fun _ => True) (n := 1) (sz := 4) hB3 trivial rfl (by omega)), rfl⟩
  refine WX.next ?_
  refine WC.seq ?_
  refine WC.region ?_
  refine WL.val rfl rfl rfl rfl (r_move rfl (ev_t rfl)) ?_
  refine WL.cons (SO.call (Check_ok (all := exA) (hTk.upd hU) hA exA_ok.1 (fun f hf => by simp only [exA, List.mem_singleton] at hf; subst hf; simp)) rfl body_8 ⟨(ev_t rfl), ev_c, trivial⟩ rfl rfl rfl rfl ?_)
  rintro v w5 ⟨⟨b, rfl, hb⟩, hu5⟩
  obtain rfl := hb.2 exA_good
  have hs5 := hu5.size
  replace hU := hU.transA hu5
  replace hA := hA.upd hu5 (fun _ _ _ h => h)
  replace hBB := hBB.upd hu5 (fun _ _ _ h => h)
  refine WL.val rfl rfl rfl rfl (r_move rfl (ev_t rfl)) ?_
  refine WL.cases 14 rfl (fun hb3_2 => ?_) (fun hb3_2 => ?_)
  · try (exfalso; first | (simp at hb3_2; done) | (simp only [decide_eq_true_eq, decide_eq_false_iff_not, Bool.not_eq_true', Bool.not_eq_false', Bool.not_eq_true, Bool.not_eq_false] at hb3_2; omega) | omega)
    all_goals
     try simp only [decide_eq_true_eq, decide_eq_false_iff_not, Bool.not_eq_true', Bool.not_eq_false', Bool.not_eq_true, Bool.not_eq_false, Option.isNone_none, Option.isNone_some, Option.isSome_none, Option.isSome_some, ne_eq, Decidable.not_not] at hb3_2
     refine WL.val rfl rfl rfl rfl (r_move rfl (ev_t rfl)) ?_
     refine WL.cons (SO.call (Check_ok (all := exB) (hTk.upd hU) hBB exA_ok.2 (fun f hf => by simp only [exB, List.mem_singleton] at hf; subst hf; simp)) rfl body_8 ⟨(ev_t rfl), ev_c, trivial⟩ rfl rfl rfl rfl ?_)
     rintro v w6 ⟨⟨b, rfl, hb⟩, hu6⟩
     obtain rfl : b = false := Bool.eq_false_iff.2 fun h => exB_bad (hb.1 h)
     have hs6 := hu6.size
     replace hU := hU.transA hu6
     replace hA := hA.upd hu6 (fun _ _ _ h => h)
     replace hBB := hBB.upd hu6 (fun _ _ _ h => h)
     refine WL.val rfl rfl rfl rfl (r_not rfl (ev_t rfl)) ?_
     refine WL.val rfl rfl rfl rfl (r_pickT rfl (ev_t rfl) (ev_t rfl)) ?_
     refine WL.val rfl rfl rfl rfl (r_move rfl (ev_t rfl)) ?_
     first | refine WL.val rfl rfl rfl rfl (r_pickT rfl (ev_t rfl) ev_c) ?_ | refine WL.val rfl rfl rfl rfl (r_pickF rfl (ev_t rfl) ev_c) ?_
     refine WL.val rfl rfl rfl rfl (r_move rfl (ev_t rfl)) ?_
     first | refine WL.val rfl rfl rfl rfl (r_pickT rfl (ev_t rfl) ev_c) ?_ | refine WL.val rfl rfl rfl rfl (r_pickF rfl (ev_t rfl) ev_c) ?_
     refine WL.val rfl rfl rfl rfl (r_move rfl (ev_t rfl)) ?_
     first | refine WL.val rfl rfl rfl rfl (r_pickT rfl (ev_t rfl) ev_c) ?_ | refine WL.val rfl rfl rfl rfl (r_pickF rfl (ev_t rfl) ev_c) ?_
     refine WL.val rfl rfl rfl rfl (r_assign rfl (ev_t rfl)) ?_
     refine WL.nil ?_
     refine WX.keep [(0, _)] ⟨rfl, trivial⟩ ?_
     refine WX.next ?_
     refine WC.ret ?_
     refine WX.retE1 rfl rfl ?_
     exact ⟨rfl, hU⟩
  · try (exfalso; first | (simp at hb3_2; done) | (simp only [decide_eq_true_eq, decide_eq_false_iff_not, Bool.not_eq_true', Bool.not_eq_false', Bool.not_eq_true, Bool.not_eq_false] at hb3_2; omega) | omega)
    all_goals
     try simp only [decide_eq_true_eq, decide_eq_false_iff_not, Bool.not_eq_true', Bool.not_eq_false', Bool.not_eq_true, Bool.not_eq_false, Option.isNone_none, Option.isNone_some, Option.isSome_none, Option.isSome_some, ne_eq, Decidable.not_not] at hb3_2
     refine WL.skip rfl rfl rfl ?_
     refine WL.skip rfl rfl rfl ?_
     refine WL.skip rfl rfl rfl ?_
     refine WL.val rfl rfl rfl rfl (r_pickF rfl (ev_t rfl) ev_c) ?_
     refine WL.val rfl rfl rfl rfl (r_move rfl (ev_t rfl)) ?_
     refine WL.val rfl rfl rfl rfl (r_pickF rfl (ev_t rfl) ev_c) ?_
     refine WL.val rfl rfl rfl rfl (r_move rfl (ev_t rfl)) ?_
     refine WL.val rfl rfl rfl rfl (r_pickF rfl (ev_t rfl) ev_c) ?_
     refine WL.val rfl rfl rfl rfl (r_move rfl (ev_t rfl)) ?_
     refine WL.val rfl rfl rfl rfl (r_pickF rfl (ev_t rfl) ev_c) ?_
     refine WL.val rfl rfl rfl rfl (r_assign rfl (ev_t rfl)) ?_
     refine WL.nil ?_
     refine WX.keep [(0, _)] ⟨rfl, trivial⟩ ?_
     refine WX.next ?_
     refine WC.ret ?_
     refine WX.retE1 rfl rfl ?_
     exact ⟨rfl, hU⟩
end Go.Proofs.YtipabhbnljadfaaDoor

/-
  law 08: too many instructions? functions as the reference has them.
-/
namespace Go.Proofs.YtipabhbnljadfaaDoor
open Go
set_option linter.unusedSimpArgs false
set_option linter.unusedVariables false

theorem great_ok {w : World} {H : Nat → Prop} {v : Value} {l : List Fn} (hall : IsFs w H v l) :
    Ret Tryd.prog 7 #[v] w fun u w' => (∃ b, u = .bool b ∧ (b = false → l.length ≤ 20 ∧ ∀ f ∈ l, f.code.length ≤ 100)) ∧ Upd No w w' := by
  obtain ⟨V, hV, hVc, hVl⟩ := hall
  obtain ⟨Aa, ca, rfl, hca⟩ := hV.slice_form
  have hVm := hV.le
  have hVn : V.length = l.length := by rw [← hVl, List.length_map]
  refine enterRet (vs := [_]) (N := 20) Tryd.func7 rfl rfl rfl ?_
  have hU := Upd.refl No w
  refine WC.keep [(0, _)] ⟨rfl, trivial⟩ ?_
  refine WC.seq ?_
  refine WC.region ?_
  refine WL.val rfl rfl rfl rfl (r_assign rfl ev_c) ?_
  refine WL.nil ?_
  refine WX.keep [(0, _)] ⟨rfl, trivial⟩ ?_
  refine WX.next ?_
  refine WC.seq ?_
  refine WC.seq ?_
  refine WC.region ?_
  refine WL.val rfl rfl rfl rfl (r_move rfl (ev_t rfl)) ?_
  refine WL.val rfl rfl rfl rfl (r_lenSlice (ts := #[]) rfl (ev_t rfl) elem_22) ?_
  refine WL.val rfl rfl rfl rfl (r_gtr rfl (ev_t rfl) ev_c) ?_
  refine WL.nil ?_
  refine WX.keep [(0, _), (6, _)] ⟨rfl, rfl, trivial⟩ ?_
  refine WX.next ?_
  refine WC.cond rfl (ev_t rfl) (fun hc1 => ?_) (fun hc1 => ?_)
  · try (exfalso; first | (simp at hc1; done) | (simp only [decide_eq_true_eq, decide_eq_false_iff_not, Bool.not_eq_true', Bool.not_eq_false', Bool.not_eq_true, Bool.not_eq_false] at hc1; omega) | omega)
    all_goals
     try simp only [decide_eq_true_eq, decide_eq_false_iff_not, Bool.not_eq_true', Bool.not_eq_false', Bool.not_eq_true, Bool.not_eq_false, Option.isNone_none, Option.isNone_some, Option.isSome_none, Option.isSome_some, ne_eq, Decidable.not_not] at hc1
     refine WC.seq ?_
     refine WC.region ?_
     refine WL.val rfl rfl rfl rfl (r_assign rfl ev_c) ?_
     refine WL.nil ?_
     refine WX.keep [(2, _)] ⟨rfl, trivial⟩ ?_
     refine WX.next ?_
     refine WC.ret ?_
     refine WX.thenRet ?_
     refine WX.retE1 rfl rfl ?_
     exact ⟨⟨true, rfl, fun h => by cases h⟩, hU⟩
  · try (exfalso; first | (simp at hc1; done) | (simp only [decide_eq_true_eq, decide_eq_false_iff_not, Bool.not_eq_true', Bool.not_eq_false', Bool.not_eq_true, Bool.not_eq_false] at hc1; omega) | omega)
    all_goals
     try simp only [decide_eq_true_eq, decide_eq_false_iff_not, Bool.not_eq_true', Bool.not_eq_false', Bool.not_eq_true, Bool.not_eq_false, Option.isNone_none, Option.isNone_some, Option.isSome_none, Option.isSome_some, ne_eq, Decidable.not_not] at hc1
     refine WC.skip ?_
     refine WX.next ?_
     refine WC.seq ?_
     refine WC.seq ?_
     refine WC.region ?_
     refine WL.val rfl rfl rfl rfl (r_assign rfl ev_c) ?_
     refine WL.nil ?_
     refine WX.keep [(0, _), (3, _)] ⟨rfl, rfl, trivial⟩ ?_
     refine WX.next ?_
     refine WC.block ?_
     -- loop 1: live [0, 3]
     refine WC.keep [(0, _), (3, _)] ⟨rfl, rfl, trivial⟩ ?_
     refine WC.loop (fun q E w' => ∃ i : Nat, i ≤ V.length ∧ q = V.length - i ∧ Upd No w w' ∧ V.length ≤ 20 ∧ (∀ (k : Nat) (f : Fn), l[k]? = some f → k < i → f.code.length ≤ 100) ∧   E = [(0, .slice Aa V.length ca), (3, .int .i64 (i : Int))]) (V.length) ?_ ?_
     · exact ⟨0, by omega, by omega, hU, by omega, (fun k f _ h => by omega), rfl⟩
     · clear hU
       rintro q E w' ⟨i, hi, rfl, hU, h20, hdone, rfl⟩
       refine WC.seq ?_
       refine WC.seq ?_
       refine WC.region ?_
       refine WL.val rfl rfl rfl rfl (r_move rfl (ev_t rfl)) ?_
       refine WL.val rfl rfl rfl rfl (r_move rfl (ev_t rfl)) ?_
       refine WL.val rfl rfl rfl rfl (r_lenSlice (ts := #[]) rfl (ev_t rfl) elem_22) ?_
       refine WL.val rfl rfl rfl rfl (r_lss rfl (ev_t rfl) (ev_t rfl)) ?_
       refine WL.nil ?_
       refine WX.keep [(0, _), (3, _), (10, _)] ⟨rfl, rfl, rfl, trivial⟩ ?_
       refine WX.next ?_
       refine WC.cond rfl (ev_t rfl) (fun hc4 => ?_) (fun hc4 => ?_)
       · try (exfalso; first | (simp at hc4; done) | (simp only [decide_eq_true_eq, decide_eq_false_iff_not, Bool.not_eq_true', Bool.not_eq_false', Bool.not_eq_true, Bool.not_eq_false] at hc4; omega) | omega)
         all_goals
          try simp only [decide_eq_true_eq, decide_eq_false_iff_not, Bool.not_eq_true', Bool.not_eq_false', Bool.not_eq_true, Bool.not_eq_false, Option.isNone_none, Option.isNone_some, Option.isSome_none, Option.isSome_some, ne_eq, Decidable.not_not] at hc4
          obtain ⟨x, hx⟩ : ∃ x, V[i]? = some x := ⟨_, List.getElem?_eq_getElem (by omega)⟩
          have hcell := flatMap_get FnV.cells_len hx
          have hxa : l[i]? = some x.f := by rw [← hVl, List.getElem?_map, hx]; rfl
          have hxc := hVc x (List.mem_of_getElem? hx)
          obtain ⟨ba, oa, rfl, _⟩ := hV.open (by omega)
          rcases x with ⟨F, fv⟩
          simp only [FnV.cells] at hcell hxa hxc
          obtain ⟨Af, cf, rfl, hcf⟩ := hxc.slice_form
          refine WC.skip ?_
          refine WX.next ?_
          refine WC.seq ?_
          refine WC.block ?_
          refine WC.seq ?_
          refine WC.region ?_
          refine WL.val rfl rfl rfl rfl (r_move rfl (ev_t rfl)) ?_
          refine WL.val rfl rfl rfl rfl (r_move rfl (ev_t rfl)) ?_
          refine WL.val rfl rfl rfl rfl (r_indexAddr rfl (ev_t rfl) (ev_t rfl) elem_22 size_42 (by omega) (by omega)) ?_
          first | refine WL.val rfl rfl rfl rfl (r_field0 rfl (ev_t rfl) fld_42_1) ?_ | refine WL.val rfl rfl rfl rfl (r_fieldAt rfl (ev_t rfl) fld_42_1) ?_
          refine WL.val rfl rfl rfl rfl (r_load rfl (ev_t rfl) flat_40 (Rd.cell (hV.upd hU (fun _ _ _ h => h)) (j := i * 2 + 1) (by omega) (hcell 1 _ rfl))) ?_
          refine WL.val rfl rfl rfl rfl (r_lenSlice (ts := #[]) rfl (ev_t rfl) elem_40) ?_
          refine WL.val rfl rfl rfl rfl (r_gtr rfl (ev_t rfl) ev_c) ?_
          refine WL.nil ?_
          refine WX.keep [(0, _), (3, _), (19, _)] ⟨rfl, rfl, rfl, trivial⟩ ?_
          refine WX.next ?_
          refine WC.cond rfl (ev_t rfl) (fun hc6 => ?_) (fun hc6 => ?_)
          · try (exfalso; first | (simp at hc6; done) | (simp only [decide_eq_true_eq, decide_eq_false_iff_not, Bool.not_eq_true', Bool.not_eq_false', Bool.not_eq_true, Bool.not_eq_false] at hc6; omega) | omega)
            all_goals
             try simp only [decide_eq_true_eq, decide_eq_false_iff_not, Bool.not_eq_true', Bool.not_eq_false', Bool.not_eq_true, Bool.not_eq_false, Option.isNone_none, Option.isNone_some, Option.isSome_none, Option.isSome_some, ne_eq, Decidable.not_not] at hc6
             refine WC.seq ?_
             refine WC.region ?_
             refine WL.val rfl rfl rfl rfl (r_assign rfl ev_c) ?_
             refine WL.nil ?_
             refine WX.keep [(2, _)] ⟨rfl, trivial⟩ ?_
             refine WX.next ?_
             refine WC.ret ?_
             refine WX.blockRet ?_
             refine WX.thenRet ?_
             refine WX.thenRet ?_
             refine WX.blockRet ?_
             refine WX.thenRet ?_
             refine WX.retE1 rfl rfl ?_
             exact ⟨⟨true, rfl, fun h => by cases h⟩, hU⟩
          · try (exfalso; first | (simp at hc6; done) | (simp only [decide_eq_true_eq, decide_eq_false_iff_not, Bool.not_eq_true', Bool.not_eq_false', Bool.not_eq_true, Bool.not_eq_false] at hc6; omega) | omega)
            all_goals
             try simp only [decide_eq_true_eq, decide_eq_false_iff_not, Bool.not_eq_true', Bool.not_eq_false', Bool.not_eq_true, Bool.not_eq_false, Option.isNone_none, Option.isNone_some, Option.isSome_none, Option.isSome_some, ne_eq, Decidable.not_not] at hc6
             refine WC.skip ?_
             refine WX.blockNormal ?_
             refine WX.next ?_
             refine WC.region ?_
             refine WL.val rfl rfl rfl rfl (r_move rfl (ev_t rfl)) ?_
             first | refine WL.val rfl rfl rfl rfl (r_addN rfl (ev_t rfl) ev_c (by simp only [inK]; omega)) ?_ | refine WL.val rfl rfl rfl rfl (r_add rfl (ev_t rfl) ev_c) ?_
             refine WL.val rfl rfl rfl rfl (r_assign rfl (ev_t rfl)) ?_
             refine WL.nil ?_
             refine WX.keep [(0, _), (3, _)] ⟨rfl, rfl, trivial⟩ ?_
             refine WX.meet [(0, _), (3, _)] ⟨rfl, rfl, trivial⟩ ?_
             refine ⟨V.length - (i + 1), by omega, i + 1, by omega, rfl, hU, h20, fun k f hk hki => ?_, rfl⟩
             rcases Nat.lt_or_ge k i with h | h
             · exact hdone k f hk h
             · obtain rfl : k = i := by omega
               rw [hxa] at hk
               have := Option.some.inj hk
               subst this
               omega
       · try (exfalso; first | (simp at hc4; done) | (simp only [decide_eq_true_eq, decide_eq_false_iff_not, Bool.not_eq_true', Bool.not_eq_false', Bool.not_eq_true, Bool.not_eq_false] at hc4; omega) | omega)
         all_goals
          try simp only [decide_eq_true_eq, decide_eq_false_iff_not, Bool.not_eq_true', Bool.not_eq_false', Bool.not_eq_true, Bool.not_eq_false, Option.isNone_none, Option.isNone_some, Option.isSome_none, Option.isSome_some, ne_eq, Decidable.not_not] at hc4
          refine WC.exit ?_
          refine WX.thenExit ?_
          refine WX.thenExit ?_
          refine WX.blockHere ?_
          refine WX.next ?_
          refine WC.seq ?_
          refine WC.region ?_
          refine WL.val rfl rfl rfl rfl (r_assign rfl ev_c) ?_
          refine WL.nil ?_
          refine WX.keep [(2, _)] ⟨rfl, trivial⟩ ?_
          refine WX.next ?_
          refine WC.ret ?_
          refine WX.retE1 rfl rfl ?_
          refine ⟨⟨false, rfl, fun _ => ⟨by omega, fun f hf => ?_⟩⟩, hU⟩
          obtain ⟨k, hk⟩ := List.mem_iff_getElem?.1 hf
          exact hdone k f hk (by have := (List.getElem?_eq_some_iff.1 hk).1; omega)

theorem Own.cast {w : World} {F : Nat → Prop} {T : TypeId} {sz n : Nat} {v : Value} {xs ys : List Value} (h : Own w F T sz v n xs) (e : xs = ys) : Own w F T sz v n ys := e ▸ h
theorem take_ins {l : List In} {j : Nat} {i : In} (h : l[j]? = some i) : (l.take (j + 1)).flatMap insC = (l.take j).flatMap insC ++ insC i := by
  rw [List.take_add_one, h]
  simp

set_option maxHeartbeats 4000000 in
theorem funs_ok {w : World} {H : Nat → Prop} {v : Value} {l : List Fn} (hall : IsFs w H v l) (h20 : l.length ≤ 4000) (h100 : ∀ f ∈ l, f.code.length ≤ 1048576) :
    Ret Tryd.prog 10 #[v] w fun u w' => IsFs w' (New w w') u l ∧ Upd No w w' := by
  obtain ⟨V, hV, hVc, hVl⟩ := hall
  obtain ⟨Aa, ca, rfl, hca⟩ := hV.slice_form
  have hVm := hV.le
  have hVn : V.length = l.length := by rw [← hVl, List.length_map]
  refine enterRet (vs := [_]) (N := 57) Tryd.func10 rfl rfl rfl ?_
  have hU := Upd.refl No w
  refine WC.keep [(0, _)] ⟨rfl, trivial⟩ ?_
  refine WC.seq ?_
  refine WC.region ?_
  refine WL.val rfl rfl rfl rfl (r_assign rfl ev_c) ?_
  refine WL.nil ?_
  refine WX.keep [(0, _)] ⟨rfl, trivial⟩ ?_
  refine WX.next ?_
  refine WC.seq ?_
  refine WC.region ?_
  refine WL.val rfl rfl rfl rfl (r_assign rfl ev_c) ?_
  refine WL.nil ?_
  refine WX.keep [(0, _), (3, _)] ⟨rfl, rfl, trivial⟩ ?_
  refine WX.next ?_
  refine WC.seq ?_
  refine WC.seq ?_
  refine WC.region ?_
  refine WL.val rfl rfl rfl rfl (r_assign rfl ev_c) ?_
  refine WL.nil ?_
  refine WX.keep [(0, _), (3, _), (4, _)] ⟨rfl, rfl, rfl, trivial⟩ ?_
  refine WX.next ?_
  refine WC.block ?_
  -- loop 1: live [0, 3, 4]
  refine WC.keep [(0, _), (3, _), (4, _)] ⟨rfl, rfl, rfl, trivial⟩ ?_
  refine WC.loop (fun q E w' => ∃ (i : Nat) (V2 : List FnV) (A2 : Option Addr) (c2 : Nat) (G C : Nat → Prop), i ≤ V.length ∧ q = V.length - i ∧ Upd No w w' ∧ V2.length = i ∧ V2.map FnV.f = l.take i ∧ Own w' G 54 2 (.slice A2 V2.length c2) V2.length (V2.flatMap FnV.cells) ∧ (∀ x ∈ V2, Rd w' C x.v x.f.code.length 4 (x.f.code.flatMap insC)) ∧   (∀ k, G k → w.heap.size ≤ k ∧ k < w'.heap.size) ∧ (∀ k, C k → w.heap.size ≤ k ∧ k < w'.heap.size ∧ ¬ G k) ∧   E = [(0, .slice Aa V.length ca), (3, .slice A2 V2.length c2), (4, .int .i64 (i : Int))]) (V.length) ?_ ?_
  · exact ⟨0, [], none, 0, fun _ => False, fun _ => False, by omega, by omega, hU, rfl, rfl, Own.nil _ _ _ _, (fun x hx => by cases hx), (fun k h => h.elim), (fun k h => h.elim), rfl⟩
  · clear hU
    rintro q E wA ⟨i, V2, A2, c2, G, C, hi, rfl, hU, hV2, hV2l, hO, hD, hG, hC, rfl⟩
    have hw0 := hU.size
    have hW := Upd.refl No wA
    refine WC.seq ?_
    refine WC.seq ?_
    refine WC.region ?_
    refine WL.val rfl rfl rfl rfl (r_move rfl (ev_t rfl)) ?_
    refine WL.val rfl rfl rfl rfl (r_move rfl (ev_t rfl)) ?_
    refine WL.val rfl rfl rfl rfl (r_lenSlice (ts := #[]) rfl (ev_t rfl) elem_22) ?_
    refine WL.val rfl rfl rfl rfl (r_lss rfl (ev_t rfl) (ev_t rfl)) ?_
    refine WL.nil ?_
    refine WX.keep [(0, _), (3, _), (4, _), (11, _)] ⟨rfl, rfl, rfl, rfl, trivial⟩ ?_
    refine WX.next ?_
    refine WC.cond rfl (ev_t rfl) (fun hc3 => ?_) (fun hc3 => ?_)
    · try (exfalso; first | (simp at hc3; done) | (simp only [decide_eq_true_eq, decide_eq_false_iff_not, Bool.not_eq_true', Bool.not_eq_false', Bool.not_eq_true, Bool.not_eq_false] at hc3; omega) | omega)
      all_goals
       try simp only [decide_eq_true_eq, decide_eq_false_iff_not, Bool.not_eq_true', Bool.not_eq_false', Bool.not_eq_true, Bool.not_eq_false, Option.isNone_none, Option.isNone_some, Option.isSome_none, Option.isSome_some, ne_eq, Decidable.not_not] at hc3
       obtain ⟨x, hx⟩ : ∃ x, V[i]? = some x := ⟨_, List.getElem?_eq_getElem (by omega)⟩
       have hcell := flatMap_get FnV.cells_len hx
       have hxa : l[i]? = some x.f := by rw [← hVl, List.getElem?_map, hx]; rfl
       have hxc := hVc x (List.mem_of_getElem? hx)
       have hx1 := h100 _ (List.mem_of_getElem? hxa)
       obtain ⟨ba, oa, rfl, _⟩ := hV.open (by omega)
       rcases x with ⟨F, fv⟩
       simp only [FnV.cells] at hcell hxa hxc hx1
       obtain ⟨Af, cf, rfl, hcf⟩ := hxc.slice_form
       refine WC.skip ?_
       refine WX.next ?_
       refine WC.seq ?_
       refine WC.block ?_
       refine WC.seq ?_
       refine WC.region ?_
       refine WL.val rfl rfl rfl rfl (r_move rfl (ev_t rfl)) ?_
       refine WL.val rfl rfl rfl rfl (r_move rfl (ev_t rfl)) ?_
       refine WL.val rfl rfl rfl rfl (r_indexAddr rfl (ev_t rfl) (ev_t rfl) elem_22 size_42 (by omega) (by omega)) ?_
       first | refine WL.val rfl rfl rfl rfl (r_field0 rfl (ev_t rfl) fld_42_0) ?_ | refine WL.val rfl rfl rfl rfl (r_fieldAt rfl (ev_t rfl) fld_42_0) ?_
       refine WL.val rfl rfl rfl rfl (r_load rfl (ev_t rfl) flat_3 (Rd.cell (hV.upd hU (fun _ _ _ h => h)) (j := i * 2) (by omega) (hcell 0 _ rfl))) ?_
       refine WL.val rfl rfl rfl rfl (r_build (cs := #[_, _]) (vs := [(0, _)]) rfl ⟨⟨rfl, (ev_t rfl)⟩, trivial⟩ plc_54 zero_54 rfl) ?_
       refine WL.cons (SO.alloc rfl rfl rfl rfl (r_alloc rfl zero_54) ?_)
       intro w1 hu1 hB1 hz1
       have hs1 := hu1.size
       replace hU := hU.trans hu1 (by first | exact (fun _ _ h => h) | exact (fun _ _ h => h.elim) | (intro k hl hk; (try simp only [At, New, Grow, From, No] at hk ⊢); omega) | (intro k hl hk; first | (simp only [At, No] at hk; omega) | (have := hGc k hk; omega) | (have := hG k hk; omega)))
       replace hO := hO.upd hu1 (by first | exact (fun _ _ _ h => h) | (intro k hk hl hS; have := hG k hk; first | (simp only [At, No] at hS; omega) | (have := hGc k hS; omega)))
       replace hW := hW.upd hu1 (by first | exact (fun _ _ h => h.elim) | (intro k hl hk; first | (simp only [At, No] at hk; omega) | (have := hGc k hk; omega)))
       refine WL.cons (SO.store2 rfl (ev_t rfl) (ev_t rfl) size_54 hB1 rfl rfl rfl rfl rfl rfl ?_)
       intro w2 hu2 hB1 hz2
       have hs2 := hu2.size
       replace hU := hU.trans hu2 (by first | exact (fun _ _ h => h) | exact (fun _ _ h => h.elim) | (intro k hl hk; (try simp only [At, New, Grow, From, No] at hk ⊢); omega) | (intro k hl hk; first | (simp only [At, No] at hk; omega) | (have := hGc k hk; omega) | (have := hG k hk; omega)))
       replace hO := hO.upd hu2 (by first | exact (fun _ _ _ h => h) | (intro k hk hl hS; have := hG k hk; first | (simp only [At, No] at hS; omega) | (have := hGc k hS; omega)))
       replace hW := hW.upd hu2 (by first | exact (fun _ _ h => h.elim) | (intro k hl hk; first | (simp only [At, No] at hk; omega) | (have := hGc k hk; omega)))
       refine WL.nil ?_
       refine WX.keep [(0, _), (3, _), (4, _), (5, _)] ⟨rfl, rfl, rfl, rfl, trivial⟩ ?_
       have hbf : Blk w2 wA.heap.size #[.int .i64 F.caps, .slice none 0 0] 54 := hB1
       refine WX.next ?_
       refine WC.seq ?_
       refine WC.seq ?_
       refine WC.region ?_
       refine WL.val rfl rfl rfl rfl (r_assign rfl ev_c) ?_
       refine WL.nil ?_
       refine WX.keep [(0, _), (3, _), (4, _), (5, _), (6, _)] ⟨rfl, rfl, rfl, rfl, rfl, trivial⟩ ?_
       refine WX.next ?_
       refine WC.block ?_
       -- loop 2: live [0, 3, 4, 5, 6]
       refine WC.keep [(0, _), (3, _), (4, _), (5, _), (6, _)] ⟨rfl, rfl, rfl, rfl, rfl, trivial⟩ ?_
       refine WC.loop (fun q E wB => ∃ (j : Nat) (Ac : Option Addr) (cc : Nat) (Gc : Nat → Prop), j ≤ F.code.length ∧ q = F.code.length - j ∧ Upd No w wB ∧ Upd No wA wB ∧ wA.heap.size < wB.heap.size ∧ Blk wB wA.heap.size #[.int .i64 F.caps, .slice Ac j cc] 54 ∧ Own wB Gc 55 4 (.slice Ac j cc) j ((F.code.take j).flatMap insC) ∧ (∀ k, Gc k → wA.heap.size < k ∧ k < wB.heap.size) ∧ Own wB G 54 2 (.slice A2 V2.length c2) V2.length (V2.flatMap FnV.cells) ∧   E = [(0, .slice (some ⟨ba, oa, none⟩) V.length ca), (3, .slice A2 V2.length c2), (4, .int .i64 (i : Int)), (5, .pointer (some ⟨wA.heap.size, 0, none⟩)), (6, .int .i64 (j : Int))]) (F.code.length) ?_ ?_
       · exact ⟨0, none, 0, fun _ => False, by omega, by omega, hU, hW, by omega, hbf, Own.nil _ _ _ _, (fun k h => h.elim), hO, rfl⟩
       · clear hU hW hbf hO
         rintro q E wB ⟨j, Ac, cc, Gc, hj, rfl, hU, hW, hwb, hbf, hc, hGc, hO, rfl⟩
         have hwb2 := hU.size
         refine WC.seq ?_
         refine WC.seq ?_
         refine WC.region ?_
         refine WL.val rfl rfl rfl rfl (r_move rfl (ev_t rfl)) ?_
         refine WL.val rfl rfl rfl rfl (r_move rfl (ev_t rfl)) ?_
         refine WL.val rfl rfl rfl rfl (r_move rfl (ev_t rfl)) ?_
         refine WL.val rfl rfl rfl rfl (r_indexAddr rfl (ev_t rfl) (ev_t rfl) elem_22 size_42 (by omega) (by omega)) ?_
         first | refine WL.val rfl rfl rfl rfl (r_field0 rfl (ev_t rfl) fld_42_1) ?_ | refine WL.val rfl rfl rfl rfl (r_fieldAt rfl (ev_t rfl) fld_42_1) ?_
         refine WL.val rfl rfl rfl rfl (r_load rfl (ev_t rfl) flat_40 (Rd.cell (hV.upd hU (fun _ _ _ h => h)) (j := i * 2 + 1) (by omega) (hcell 1 _ rfl))) ?_
         refine WL.val rfl rfl rfl rfl (r_lenSlice (ts := #[]) rfl (ev_t rfl) elem_40) ?_
         refine WL.val rfl rfl rfl rfl (r_lss rfl (ev_t rfl) (ev_t rfl)) ?_
         refine WL.nil ?_
         refine WX.keep [(0, _), (3, _), (4, _), (5, _), (6, _), (27, _)] ⟨rfl, rfl, rfl, rfl, rfl, rfl, trivial⟩ ?_
         refine WX.next ?_
         refine WC.cond rfl (ev_t rfl) (fun hc7 => ?_) (fun hc7 => ?_)
         · try (exfalso; first | (simp at hc7; done) | (simp only [decide_eq_true_eq, decide_eq_false_iff_not, Bool.not_eq_true', Bool.not_eq_false', Bool.not_eq_true, Bool.not_eq_false] at hc7; omega) | omega)
           all_goals
            try simp only [decide_eq_true_eq, decide_eq_false_iff_not, Bool.not_eq_true', Bool.not_eq_false', Bool.not_eq_true, Bool.not_eq_false, Option.isNone_none, Option.isNone_some, Option.isSome_none, Option.isSome_some, ne_eq, Decidable.not_not] at hc7
            obtain ⟨y, hy⟩ : ∃ y, F.code[j]? = some y := ⟨_, List.getElem?_eq_getElem (by omega)⟩
            have hyc := flatMap_get insC_len hy
            obtain ⟨bc, oc, rfl, _⟩ := hxc.open (by omega)
            refine WC.skip ?_
            refine WX.next ?_
            refine WC.seq ?_
            refine WC.block ?_
            refine WC.seq ?_
            refine WC.region ?_
            refine WL.val rfl rfl rfl rfl (r_move rfl (ev_t rfl)) ?_
            refine WL.val rfl rfl rfl rfl (r_move rfl (ev_t rfl)) ?_
            refine WL.val rfl rfl rfl rfl (r_indexAddr rfl (ev_t rfl) (ev_t rfl) elem_22 size_42 (by omega) (by omega)) ?_
            first | refine WL.val rfl rfl rfl rfl (r_field0 rfl (ev_t rfl) fld_42_1) ?_ | refine WL.val rfl rfl rfl rfl (r_fieldAt rfl (ev_t rfl) fld_42_1) ?_
            refine WL.val rfl rfl rfl rfl (r_load rfl (ev_t rfl) flat_40 (Rd.cell (hV.upd hU (fun _ _ _ h => h)) (j := i * 2 + 1) (by omega) (hcell 1 _ rfl))) ?_
            refine WL.val rfl rfl rfl rfl (r_move rfl (ev_t rfl)) ?_
            refine WL.val rfl rfl rfl rfl (r_indexAddr rfl (ev_t rfl) (ev_t rfl) elem_40 size_44 (by omega) (by omega)) ?_
            refine WL.val rfl rfl rfl rfl (r_loadAgg (vs := [_, _, _, _]) rfl (ev_t rfl) agg_44 size_44 (Rd.cellsL (us := [.int .u8 (y.op : Int), .int .i64 y.n, .int .i64 y.a, .string ⟨y.s.toArray⟩]) (hxc.upd hU (fun _ _ _ h => h)) (i := j * 4) (by omega) hyc)) ?_
            refine WL.cons (SO.alloc rfl rfl rfl rfl (r_alloc rfl zero_44) ?_)
            intro w3 hu3 hB3 hz3
            have hs3 := hu3.size
            replace hU := hU.trans hu3 (by first | exact (fun _ _ h => h) | exact (fun _ _ h => h.elim) | (intro k hl hk; (try simp only [At, New, Grow, From, No] at hk ⊢); omega) | (intro k hl hk; first | (simp only [At, No] at hk; omega) | (have := hGc k hk; omega) | (have := hG k hk; omega)))
            replace hO := hO.upd hu3 (by first | exact (fun _ _ _ h => h) | (intro k hk hl hS; have := hG k hk; first | (simp only [At, No] at hS; omega) | (have := hGc k hS; omega)))
            replace hW := hW.upd hu3 (by first | exact (fun _ _ h => h.elim) | (intro k hl hk; first | (simp only [At, No] at hk; omega) | (have := hGc k hk; omega)))
            replace hbf := hbf.upd hu3 (by first | exact (fun h => h) | (simp only [At, No]; omega) | (exact fun h => by have := hGc _ h; omega) | (exact fun h => by have := hG _ h; omega))
            replace hc := hc.upd hu3 (by first | exact (fun _ _ _ h => h) | (intro k hk hl hS; have := hGc k hk; simp only [At, No] at hS; omega))
            refine WL.cons (SO.storeAll (us := [_, _, _, _]) rfl (ev_t rfl) (ev_t rfl) size_44 hB3 rfl rfl rfl rfl rfl ?_)
            intro w4 hu4 hB3 hz4
            have hs4 := hu4.size
            replace hU := hU.trans hu4 (by first | exact (fun _ _ h => h) | exact (fun _ _ h => h.elim) | (intro k hl hk; (try simp only [At, New, Grow, From, No] at hk ⊢); omega) | (intro k hl hk; first | (simp only [At, No] at hk; omega) | (have := hGc k hk; omega) | (have := hG k hk; omega)))
            replace hO := hO.upd hu4 (by first | exact (fun _ _ _ h => h) | (intro k hk hl hS; have := hG k hk; first | (simp only [At, No] at hS; omega) | (have := hGc k hS; omega)))
            replace hW := hW.upd hu4 (by first | exact (fun _ _ h => h.elim) | (intro k hl hk; first | (simp only [At, No] at hk; omega) | (have := hGc k hk; omega)))
            replace hbf := hbf.upd hu4 (by first | exact (fun h => h) | (simp only [At, No]; omega) | (exact fun h => by have := hGc _ h; omega) | (exact fun h => by have := hG _ h; omega))
            replace hc := hc.upd hu4 (by first | exact (fun _ _ _ h => h) | (intro k hk hl hS; have := hGc k hk; simp only [At, No] at hS; omega))
            refine WL.nil ?_
            refine WX.keep [(0, _), (3, _), (4, _), (5, _), (6, _), (7, _)] ⟨rfl, rfl, rfl, rfl, rfl, rfl, trivial⟩ ?_
            have hby : Blk w4 wB.heap.size #[.int .u8 (y.op : Int), .int .i64 y.n, .int .i64 y.a, .string ⟨y.s.toArray⟩] 44 := hB3
            refine WX.next ?_
            refine WC.region ?_
            first | refine WL.val rfl rfl rfl rfl (r_field0 rfl (ev_t rfl) fld_54_1) ?_ | refine WL.val rfl rfl rfl rfl (r_fieldAt rfl (ev_t rfl) fld_54_1) ?_
            refine WL.val rfl rfl rfl rfl (r_load rfl (ev_t rfl) flat_52 (Blk.cell hbf rfl)) ?_
            first | refine WL.val rfl rfl rfl rfl (r_field0 rfl (ev_t rfl) fld_44_0) ?_ | refine WL.val rfl rfl rfl rfl (r_fieldAt rfl (ev_t rfl) fld_44_0) ?_
            refine WL.val rfl rfl rfl rfl (r_load rfl (ev_t rfl) flat_5 (Blk.cell hby rfl)) ?_
            first | refine WL.val rfl rfl rfl rfl (r_field0 rfl (ev_t rfl) fld_44_1) ?_ | refine WL.val rfl rfl rfl rfl (r_fieldAt rfl (ev_t rfl) fld_44_1) ?_
            refine WL.val rfl rfl rfl rfl (r_load rfl (ev_t rfl) flat_2 (Blk.cell hby rfl)) ?_
            first | refine WL.val rfl rfl rfl rfl (r_field0 rfl (ev_t rfl) fld_44_2) ?_ | refine WL.val rfl rfl rfl rfl (r_fieldAt rfl (ev_t rfl) fld_44_2) ?_
            refine WL.val rfl rfl rfl rfl (r_load rfl (ev_t rfl) flat_3 (Blk.cell hby rfl)) ?_
            first | refine WL.val rfl rfl rfl rfl (r_field0 rfl (ev_t rfl) fld_44_3) ?_ | refine WL.val rfl rfl rfl rfl (r_fieldAt rfl (ev_t rfl) fld_44_3) ?_
            refine WL.val rfl rfl rfl rfl (r_load rfl (ev_t rfl) flat_9 (Blk.cell hby rfl)) ?_
            refine WL.val rfl rfl rfl rfl (r_build (cs := #[_, _, _, _]) (vs := [(0, _), (1, _), (2, _), (3, _)]) rfl ⟨⟨rfl, (ev_t rfl)⟩, ⟨rfl, (ev_t rfl)⟩, ⟨rfl, (ev_t rfl)⟩, ⟨rfl, (ev_t rfl)⟩, trivial⟩ plc_55 zero_55 rfl) ?_
            refine WL.cons (SO.alloc rfl rfl rfl rfl (r_buildSlice (cs := #[_, _, _, _]) (vs := [(0, _)]) rfl ⟨⟨rfl, (ev_t rfl)⟩, trivial⟩ row_52 rfl rfl) ?_)
            intro w5 hu5 hB5 hz5
            have hs5 := hu5.size
            replace hU := hU.trans hu5 (by first | exact (fun _ _ h => h) | exact (fun _ _ h => h.elim) | (intro k hl hk; (try simp only [At, New, Grow, From, No] at hk ⊢); omega) | (intro k hl hk; first | (simp only [At, No] at hk; omega) | (have := hGc k hk; omega) | (have := hG k hk; omega)))
            replace hO := hO.upd hu5 (by first | exact (fun _ _ _ h => h) | (intro k hk hl hS; have := hG k hk; first | (simp only [At, No] at hS; omega) | (have := hGc k hS; omega)))
            replace hW := hW.upd hu5 (by first | exact (fun _ _ h => h.elim) | (intro k hl hk; first | (simp only [At, No] at hk; omega) | (have := hGc k hk; omega)))
            replace hbf := hbf.upd hu5 (by first | exact (fun h => h) | (simp only [At, No]; omega) | (exact fun h => by have := hGc _ h; omega) | (exact fun h => by have := hG _ h; omega))
            replace hc := hc.upd hu5 (by first | exact (fun _ _ _ h => h) | (intro k hk hl hS; have := hGc k hk; simp only [At, No] at hS; omega))
            replace hby := hby.upd hu5 (by first | exact (fun h => h) | (simp only [At, No]; omega) | (exact fun h => by have := hGc _ h; omega))
            refine WL.cons (SO.append hc (Rd.of_blk (F := At _) (n := 1) (sz := 4) hB5 rfl rfl (by omega)) row_52 (by intro u hu; simp only [List.mem_cons, List.not_mem_nil, or_false, Array.toList] at hu; rcases hu with rfl | rfl | rfl | rfl <;> rfl) (le_maxLen (by omega)) (by omega) rfl (ev_t rfl) (ev_t rfl) rfl rfl rfl rfl ?_)
            intro v6 w6 hc2 hu6
            have hs6 := hu6.size
            replace hU := hU.trans hu6 (by first | exact (fun _ _ h => h) | exact (fun _ _ h => h.elim) | (intro k hl hk; (try simp only [At, New, Grow, From, No] at hk ⊢); omega) | (intro k hl hk; first | (simp only [At, No] at hk; omega) | (have := hGc k hk; omega) | (have := hG k hk; omega)))
            replace hO := hO.upd hu6 (by first | exact (fun _ _ _ h => h) | (intro k hk hl hS; have := hG k hk; first | (simp only [At, No] at hS; omega) | (have := hGc k hS; omega)))
            replace hW := hW.upd hu6 (by first | exact (fun _ _ h => h.elim) | (intro k hl hk; first | (simp only [At, No] at hk; omega) | (have := hGc k hk; omega)))
            replace hbf := hbf.upd hu6 (by first | exact (fun h => h) | (simp only [At, No]; omega) | (exact fun h => by have := hGc _ h; omega) | (exact fun h => by have := hG _ h; omega))
            replace hby := hby.upd hu6 (by first | exact (fun h => h) | (simp only [At, No]; omega) | (exact fun h => by have := hGc _ h; omega))
            obtain ⟨A6, c6, rfl, hc6⟩ := Own.form hc2
            first | refine WL.val rfl rfl rfl rfl (r_field0 rfl (ev_t rfl) fld_54_1) ?_ | refine WL.val rfl rfl rfl rfl (r_fieldAt rfl (ev_t rfl) fld_54_1) ?_
            refine WL.cons (SO.store rfl (ev_t rfl) (ev_t rfl) size_52 hbf rfl rfl rfl rfl rfl ?_)
            intro w7 hu7 hbf hz7
            have hs7 := hu7.size
            replace hU := hU.trans hu7 (by first | exact (fun _ _ h => h) | exact (fun _ _ h => h.elim) | (intro k hl hk; (try simp only [At, New, Grow, From, No] at hk ⊢); omega) | (intro k hl hk; first | (simp only [At, No] at hk; omega) | (have := hGc k hk; omega) | (have := hG k hk; omega)))
            replace hO := hO.upd hu7 (by first | exact (fun _ _ _ h => h) | (intro k hk hl hS; have := hG k hk; first | (simp only [At, No] at hS; omega) | (have := hGc k hS; omega)))
            replace hW := hW.upd hu7 (by first | exact (fun _ _ h => h.elim) | (intro k hl hk; first | (simp only [At, No] at hk; omega) | (have := hGc k hk; omega)))
            replace hby := hby.upd hu7 (by first | exact (fun h => h) | (simp only [At, No]; omega) | (exact fun h => by have := hGc _ h; omega))
            replace hc2 := hc2.upd hu7 (by first | exact (fun _ _ _ h => h) | (intro k hk hl hS; simp only [At, No] at hS; rcases hk with hk | hk; (have := hGc k hk; omega); omega))
            refine WL.nil ?_
            refine WX.keep [(0, _), (3, _), (4, _), (5, _), (6, _)] ⟨rfl, rfl, rfl, rfl, rfl, trivial⟩ ?_
            refine WX.blockNormal ?_
            refine WX.next ?_
            refine WC.region ?_
            refine WL.val rfl rfl rfl rfl (r_move rfl (ev_t rfl)) ?_
            first | refine WL.val rfl rfl rfl rfl (r_addN rfl (ev_t rfl) ev_c (by simp only [inK]; omega)) ?_ | refine WL.val rfl rfl rfl rfl (r_add rfl (ev_t rfl) ev_c) ?_
            refine WL.val rfl rfl rfl rfl (r_assign rfl (ev_t rfl)) ?_
            refine WL.nil ?_
            refine WX.keep [(0, _), (3, _), (4, _), (5, _), (6, _)] ⟨rfl, rfl, rfl, rfl, rfl, trivial⟩ ?_
            refine WX.meet [(0, _), (3, _), (4, _), (5, _), (6, _)] ⟨rfl, rfl, rfl, rfl, rfl, trivial⟩ ?_
            refine ⟨F.code.length - (j + 1), by omega, j + 1, _, _, _, by omega, rfl, hU, hW, by omega, hbf, Own.cast hc2 (show (F.code.take j).flatMap insC ++ insC y = _ from (take_ins hy).symm), fun k hk => ?_, hO, rfl⟩
            rcases hk with hk | hk
            · have := hGc k hk; omega
            · omega
         · try (exfalso; first | (simp at hc7; done) | (simp only [decide_eq_true_eq, decide_eq_false_iff_not, Bool.not_eq_true', Bool.not_eq_false', Bool.not_eq_true, Bool.not_eq_false] at hc7; omega) | omega)
           all_goals
            try simp only [decide_eq_true_eq, decide_eq_false_iff_not, Bool.not_eq_true', Bool.not_eq_false', Bool.not_eq_true, Bool.not_eq_false, Option.isNone_none, Option.isNone_some, Option.isSome_none, Option.isSome_some, ne_eq, Decidable.not_not] at hc7
            obtain rfl : j = F.code.length := by omega
            rw [List.take_length] at hc
            refine WC.exit ?_
            refine WX.thenExit ?_
            refine WX.thenExit ?_
            refine WX.blockHere ?_
            refine WX.next ?_
            refine WC.region ?_
            refine WL.val rfl rfl rfl rfl (r_move rfl (ev_t rfl)) ?_
            refine WL.val rfl rfl rfl rfl (r_loadAgg (vs := [_, _]) rfl (ev_t rfl) agg_54 size_54 (Blk.cellsL hbf)) ?_
            refine WL.cons (SO.alloc rfl rfl rfl rfl (r_buildSlice (cs := #[_, _]) (vs := [(0, _)]) rfl ⟨⟨rfl, (ev_t rfl)⟩, trivial⟩ row_27 rfl rfl) ?_)
            intro w8 hu8 hB8 hz8
            have hs8 := hu8.size
            replace hU := hU.trans hu8 (by first | exact (fun _ _ h => h) | exact (fun _ _ h => h.elim) | (intro k hl hk; (try simp only [At, New, Grow, From, No] at hk ⊢); omega) | (intro k hl hk; first | (simp only [At, No] at hk; omega) | (have := hGc k hk; omega) | (have := hG k hk; omega)))
            replace hO := hO.upd hu8 (by first | exact (fun _ _ _ h => h) | (intro k hk hl hS; have := hG k hk; first | (simp only [At, No] at hS; omega) | (have := hGc k hS; omega)))
            replace hW := hW.upd hu8 (by first | exact (fun _ _ h => h.elim) | (intro k hl hk; first | (simp only [At, No] at hk; omega) | (have := hGc k hk; omega)))
            replace hbf := hbf.upd hu8 (by first | exact (fun h => h) | (simp only [At, No]; omega) | (exact fun h => by have := hGc _ h; omega) | (exact fun h => by have := hG _ h; omega))
            replace hc := hc.upd hu8 (by first | exact (fun _ _ _ h => h) | (intro k hk hl hS; have := hGc k hk; simp only [At, No] at hS; omega))
            have hcr := hc.rd (by omega)
            have hW8 := hW
            have hs8 := hW8.size
            refine WL.cons (SO.append hO (Rd.of_blk (F := At _) (n := 1) (sz := 2) hB8 rfl rfl (by omega)) row_27 (by intro u hu; simp only [List.mem_cons, List.not_mem_nil, or_false, Array.toList] at hu; rcases hu with rfl | rfl <;> rfl) (le_maxLen (by omega)) (by omega) rfl (ev_t rfl) (ev_t rfl) rfl rfl rfl rfl ?_)
            intro v9 w9 hO2 hu9
            have hs9 := hu9.size
            replace hU := hU.trans hu9 (by first | exact (fun _ _ h => h) | exact (fun _ _ h => h.elim) | (intro k hl hk; (try simp only [At, New, Grow, From, No] at hk ⊢); omega) | (intro k hl hk; first | (simp only [At, No] at hk; omega) | (have := hGc k hk; omega) | (have := hG k hk; omega)))
            replace hbf := hbf.upd hu9 (by first | exact (fun h => h) | (simp only [At, No]; omega) | (exact fun h => by have := hGc _ h; omega) | (exact fun h => by have := hG _ h; omega))
            replace hcr := hcr.upd hu9 (by first | exact (fun _ _ _ h => h) | (intro k hk hl hS; have := hGc k hk; have := hG k hS; omega))
            obtain ⟨A9, c9, rfl, hc9⟩ := Own.form hO2
            have hap := hu9
            refine WL.val rfl rfl rfl rfl (r_assign rfl (ev_t rfl)) ?_
            refine WL.nil ?_
            refine WX.keep [(0, _), (3, _), (4, _)] ⟨rfl, rfl, rfl, trivial⟩ ?_
            refine WX.blockNormal ?_
            refine WX.next ?_
            refine WC.region ?_
            refine WL.val rfl rfl rfl rfl (r_move rfl (ev_t rfl)) ?_
            first | refine WL.val rfl rfl rfl rfl (r_addN rfl (ev_t rfl) ev_c (by simp only [inK]; omega)) ?_ | refine WL.val rfl rfl rfl rfl (r_add rfl (ev_t rfl) ev_c) ?_
            refine WL.val rfl rfl rfl rfl (r_assign rfl (ev_t rfl)) ?_
            refine WL.nil ?_
            refine WX.keep [(0, _), (3, _), (4, _)] ⟨rfl, rfl, rfl, trivial⟩ ?_
            refine WX.meet [(0, _), (3, _), (4, _)] ⟨rfl, rfl, rfl, trivial⟩ ?_
            have hs9 := hap.size
            obtain ⟨nx, hnx⟩ : ∃ nx : FnV, nx = ⟨F, .slice Ac F.code.length cc⟩ := ⟨_, rfl⟩
            have hml : (V2 ++ [nx]).map FnV.f = l.take (i + 1) := by rw [List.map_append, hV2l, List.take_add_one, hxa, hnx]; rfl
            have hfl : V2.flatMap FnV.cells ++ nx.cells = (V2 ++ [nx]).flatMap FnV.cells := by rw [List.flatMap_append, List.flatMap_singleton]
            have hO3 := Own.cast hO2 (show V2.flatMap FnV.cells ++ FnV.cells ⟨F, .slice Ac F.code.length cc⟩ = (V2 ++ [nx]).flatMap FnV.cells from by rw [← hnx]; exact hfl)
            refine ⟨V.length - (i + 1), by omega, i + 1, V2 ++ [nx], A9, c9, _, fun k => C k ∨ Gc k, by omega, rfl, hU, by simp [hV2], hml, by rw [List.length_append]; exact hO3, fun x hx => ?_, fun k hk => ?_, fun k hk => ?_, by rw [List.length_append]; rfl⟩
            · rcases List.mem_append.1 hx with hx | hx
              · exact (((hD x hx).upd hW8 (fun _ _ _ h => h)).upd hap (fun k hk _ hS => (hC k hk).2.2 hS)).mono fun k hk => .inl hk
              · rw [List.mem_singleton] at hx
                subst hx
                rw [hnx]
                exact hcr.mono fun k hk => .inr hk
            · rcases hk with hk | hk
              · have := hG k hk; omega
              · omega
            · rcases hk with hk | hk
              · have := hC k hk
                exact ⟨by omega, by omega, fun h => h.elim this.2.2 (fun h => by omega)⟩
              · have := hGc k hk
                exact ⟨by omega, by omega, fun h => h.elim (fun h => by have := hG k h; omega) (fun h => by omega)⟩
    · try (exfalso; first | (simp at hc3; done) | (simp only [decide_eq_true_eq, decide_eq_false_iff_not, Bool.not_eq_true', Bool.not_eq_false', Bool.not_eq_true, Bool.not_eq_false] at hc3; omega) | omega)
      all_goals
       try simp only [decide_eq_true_eq, decide_eq_false_iff_not, Bool.not_eq_true', Bool.not_eq_false', Bool.not_eq_true, Bool.not_eq_false, Option.isNone_none, Option.isNone_some, Option.isSome_none, Option.isSome_some, ne_eq, Decidable.not_not] at hc3
       obtain rfl : i = V.length := by omega
       refine WC.exit ?_
       refine WX.thenExit ?_
       refine WX.thenExit ?_
       refine WX.blockHere ?_
       refine WX.next ?_
       refine WC.seq ?_
       refine WC.region ?_
       refine WL.val rfl rfl rfl rfl (r_move rfl (ev_t rfl)) ?_
       refine WL.val rfl rfl rfl rfl (r_assign rfl (ev_t rfl)) ?_
       refine WL.nil ?_
       refine WX.keep [(2, _)] ⟨rfl, trivial⟩ ?_
       refine WX.next ?_
       refine WC.ret ?_
       refine WX.retE1 rfl rfl ?_
       refine ⟨⟨V2, (hO.rd (by omega)).mono (fun k hk => by have := hG k hk; exact ⟨by omega, by omega⟩), fun x hx => (hD x hx).mono fun k hk => by have := hC k hk; exact ⟨by omega, by omega⟩, by rw [hV2l, hVn, List.take_length]⟩, hU⟩
end Go.Proofs.YtipabhbnljadfaaDoor

/-
  octet: the bytes of numbers order as the numbers do; no program in sight.
-/
namespace Go.Proofs.YtipabhbnljadfaaDoor
open Go
set_option linter.unusedSimpArgs false
set_option linter.unusedVariables false

theorem lt_pow_blen (n : Nat) : n < 256 ^ blen n := by
  have h := lt_blen (blen n) n
  have hp : 0 < 256 ^ blen n := Nat.pow_pos (by omega)
  rcases Nat.lt_or_ge n (256 ^ blen n) with h1 | h1
  · exact h1
  · have := Nat.div_pos h1 hp
    omega
theorem pow_blen_le {n : Nat} (h : 0 < blen n) : 256 ^ (blen n - 1) ≤ n := by
  have h1 := (lt_blen (blen n - 1) n).1 (by omega)
  have hp : 0 < 256 ^ (blen n - 1) := Nat.pow_pos (by omega)
  rcases Nat.lt_or_ge n (256 ^ (blen n - 1)) with h2 | h2
  · rw [Nat.div_eq_of_lt h2] at h1
    omega
  · exact h2
theorem lt_of_blen {a b : Nat} (h : blen a < blen b) : a < b := by
  have h1 := lt_pow_blen a
  have h2 := pow_blen_le (n := b) (by omega)
  have h3 : 256 ^ blen a ≤ 256 ^ (blen b - 1) := Nat.pow_le_pow_right (by omega) (by omega)
  omega

theorem ofNat_lt {u v : Nat} (hu : u < 256) (hv : v < 256) : decide (UInt8.ofNat u < UInt8.ofNat v) = decide (u < v) := by
  have h1 : UInt8.ofNat u < UInt8.ofNat v ↔ u < v := by
    rw [UInt8.lt_iff_toNat_lt, UInt8.toNat_ofNat', UInt8.toNat_ofNat', Nat.mod_eq_of_lt hu, Nat.mod_eq_of_lt hv]
  exact decide_eq_decide.2 h1
theorem ofNat_beq {u v : Nat} (hu : u < 256) (hv : v < 256) : (UInt8.ofNat u == UInt8.ofNat v) = decide (u = v) := by
  rw [Bool.eq_iff_iff, beq_iff_eq, decide_eq_true_eq, ← UInt8.toNat_inj, UInt8.toNat_ofNat', UInt8.toNat_ofNat', Nat.mod_eq_of_lt hu, Nat.mod_eq_of_lt hv]

theorem less_cons (u v : Nat) (hu : u < 256) (hv : v < 256) (x y : List UInt8) : Op.bytesLess (UInt8.ofNat u :: x) (UInt8.ofNat v :: y) = (decide (u < v) || (decide (u = v) && Op.bytesLess x y)) := by
  rw [Op.bytesLess, ofNat_lt hu hv, ofNat_beq hu hv]

theorem less_beB (a b : Nat) : ∀ k, Op.bytesLess (beB a k) (beB b k) = decide (a % 256 ^ k < b % 256 ^ k)
  | 0 => by simp [beB, Op.bytesLess, Nat.mod_one]
  | k + 1 => by
    have hp : 0 < 256 ^ k := Nat.pow_pos (by omega)
    have h1 := Nat.mod_lt a hp
    have h2 := Nat.mod_lt b hp
    have h3 := Nat.mod_lt (a / 256 ^ k) (y := 256) (by omega)
    have h4 := Nat.mod_lt (b / 256 ^ k) (y := 256) (by omega)
    unfold beB byteAt
    rw [less_cons _ _ h3 h4, less_beB a b k, Nat.mod_pow_succ, Nat.mod_pow_succ]
    generalize a / 256 ^ k % 256 = u at *
    generalize b / 256 ^ k % 256 = v at *
    generalize a % 256 ^ k = r at *
    generalize b % 256 ^ k = s at *
    generalize 256 ^ k = p at *
    rcases Nat.lt_trichotomy u v with h | h | h
    · have h5 : p * (u + 1) ≤ p * v := Nat.mul_le_mul_left _ h
      rw [Nat.mul_add, Nat.mul_one] at h5
      rw [decide_eq_true h, Bool.true_or, decide_eq_true (by omega)]
    · subst h
      rw [decide_eq_false (by omega), decide_eq_true rfl, Bool.false_or, Bool.true_and]
      exact decide_eq_decide.2 (by omega)
    · have h5 : p * (v + 1) ≤ p * u := Nat.mul_le_mul_left _ h
      rw [Nat.mul_add, Nat.mul_one] at h5
      rw [decide_eq_false (by omega), decide_eq_false (by omega : ¬ u = v), Bool.false_and, Bool.false_or, decide_eq_false (by omega)]

theorem less_encU {a b : Nat} (ha : a < 18446744073709551616) (hb : b < 18446744073709551616) : Op.bytesLess (encU a) (encU b) = decide (a < b) := by
  have la : blen a ≤ 8 := blen_le (by simpa using ha)
  have lb : blen b ≤ 8 := blen_le (by simpa using hb)
  unfold encU
  rw [less_cons _ _ (by omega) (by omega)]
  rcases Nat.lt_trichotomy (blen a) (blen b) with h | h | h
  · have := lt_of_blen h
    rw [decide_eq_true h, decide_eq_true this]
    rfl
  · rw [h, decide_eq_false (by omega), decide_eq_true rfl, less_beB, Bool.false_or, Bool.true_and]
    have h1 := lt_pow_blen a
    have h2 := lt_pow_blen b
    rw [h] at h1
    rw [Nat.mod_eq_of_lt h1, Nat.mod_eq_of_lt h2]
  · have := lt_of_blen h
    rw [decide_eq_false (by omega), decide_eq_false (by omega : ¬ blen a = blen b), decide_eq_false (by omega)]
    rfl
end Go.Proofs.YtipabhbnljadfaaDoor

/-
  A number's bytes, and back; no program in sight.
-/
namespace Go.Proofs.YtipabhbnljadfaaDoor
open Go
set_option linter.unusedSimpArgs false
set_option linter.unusedVariables false

theorem beN_foldl (l : List UInt8) : ∀ n, l.foldl (fun n (b : UInt8) => n * 256 + b.toNat) n = n * 256 ^ l.length + beN l := by
  induction l with
  | nil => intro n; simp [beN]
  | cons b l ih =>
    intro n
    have h := ih b.toNat
    unfold beN
    rw [List.foldl_cons, List.foldl_cons, ih, Nat.zero_mul, Nat.zero_add, h, List.length_cons, Nat.pow_succ, Nat.mul_comm (256 ^ l.length) 256, ← Nat.mul_assoc, Nat.add_mul]
    omega
theorem beN_cons (b : UInt8) (l : List UInt8) : beN (b :: l) = b.toNat * 256 ^ l.length + beN l := by
  have h := beN_foldl l b.toNat
  unfold beN
  rw [List.foldl_cons, Nat.zero_mul, Nat.zero_add]
  exact h

theorem byteAt_low {b y k i : Nat} (h : i < k) : byteAt (b * 256 ^ k + y) i = byteAt y i := by
  unfold byteAt
  obtain ⟨d, rfl⟩ : ∃ d, k = i + (d + 1) := ⟨k - i - 1, by omega⟩
  have h1 : b * 256 ^ (i + (d + 1)) + y = y + 256 ^ i * (256 * (b * 256 ^ d)) := by
    rw [Nat.pow_add, Nat.pow_succ]
    have : b * (256 ^ i * (256 ^ d * 256)) = 256 ^ i * (256 * (b * 256 ^ d)) := by
      rw [Nat.mul_left_comm, Nat.mul_comm (256 ^ d) 256, Nat.mul_left_comm b]
    omega
  rw [h1, Nat.add_mul_div_left _ _ (Nat.pow_pos (by omega)), Nat.add_mul_mod_self_left]

theorem beB_low {b y k : Nat} : ∀ {i}, i ≤ k → beB (b * 256 ^ k + y) i = beB y i
  | 0, _ => rfl
  | i + 1, h => by rw [beB, beB, byteAt_low (by omega), beB_low (by omega)]

theorem beB_beN : ∀ l : List UInt8, beB (beN l) l.length = l
  | [] => rfl
  | b :: l => by
    have hb := b.toNat_lt
    rw [List.length_cons, beB, beN_cons, beB_low (Nat.le_refl _), beB_beN l]
    congr 1
    unfold byteAt
    rw [Nat.mul_comm, Nat.mul_add_div (Nat.pow_pos (by omega)), Nat.div_eq_of_lt (beN_lt l), Nat.add_zero, Nat.mod_eq_of_lt (by omega)]
    simp

theorem blen_beN {b : UInt8} {l : List UInt8} (h : b ≠ 0) : blen (beN (b :: l)) = l.length + 1 := by
  have h1 : blen (beN (b :: l)) ≤ l.length + 1 := blen_le (beN_lt (b :: l))
  have hb : b.toNat ≠ 0 := fun e => h (UInt8.toNat_inj.1 e)
  have h2 : 256 ^ l.length ≤ beN (b :: l) := by
    rw [beN_cons]
    have : 1 * 256 ^ l.length ≤ b.toNat * 256 ^ l.length := Nat.mul_le_mul_right _ (by omega)
    omega
  have h3 : l.length < blen (beN (b :: l)) := (lt_blen _ _).2 (Nat.div_pos h2 (Nat.pow_pos (by omega)))
  omega

theorem encU_beN {l : List UInt8} (hl : l.length ≤ 8) : encU (beN l) = UInt8.ofNat l.length :: l ↔ (l.length = 0 ∨ l.head? ≠ some 0) := by
  cases l with
  | nil => simp [encU, beN, blen_zero, beB]
  | cons b l =>
    by_cases h : b = 0
    · subst h
      have h1 : beN (0 :: l) = beN l := by rw [beN_cons]; simp
      have h2 : blen (beN (0 :: l)) ≤ l.length := by rw [h1]; exact blen_le (beN_lt l)
      simp only [List.length_cons] at hl
      constructor
      · intro he
        unfold encU at he
        have h3 := congrArg List.length he
        simp [beB_length] at h3
        omega
      · intro he
        simp at he
    · have h1 := blen_beN (l := l) h
      constructor
      · intro _
        simp [h]
      · intro _
        unfold encU
        rw [h1]
        have := beB_beN (b :: l)
        rw [List.length_cons] at this
        rw [this, List.length_cons]

theorem decU_drop {p : List UInt8} {m : Nat} (h : m < p.length) :
    decU (p.drop m) = if p[m].toNat ≤ 8 ∧ p[m].toNat ≤ p.length - (m + 1) ∧ (p[m].toNat = 0 ∨ (p.drop (m + 1)).head? ≠ some 0) then some (beN ((p.drop (m + 1)).take p[m].toNat), p.drop (m + 1 + p[m].toNat)) else none := by
  rw [List.drop_eq_getElem_cons h]
  simp only [decU, List.length_drop, List.drop_drop]
theorem decU_end {p : List UInt8} {m : Nat} (h : p.length ≤ m) : decU (p.drop m) = none := by
  rw [List.drop_eq_nil_of_le h]
  rfl

/-- what the reference asks: the number's bytes are these -/
theorem enc_slice {p : List UInt8} {m : Nat} (h : m < p.length) (h8 : p[m].toNat ≤ 8) (hk : p[m].toNat ≤ p.length - (m + 1)) :
    (encU (beN ((p.drop (m + 1)).take p[m].toNat)) = (p.drop m).take (p[m].toNat + 1)) ↔ (p[m].toNat = 0 ∨ (p.drop (m + 1)).head? ≠ some 0) := by
  have hl : ((p.drop (m + 1)).take p[m].toNat).length = p[m].toNat := by rw [List.length_take, List.length_drop]; omega
  have h1 : (p.drop m).take (p[m].toNat + 1) = UInt8.ofNat ((p.drop (m + 1)).take p[m].toNat).length :: (p.drop (m + 1)).take p[m].toNat := by
    rw [hl, List.drop_eq_getElem_cons h, List.take_succ_cons]
    simp
  rw [h1, encU_beN (by omega), hl]
  cases hp : p[m].toNat with
  | zero => simp
  | succ k =>
    rw [List.head?_take]
    simp

theorem beN_take_lt8 (l : List UInt8) {i : Nat} (h : i ≤ 8) : beN (l.take i) < 18446744073709551616 := by
  have h1 := beN_lt (l.take i)
  have h2 : (l.take i).length ≤ 8 := by rw [List.length_take]; omega
  have h3 : 256 ^ (l.take i).length ≤ 256 ^ 8 := Nat.pow_le_pow_right (by omega) h2
  have : (256 : Nat) ^ 8 = 18446744073709551616 := by decide
  omega
end Go.Proofs.YtipabhbnljadfaaDoor

/-
  What is laid is read back; no program in sight.
-/
namespace Go.Proofs.YtipabhbnljadfaaDoor
open Go
set_option linter.unusedSimpArgs false
set_option linter.unusedVariables false

theorem beN_append_one (l : List UInt8) (b : UInt8) : beN (l ++ [b]) = beN l * 256 + b.toNat := beN_snoc l b

theorem beN_beB (n : Nat) : ∀ k, beN (beB n k) = n % 256 ^ k
  | 0 => by simp [beB, beN, Nat.mod_one]
  | k + 1 => by
    rw [beB, beN_cons, beN_beB n k, beB_length, byteAt_nat, Nat.mod_pow_succ, Nat.mul_comm]
    omega
where
  byteAt_nat {n i : Nat} : (byteAt n i).toNat = n / 256 ^ i % 256 := by
    unfold byteAt
    rw [UInt8.toNat_ofNat']
    omega

theorem beN_enc (n : Nat) : beN (beB n (blen n)) = n := by rw [beN_beB, Nat.mod_eq_of_lt (lt_pow_blen n)]

theorem head_beB {n : Nat} (h : blen n ≠ 0) : (beB n (blen n)).head? ≠ some 0 := by
  obtain ⟨k, hk⟩ : ∃ k, blen n = k + 1 := ⟨blen n - 1, by omega⟩
  rw [hk, beB]
  simp only [List.head?_cons, ne_eq, Option.some.injEq]
  intro h0
  have h1 : n / 256 ^ k % 256 = 0 := by
    have := congrArg UInt8.toNat h0
    unfold byteAt at this
    rw [UInt8.toNat_ofNat'] at this
    simp at this
    omega
  have h2 := (lt_blen k n).1 (by omega)
  have h3 := lt_pow_blen n
  rw [hk, Nat.pow_succ] at h3
  have h4 : n / 256 ^ k < 256 := Nat.div_lt_of_lt_mul (by rw [Nat.mul_comm] at h3; rw [Nat.mul_comm]; omega)
  omega

theorem decU_enc {n : Nat} (hn : n < 18446744073709551616) (r : List UInt8) : decU (encU n ++ r) = some (n, r) := by
  have hb : blen n ≤ 8 := blen_le (by simpa using hn)
  have hl := beB_length n (blen n)
  have h1 : (UInt8.ofNat (blen n)).toNat = blen n := by rw [UInt8.toNat_ofNat']; omega
  unfold encU
  rw [List.cons_append, decU, h1, if_pos]
  · have e1 : (beB n (blen n) ++ r).take (blen n) = beB n (blen n) := by rw [List.take_append_of_le_length (by omega), List.take_of_length_le (by omega)]
    have e2 : (beB n (blen n) ++ r).drop (blen n) = r := by
      have := List.drop_left (l₁ := beB n (blen n)) (l₂ := r)
      rwa [hl] at this
    rw [e1, e2, beN_enc]
  · refine ⟨hb, by rw [List.length_append, hl]; omega, ?_⟩
    by_cases h0 : blen n = 0
    · exact .inl h0
    · refine .inr ?_
      have := head_beB h0
      rw [List.head?_append]
      cases hh : (beB n (blen n)).head? with
      | none =>
        rw [List.head?_eq_none_iff] at hh
        rw [hh] at hl
        exact absurd hl.symm h0
      | some b =>
        rw [hh] at this
        simpa using this

theorem uint_enc {n : Nat} (hn : n < 18446744073709551616) (r : List UInt8) : uintR (some (encU n ++ r)) = (n, some r) := by
  simp only [uintR, decU_enc hn]

theorem zag_zig {x : Int} : zag (zig x) = x := by
  unfold zag zig
  split <;> split <;> omega

theorem bytes_enc {b : List UInt8} (hb : b.length ≤ 5000) (r : List UInt8) : bytesR 5000 (some (encU b.length ++ b ++ r)) = (b, some r) := by
  have h1 : uptoR 5000 (some (encU b.length ++ b ++ r)) = (b.length, some (b ++ r)) := by
    unfold uptoR
    rw [List.append_assoc, uint_enc (by omega)]
    exact if_pos (by omega)
  unfold bytesR
  rw [h1]
  simp
end Go.Proofs.YtipabhbnljadfaaDoor

/-
  What was read is what had been laid: the octet's bytes are the only ones. No program in sight.
-/
namespace Go.Proofs.YtipabhbnljadfaaDoor
open Go
set_option linter.unusedSimpArgs false
set_option linter.unusedVariables false

theorem decU_canon {l r : List UInt8} {x : Nat} (h : decU l = some (x, r)) : l = encU x ++ r := by
  cases l with
  | nil => cases h
  | cons k q =>
    simp only [decU] at h
    split at h
    · rename_i hc
      simp only [Option.some.injEq, Prod.mk.injEq] at h
      obtain ⟨rfl, rfl⟩ := h
      have hl : (q.take k.toNat).length = k.toNat := by rw [List.length_take]; omega
      have h1 := (encU_beN (l := q.take k.toNat) (by omega)).2 (by
        rcases hc.2.2 with h0 | h0
        · exact .inl (by omega)
        · by_cases h00 : k.toNat = 0
          · exact .inl (by omega)
          · right
            rw [List.head?_take, if_neg h00]
            exact h0)
      rw [h1, hl]
      simp
    · cases h
theorem uintR_some {s : Option (List UInt8)} {x : Nat} {r : List UInt8} (h : uintR s = (x, some r)) : s = some (encU x ++ r) ∧ x < 18446744073709551616 := by
  have hlt := uintR_lt s
  rw [h] at hlt
  refine ⟨?_, hlt⟩
  cases s with
  | none => cases h
  | some l =>
    cases hd : decU l with
    | none => simp only [uintR, hd] at h; cases h
    | some p =>
      obtain ⟨y, q⟩ := p
      simp only [uintR, hd] at h
      simp only [Prod.mk.injEq, Option.some.injEq] at h
      obtain ⟨rfl, rfl⟩ := h
      rw [decU_canon hd]
theorem bytes_encN {most : Int} {b : List UInt8} (hb : (b.length : Int) ≤ most) (hl : b.length < 18446744073709551616) (r : List UInt8) : bytesR most (some (encU b.length ++ (b ++ r))) = (b, some r) := by
  have h1 : uptoR most (some (encU b.length ++ (b ++ r))) = (b.length, some (b ++ r)) := by
    unfold uptoR
    rw [uint_enc hl]
    exact if_pos (by omega)
  unfold bytesR
  rw [h1]
  simp
theorem bytesR_some {most : Int} {s : Option (List UInt8)} {b r : List UInt8} (h : bytesR most s = (b, some r)) : s = some (encU b.length ++ (b ++ r)) ∧ (b.length : Int) ≤ most ∧ b.length < 18446744073709551616 := by
  unfold bytesR at h
  have hu : ∀ n q, uptoR most s = (n, some q) → uintR s = (n, some q) ∧ (n : Int) ≤ most := fun n q hq => by
    unfold uptoR at hq
    split at hq
    · split at hq
      · rename_i h1 h2
        rw [h1]
        simp only [Prod.mk.injEq, Option.some.injEq] at hq
        obtain ⟨rfl, rfl⟩ := hq
        exact ⟨rfl, h2.2⟩
      · cases hq
    · cases hq
  split at h
  · rename_i n q hq
    obtain ⟨h1, h2⟩ := hu n q hq
    obtain ⟨h3, h4⟩ := uintR_some h1
    split at h
    · simp only [Prod.mk.injEq, Option.some.injEq] at h
      obtain ⟨rfl, rfl⟩ := h
      have hl : (q.take n).length = n := by rw [List.length_take]; omega
      rw [hl, List.take_append_drop]
      exact ⟨h3, h2, h4⟩
    · cases h
  · cases h

end Go.Proofs.YtipabhbnljadfaaDoor

/-
  Functions out of bytes, and into bytes. No program in sight.
-/
namespace Go.Proofs.YtipabhbnljadfaaDoor
open Go
set_option linter.unusedSimpArgs false
set_option linter.unusedVariables false

abbrev RSt := Option (List UInt8)
/-- an instruction, read -/
def readI (s : RSt) : In × RSt :=
  (⟨(uptoR 255 s).1, zag (uintR (uptoR 255 s).2).1, ((uptoR 1048576 (uintR (uptoR 255 s).2).2).1 : Nat), (bytesR 2000 (uptoR 1048576 (uintR (uptoR 255 s).2).2).2).1⟩, (bytesR 2000 (uptoR 1048576 (uintR (uptoR 255 s).2).2).2).2)
theorem readI_eq {s s1 s2 s3 s4 : RSt} {o x a : Nat} {t : List UInt8} (h1 : uptoR 255 s = (o, s1)) (h2 : uintR s1 = (x, s2)) (h3 : uptoR 1048576 s2 = (a, s3)) (h4 : bytesR 2000 s3 = (t, s4)) : readI s = (⟨o, zag x, (a : Int), t⟩, s4) := by
  unfold readI
  rw [h1]
  simp only
  rw [h2]
  simp only
  rw [h3]
  simp only
  rw [h4]
def loadC : Nat → RSt → List In → List In × RSt
  | _, none, acc => (acc, none)
  | 0, some p, acc => (acc, some p)
  | k + 1, some p, acc => loadC k (readI (some p)).2 (acc ++ [(readI (some p)).1])
theorem loadC_none (k : Nat) (acc : List In) : loadC k none acc = (acc, none) := by cases k <;> rfl
theorem loadC_zero (s : RSt) (acc : List In) : loadC 0 s acc = (acc, s) := by cases s <;> rfl
theorem loadC_len : ∀ (k : Nat) (s : RSt) (acc : List In), (loadC k s acc).1.length ≤ acc.length + k
  | k, none, acc => by rw [loadC_none]; simp
  | 0, some p, acc => by rw [loadC_zero]; simp
  | k + 1, some p, acc => by
    have := loadC_len k (readI (some p)).2 (acc ++ [(readI (some p)).1])
    rw [loadC]
    simp only [List.length_append, List.length_singleton] at this
    omega
/-- a function, read -/
def readF (s : RSt) : Fn × RSt :=
  (⟨((uptoR 1048576 s).1 : Nat), (loadC (uptoR 1048576 (uptoR 1048576 s).2).1 (uptoR 1048576 (uptoR 1048576 s).2).2 []).1⟩, (loadC (uptoR 1048576 (uptoR 1048576 s).2).1 (uptoR 1048576 (uptoR 1048576 s).2).2 []).2)
theorem readF_eq {s s1 s2 s3 : RSt} {c m : Nat} {I : List In} (h1 : uptoR 1048576 s = (c, s1)) (h2 : uptoR 1048576 s1 = (m, s2)) (h3 : loadC m s2 [] = (I, s3)) : readF s = (⟨(c : Int), I⟩, s3) := by
  unfold readF
  rw [h1]
  simp only
  rw [h2]
  simp only
  rw [h3]
def loadF : Nat → RSt → List Fn → List Fn × RSt
  | _, none, acc => (acc, none)
  | 0, some p, acc => (acc, some p)
  | k + 1, some p, acc => loadF k (readF (some p)).2 (acc ++ [(readF (some p)).1])
theorem loadF_none (k : Nat) (acc : List Fn) : loadF k none acc = (acc, none) := by cases k <;> rfl
theorem loadF_zero (s : RSt) (acc : List Fn) : loadF 0 s acc = (acc, s) := by cases s <;> rfl
theorem uptoR_le' {most : Int} {s : RSt} (h : 0 ≤ most) : ((uptoR most s).1 : Int) ≤ most := by
  unfold uptoR
  split
  · split <;> simp_all
  · simpa using h
theorem loadF_len : ∀ (k : Nat) (s : RSt) (acc : List Fn), (∀ f ∈ acc, f.code.length ≤ 1048576) → (loadF k s acc).1.length ≤ acc.length + k ∧ ∀ f ∈ (loadF k s acc).1, f.code.length ≤ 1048576
  | k, none, acc, h => by rw [loadF_none]; exact ⟨by simp, h⟩
  | 0, some p, acc, h => by rw [loadF_zero]; exact ⟨by simp, h⟩
  | k + 1, some p, acc, h => by
    have := loadF_len k (readF (some p)).2 (acc ++ [(readF (some p)).1]) (fun f hf => by
      rcases List.mem_append.1 hf with hf | hf
      · exact h f hf
      · rw [List.mem_singleton] at hf
        subst hf
        have h1 := loadC_len (uptoR 1048576 (uptoR 1048576 (some p)).2).1 (uptoR 1048576 (uptoR 1048576 (some p)).2).2 []
        have h2 := uptoR_le' (most := 1048576) (s := (uptoR 1048576 (some p)).2) (by omega)
        simp only [readF, List.length_nil] at h1 ⊢
        omega)
    rw [loadF]
    simp only [List.length_append, List.length_singleton] at this
    exact ⟨by omega, this.2⟩
/-- functions, read; behind a fault there are none -/
def decF (s : RSt) : List Fn × RSt :=
  (if (loadF (uptoR 4000 s).1 (uptoR 4000 s).2 []).2 = none then [] else (loadF (uptoR 4000 s).1 (uptoR 4000 s).2 []).1, (loadF (uptoR 4000 s).1 (uptoR 4000 s).2 []).2)
theorem decF_eq {s s1 s2 : RSt} {n : Nat} {L : List Fn} (h1 : uptoR 4000 s = (n, s1)) (h2 : loadF n s1 [] = (L, s2)) : decF s = (if s2 = none then [] else L, s2) := by
  unfold decF
  rw [h1]
  simp only
  rw [h2]
theorem decF_len (s : RSt) : (decF s).1.length ≤ 4000 ∧ ∀ f ∈ (decF s).1, f.code.length ≤ 1048576 := by
  have h1 := loadF_len (uptoR 4000 s).1 (uptoR 4000 s).2 [] (fun f hf => by cases hf)
  have h2 := uptoR_le' (most := 4000) (s := s) (by omega)
  simp only [List.length_nil] at h1
  unfold decF
  simp only
  split
  · simp
  · exact ⟨by omega, h1.2⟩

/-- instructions, functions as bytes -/
def encI (i : In) : List UInt8 := encU i.op ++ (encU (zig i.n) ++ (encU i.a.toNat ++ (encU i.s.length ++ i.s)))
def encC (l : List In) : List UInt8 := l.flatMap encI
def encF1 (f : Fn) : List UInt8 := encU f.caps.toNat ++ (encU f.code.length ++ encC f.code)
def encF (l : List Fn) : List UInt8 := encU l.length ++ l.flatMap encF1
/-- what may be written -/
structure In.small (i : In) : Prop where
  ok : i.ok
  a0 : 0 ≤ i.a
  a1 : i.a ≤ 1048576
  s2 : i.s.length ≤ 2000
structure Fn.small (f : Fn) : Prop where
  c0 : 0 ≤ f.caps
  c1 : f.caps ≤ 1048576
  l1 : f.code.length ≤ 100
  is : ∀ i ∈ f.code, i.small
theorem upto_enc {most : Int} {n : Nat} (hn : (n : Int) ≤ most) (h64 : n < 18446744073709551616) (r : List UInt8) : uptoR most (some (encU n ++ r)) = (n, some r) := by
  unfold uptoR
  rw [uint_enc h64]
  simp only
  rw [if_pos (by omega)]
theorem readI_enc {i : In} (h : i.small) (r : List UInt8) : readI (some (encI i ++ r)) = (i, some r) := by
  obtain ⟨⟨h1, h2, h3, h4⟩, a0, a1, s2⟩ := h
  simp only [inK] at h2 h3
  have e : encI i ++ r = encU i.op ++ (encU (zig i.n) ++ (encU i.a.toNat ++ (encU i.s.length ++ (i.s ++ r)))) := by
    unfold encI
    simp only [List.append_assoc]
  rw [e, readI_eq (upto_enc (by omega) (by omega) _) (uint_enc (zig_lt h2.1 h2.2) _) (upto_enc (by omega) (by omega) _) (bytes_encN (by omega) (by omega) r), zag_zig]
  obtain ⟨o, x, a, s⟩ := i
  simp only at a0
  rw [show ((a.toNat : Nat) : Int) = a by omega]
theorem loadC_enc : ∀ (l acc : List In) (r : List UInt8), (∀ i ∈ l, i.small) → loadC l.length (some (encC l ++ r)) acc = (acc ++ l, some r)
  | [], acc, r, _ => by rw [List.length_nil, loadC_zero, List.append_nil]; rfl
  | i :: l, acc, r, h => by
    have e : encC (i :: l) ++ r = encI i ++ (encC l ++ r) := by unfold encC; rw [List.flatMap_cons, List.append_assoc]
    rw [e, List.length_cons, loadC, readI_enc (h i List.mem_cons_self)]
    simp only
    rw [loadC_enc l _ r (fun j hj => h j (List.mem_cons_of_mem _ hj)), List.append_assoc]
    rfl
theorem readF_enc {f : Fn} (h : f.small) (r : List UInt8) : readF (some (encF1 f ++ r)) = (f, some r) := by
  obtain ⟨c0, c1, l1, is⟩ := h
  have e : encF1 f ++ r = encU f.caps.toNat ++ (encU f.code.length ++ (encC f.code ++ r)) := by
    unfold encF1
    simp only [List.append_assoc]
  rw [e, readF_eq (upto_enc (by omega) (by omega) _) (upto_enc (by omega) (by omega) _) (loadC_enc f.code [] r is)]
  obtain ⟨c, I⟩ := f
  simp only at c0
  simp only [List.nil_append]
  rw [show ((c.toNat : Nat) : Int) = c by omega]
theorem loadF_enc : ∀ (l acc : List Fn) (r : List UInt8), (∀ f ∈ l, f.small) → loadF l.length (some (l.flatMap encF1 ++ r)) acc = (acc ++ l, some r)
  | [], acc, r, _ => by rw [List.length_nil, loadF_zero, List.append_nil]; rfl
  | f :: l, acc, r, h => by
    rw [List.flatMap_cons, List.append_assoc, List.length_cons, loadF, readF_enc (h f List.mem_cons_self)]
    simp only
    rw [loadF_enc l _ r (fun j hj => h j (List.mem_cons_of_mem _ hj)), List.append_assoc]
    rfl
theorem decF_enc {l : List Fn} (h : ∀ f ∈ l, f.small) (hl : l.length ≤ 20) : decF (some (encF l)) = (l, some []) := by
  have h1 := loadF_enc l [] [] h
  rw [List.append_nil, List.nil_append] at h1
  unfold encF
  rw [decF_eq (upto_enc (by omega) (by omega) _) h1, if_neg (by simp)]
end Go.Proofs.YtipabhbnljadfaaDoor

/-
  CRC-32C, in plain Lean: no program in sight.
-/
namespace Go.Proofs.YtipabhbnljadfaaDoor
open Go
set_option linter.unusedSimpArgs false
set_option linter.unusedVariables false

theorem bits_xor_u32 (a b : Nat) (ha : a < 4294967296) (hb : b < 4294967296) : bits .xor .u32 (a : Int) (b : Int) = ((a ^^^ b : Nat) : Int) := by
  have h1 : a ^^^ b < 2 ^ 32 := Nat.xor_lt_two_pow (n := 32) ha hb
  show IntKind.u32.wrap (((BitVec.ofInt 32 (a : Int) ^^^ BitVec.ofInt 32 (b : Int) : BitVec 32).toNat : Nat) : Int) = _
  rw [BitVec.ofInt_natCast, BitVec.ofInt_natCast, BitVec.toNat_xor, BitVec.toNat_ofNat, BitVec.toNat_ofNat, Nat.mod_eq_of_lt (by simpa using ha), Nat.mod_eq_of_lt (by simpa using hb)]
  exact wrap_u32_in (by omega) (by omega)
theorem bits_and_u32 (a b : Nat) (ha : a < 4294967296) (hb : b < 4294967296) : bits .and .u32 (a : Int) (b : Int) = ((a &&& b : Nat) : Int) := by
  have h1 : a &&& b < 2 ^ 32 := Nat.and_lt_two_pow (n := 32) a hb
  show IntKind.u32.wrap (((BitVec.ofInt 32 (a : Int) &&& BitVec.ofInt 32 (b : Int) : BitVec 32).toNat : Nat) : Int) = _
  rw [BitVec.ofInt_natCast, BitVec.ofInt_natCast, BitVec.toNat_and, BitVec.toNat_ofNat, BitVec.toNat_ofNat, Nat.mod_eq_of_lt (by simpa using ha), Nat.mod_eq_of_lt (by simpa using hb)]
  exact wrap_u32_in (by omega) (by omega)

/-- one bit -/
def stepC (c : Nat) : Nat := (c / 2) ^^^ (if c % 2 = 1 then 2197175160 else 0)
def stepN : Nat → Nat → Nat
  | 0, c => c
  | j + 1, c => stepC (stepN j c)
/-- one byte -/
def crcB (c : Nat) (b : UInt8) : Nat := stepN 8 (c ^^^ b.toNat)
def crcR (l : List UInt8) : Nat := l.foldl crcB 4294967295
/-- CRC-32C -/
def crc (l : List UInt8) : Nat := crcR l ^^^ 4294967295

theorem stepC_lt {c : Nat} (h : c < 4294967296) : stepC c < 4294967296 := by
  unfold stepC
  refine Nat.xor_lt_two_pow (n := 32) (by omega) ?_
  split <;> omega
theorem stepN_lt : ∀ (j : Nat) {c : Nat}, c < 4294967296 → stepN j c < 4294967296
  | 0, _, h => h
  | j + 1, _, h => stepC_lt (stepN_lt j h)
theorem crcB_lt {c : Nat} (b : UInt8) (h : c < 4294967296) : crcB c b < 4294967296 :=
  stepN_lt 8 (Nat.xor_lt_two_pow (n := 32) h (by have := b.toNat_lt; omega))
theorem foldl_crcB_lt : ∀ (l : List UInt8) {c : Nat}, c < 4294967296 → l.foldl crcB c < 4294967296
  | [], _, h => h
  | b :: l, _, h => foldl_crcB_lt l (crcB_lt b h)
theorem crcR_lt (l : List UInt8) : crcR l < 4294967296 := foldl_crcB_lt l (by omega)
theorem crc_lt (l : List UInt8) : crc l < 4294967296 := Nat.xor_lt_two_pow (n := 32) (crcR_lt l) (by omega)

theorem wrap_u32_neg1 : IntKind.u32.wrap (-1) = 4294967295 := by decide

theorem step_bits {c : Nat} (h : c < 4294967296) :
    bits .xor .u32 ((c : Int) / 2 ^ (1 : Int).toNat) (bits .and .u32 2197175160 (IntKind.u32.wrap (-(bits .and .u32 (c : Int) 1)))) = (stepC c : Int) := by
  have e1 : (c : Int) / 2 ^ (1 : Int).toNat = ((c / 2 : Nat) : Int) := by
    show (c : Int) / 2 ^ 1 = _
    omega
  have e2 : bits .and .u32 (c : Int) 1 = ((c % 2 : Nat) : Int) := by
    rw [show (1 : Int) = ((1 : Nat) : Int) from rfl, bits_and_u32 _ _ h (by omega), Nat.and_one_is_mod]
  rw [e1, e2]
  unfold stepC
  by_cases h1 : c % 2 = 1
  · rw [if_pos h1, h1]
    have e3 : bits .and .u32 2197175160 (IntKind.u32.wrap (-((1 : Nat) : Int))) = ((2197175160 : Nat) : Int) := by decide
    rw [e3, bits_xor_u32 _ _ (by omega) (by omega)]
  · have h0 : c % 2 = 0 := by omega
    rw [if_neg h1, h0]
    have e3 : bits .and .u32 2197175160 (IntKind.u32.wrap (-((0 : Nat) : Int))) = ((0 : Nat) : Int) := by decide
    rw [e3, bits_xor_u32 _ _ (by omega) (by omega)]

theorem com_bits {c : Nat} (h : c < 4294967296) : ((c ^^^ 4294967295 : Nat) : Int) = 4294967295 - (c : Int) := by
  have h1 : (BitVec.ofNat 32 c ^^^ BitVec.allOnes 32).toNat = (~~~ BitVec.ofNat 32 c).toNat := by rw [BitVec.xor_allOnes]
  rw [BitVec.toNat_xor, BitVec.toNat_not, BitVec.toNat_ofNat, BitVec.toNat_allOnes, Nat.mod_eq_of_lt (by simpa using h)] at h1
  have h2 : c ^^^ 4294967295 = 4294967295 - c := by simpa using h1
  rw [h2]
  omega
end Go.Proofs.YtipabhbnljadfaaDoor

/-
  CRC-32C bit by bit is CRC-32C: no program in sight.
-/
namespace Go.Proofs.YtipabhbnljadfaaDoor
open Go
set_option linter.unusedSimpArgs false
set_option linter.unusedVariables false

def refB (b c k : Nat) : Nat := if (c + b / 2 ^ k) % 2 = 1 then (c / 2) ^^^ 2197175160 else c / 2
def refN (b : Nat) : Nat → Nat → Nat
  | 0, c => c
  | k + 1, c => refB b (refN b k c) k

theorem xor_half (x z : Nat) : (x ^^^ z) / 2 = x / 2 ^^^ z / 2 := by
  have := Nat.shiftRight_xor_distrib (a := x) (b := z) (i := 1)
  simpa [Nat.shiftRight_succ] using this

theorem refN_step (b c : Nat) : ∀ k, stepN k (c ^^^ b) = refN b k c ^^^ (b / 2 ^ k)
  | 0 => by simp [stepN, refN]
  | k + 1 => by
    have ih := refN_step b c k
    have hz : b / 2 ^ (k + 1) = b / 2 ^ k / 2 := by rw [Nat.pow_succ, Nat.div_div_eq_div_mul]
    simp only [stepN, refN, ih, hz]
    unfold stepC refB
    generalize refN b k c = x
    generalize b / 2 ^ k = z
    rw [xor_half]
    have h2 : ((x ^^^ z) % 2 = 1) = ((x + z) % 2 = 1) := by
      rw [eq_iff_iff, Nat.xor_mod_two_eq_one]
      omega
    simp only [h2]
    split
    · rw [Nat.xor_assoc, Nat.xor_comm (z / 2), ← Nat.xor_assoc]
    · rw [Nat.xor_zero]

theorem refN_byte (c : Nat) (b : UInt8) : refN b.toNat 8 c = crcB c b := by
  have h := refN_step b.toNat c 8
  have hb := b.toNat_lt
  rw [Nat.div_eq_of_lt (by simpa using hb), Nat.xor_zero] at h
  exact h.symm
theorem refB_lt {b c k : Nat} (h : c < 4294967296) : refB b c k < 4294967296 := by
  unfold refB
  split
  · exact Nat.xor_lt_two_pow (n := 32) (by omega) (by omega)
  · omega
theorem refN_lt (b : Nat) : ∀ (k : Nat) {c : Nat}, c < 4294967296 → refN b k c < 4294967296
  | 0, _, h => h
  | k + 1, _, h => refB_lt (refN_lt b k h)

theorem low_bits {c b k : Nat} (hc : c < 4294967296) (hb : b < 256) :
    bits .xor .u32 (bits .and .u32 (c : Int) 1) (bits .and .u32 (IntKind.u32.wrap ((b : Int) / 2 ^ ((k : Int)).toNat)) 1) = (((c + b / 2 ^ k) % 2 : Nat) : Int) := by
  have e : (b : Int) / 2 ^ ((k : Int)).toNat = ((b / 2 ^ k : Nat) : Int) := by
    rw [Int.toNat_natCast]
    exact_mod_cast rfl
  have hk : b / 2 ^ k ≤ b := Nat.div_le_self _ _
  rw [e]
  generalize b / 2 ^ k = z at hk ⊢
  rw [wrap_u32_in (by omega) (by omega), show (1 : Int) = ((1 : Nat) : Int) from rfl, bits_and_u32 _ _ hc (by omega), bits_and_u32 _ _ (by omega) (by omega), Nat.and_one_is_mod, Nat.and_one_is_mod, bits_xor_u32 _ _ (by omega) (by omega)]
  congr 1
  rcases Nat.mod_two_eq_zero_or_one c with h | h <;> rcases Nat.mod_two_eq_zero_or_one z with h' | h' <;> rw [h, h'] <;> simp <;> omega
theorem refB_T {b c k : Nat} (h : (((c + b / 2 ^ k) % 2 : Nat) : Int) = 1) (hc : c < 4294967296) : bits .xor .u32 ((c : Int) / 2 ^ Int.toNat 1) 2197175160 = ((refB b c k : Nat) : Int) := by
  have e1 : (c : Int) / 2 ^ Int.toNat 1 = ((c / 2 : Nat) : Int) := by
    show (c : Int) / 2 ^ 1 = _
    omega
  have h' : (c + b / 2 ^ k) % 2 = 1 := by exact_mod_cast h
  rw [e1, show (2197175160 : Int) = ((2197175160 : Nat) : Int) from rfl, bits_xor_u32 _ _ (by omega) (by omega), refB, if_pos h']
theorem refB_F {b c k : Nat} (h : ¬ (((c + b / 2 ^ k) % 2 : Nat) : Int) = 1) : (c : Int) / 2 ^ Int.toNat 1 = ((refB b c k : Nat) : Int) := by
  have e1 : (c : Int) / 2 ^ Int.toNat 1 = ((c / 2 : Nat) : Int) := by
    show (c : Int) / 2 ^ 1 = _
    omega
  have h' : ¬ (c + b / 2 ^ k) % 2 = 1 := by exact_mod_cast h
  rw [e1, refB, if_neg h']
end Go.Proofs.YtipabhbnljadfaaDoor

/-
  octet.Sum; slices.Equal of bytes.
-/
namespace Go.Proofs.YtipabhbnljadfaaDoor
open Go
set_option linter.unusedSimpArgs false
set_option linter.unusedVariables false

theorem byte_inj {a b : UInt8} (h : (a.toNat : Int) = (b.toNat : Int)) : a = b := UInt8.toNat_inj.1 (by omega)

end Go.Proofs.YtipabhbnljadfaaDoor

/-
  octet.Seal, octet.Open.
-/
namespace Go.Proofs.YtipabhbnljadfaaDoor
open Go
set_option linter.unusedSimpArgs false
set_option linter.unusedVariables false

/-- the sum's bytes, the lowest first -/
def le4 (c : Nat) : List UInt8 := [byteAt c 0, byteAt c 1, byteAt c 2, byteAt c 3]
def sealB (l : List UInt8) : List UInt8 := l ++ le4 (crc l)
def openB (l : List UInt8) : List UInt8 × Nat := if l.length < 4 then ([], 3) else if sealB (l.take (l.length - 4)) = l then (l.take (l.length - 4), 0) else ([], 14)
theorem sealB_length (l : List UInt8) : (sealB l).length = l.length + 4 := by simp [sealB, le4]

theorem le4_bits (c : Nat) : [Value.int .u8 (IntKind.u8.wrap (c : Int)), Value.int .u8 (IntKind.u8.wrap ((c : Int) / 2 ^ Int.toNat 8)), Value.int .u8 (IntKind.u8.wrap ((c : Int) / 2 ^ Int.toNat 16)), Value.int .u8 (IntKind.u8.wrap ((c : Int) / 2 ^ Int.toNat 24))] = (le4 c).map U8 := by
  have h0 := wrap_u8_byte c 0
  have h1 := wrap_u8_byte c 1
  have h2 := wrap_u8_byte c 2
  have h3 := wrap_u8_byte c 3
  rw [← shr_byte] at h1 h2 h3
  have e0 : (c / 256 ^ 0 : Nat) = c := by simp
  rw [e0] at h0
  have e1 : ((8 : Int) * ((1 : Nat) : Int)).toNat = Int.toNat 8 := rfl
  have e2 : ((8 : Int) * ((2 : Nat) : Int)).toNat = Int.toNat 16 := rfl
  have e3 : ((8 : Int) * ((3 : Nat) : Int)).toNat = Int.toNat 24 := rfl
  rw [e1] at h1
  rw [e2] at h2
  rw [e3] at h3
  rw [h0, h1, h2, h3]
  rfl
theorem New.of {w w1 w2 w3 : World} {k : Nat} (h : Grow (New w w1) w2 w3 k) (h1 : w.heap.size ≤ w2.heap.size) (h2 : w1.heap.size ≤ w3.heap.size) : New w w3 k := by
  rcases h with h | h
  · exact ⟨h.1, by have := h.2; omega⟩
  · exact ⟨by have := h.1; omega, h.2⟩

end Go.Proofs.YtipabhbnljadfaaDoor

/-
  The reference's Sum, Seal, Open.
-/
namespace Go.Proofs.YtipabhbnljadfaaDoor
open Go
set_option linter.unusedSimpArgs false
set_option linter.unusedVariables false

theorem le4_take {c i : Nat} (h : i < 4) : (le4 c).take (i + 1) = (le4 c).take i ++ [byteAt c i] := by
  match i, h with
  | 0, _ => rfl
  | 1, _ => rfl
  | 2, _ => rfl
  | 3, _ => rfl

end Go.Proofs.YtipabhbnljadfaaDoor
