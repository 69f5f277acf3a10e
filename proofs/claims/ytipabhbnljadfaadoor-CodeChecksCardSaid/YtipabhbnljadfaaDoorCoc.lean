/-
  code: can a function run? can functions?
-/
import Derived.Test.YtipabhbnljadfaaDoorCob
namespace Go.Proofs.YtipabhbnljadfaaDoor
open Go
set_option linter.unusedSimpArgs false
set_option linter.unusedVariables false

theorem zeroRow (n : Nat) : rowCells (.int .i64 0) n = ((List.replicate n (0 : Int)).map I64).toArray := by
  unfold rowCells
  congr 1
  induction n with
  | zero => rfl
  | succ n ih =>
    rw [List.replicate_succ, List.replicate_succ, List.map_cons, List.flatten_cons, ih]
    rfl

theorem inK_zero (n : Nat) (k : Nat) : inK .i64 ((List.replicate n (0 : Int)).getD k 0) := by
  rw [List.getD_eq_getElem?_getD, List.getElem?_replicate]
  split <;> simp [inK]
theorem inK_one {n : Nat} (h : 0 < n) (k : Nat) : inK .i64 (((List.replicate n (0 : Int)).set 0 1).getD k 0) := by
  rw [getD_set (by simpa using h)]
  split
  · simp [inK]
  · exact inK_zero n k
theorem inK_reach {n at_ : Nat} {to d t : Int} {D R D' R' : List Int} {T T' : List Nat} {b : Bool} (hD : D.length = n) (hR : R.length = n) (h1 : ∀ k, inK .i64 (D.getD k 0)) (h2 : ∀ k, inK .i64 (R.getD k 0)) (hd : inK .i64 d) (ht : inK .i64 t) (he : reachP n at_ to d t D R T = (b, D', R', T')) :
    (∀ k, inK .i64 (D'.getD k 0)) ∧ ∀ k, inK .i64 (R'.getD k 0) := by
  unfold reachP at he
  split at he
  · simp only [Prod.mk.injEq] at he
    obtain ⟨rfl, rfl, rfl, rfl⟩ := he
    exact ⟨h1, h2⟩
  · split at he
    · simp only [Prod.mk.injEq] at he
      obtain ⟨rfl, rfl, rfl, rfl⟩ := he
      refine ⟨fun k => ?_, fun k => ?_⟩
      · rw [getD_set (by omega)]
        split
        · exact hd
        · exact h1 k
      · rw [getD_set (by omega)]
        split
        · exact ht
        · exact h2 k
    · simp only [Prod.mk.injEq] at he
      obtain ⟨rfl, rfl, rfl, rfl⟩ := he
      exact ⟨h1, h2⟩

set_option maxHeartbeats 4000000 in
theorem check_ok {w : World} {H H' : Nat → Prop} {F : Fn} {A : Option Addr} {c : Nat} {allv : Value} {all : List Fn} {globs : Int} (hTk : Tk w) (hF : inK .i64 F.caps) (hok : ∀ i ∈ F.code, i.ok) (hcode : Rd w H (.slice A F.code.length c) F.code.length 4 (F.code.flatMap insC))
    (hall : IsFs w H' allv all) (hlen : F.code.length ≤ 1000) :
    Ret Tryd.prog 20 #[.agg #[.int .i64 F.caps, .slice A F.code.length c], allv, .int .i64 globs] w fun u w' => (∃ b, u = .bool b ∧ (F.caps < 0 → b = false) ∧ (PosAll all → 0 ≤ F.caps → (b = true ↔ GoodF F all globs))) ∧ Upd No w w' := by
  obtain ⟨n, hn⟩ : ∃ n, F.code.length = n := ⟨_, rfl⟩
  rw [hn] at hcode hlen ⊢
  obtain ⟨bF, hbF⟩ : ∃ bF, bF = w.heap.size := ⟨_, rfl⟩
  refine enterRet (vs := [_, _, _]) (N := 130) Tryd.func20 rfl rfl rfl ?_
  have hU := Upd.refl No w
  refine WC.keep [(0, _), (1, _), (2, _)] ⟨rfl, rfl, rfl, trivial⟩ ?_
  refine WC.seq ?_
  refine WC.region ?_
  refine WL.cons (SO.alloc rfl rfl rfl rfl (r_boxAgg rfl (ev_t rfl)) ?_)
  intro w1 hu1 hB1 hz1
  have hs1 := hu1.size
  replace hU := hU.trans hu1 (by first | exact (fun _ _ h => h) | exact (fun _ _ h => h.elim) | (intro k hl hk; (try simp only [At, New, Grow, From, No] at hk ⊢); omega) | (intro k hl hk; first | (have h1 := hk.1; omega) | ((try simp only [At, New, Grow, From, No] at *); omega)))
  refine WL.val rfl rfl rfl rfl (r_assign rfl ev_c) ?_
  refine WL.nil ?_
  refine WX.keep [(1, _), (2, _), (3, _)] ⟨rfl, rfl, rfl, trivial⟩ ?_
  have hF3 : Blk w1 bF #[.int .i64 F.caps, .slice A n c] 42 := by rw [hbF]; exact hB1
  rw [← hbF]
  refine WX.next ?_
  refine WC.seq ?_
  refine WC.region ?_
  first | refine WL.val rfl rfl rfl rfl (r_field0 rfl (ev_t rfl) fld_42_1) ?_ | refine WL.val rfl rfl rfl rfl (r_fieldAt rfl (ev_t rfl) fld_42_1) ?_
  refine WL.val rfl rfl rfl rfl (r_load rfl (ev_t rfl) flat_40 (Blk.cell hF3 rfl)) ?_
  refine WL.val rfl rfl rfl rfl (r_lenSlice (ts := #[]) rfl (ev_t rfl) elem_40) ?_
  refine WL.cons (SO.alloc rfl rfl rfl rfl (r_makeSlice (n := n) rfl (ev_t rfl) (ev_t rfl) row_69 (by omega) (by omega)) ?_)
  intro w2 hu2 hgD hzD
  rw [zeroRow] at hgD
  have hs2 := hu2.size
  replace hU := hU.trans hu2 (by first | exact (fun _ _ h => h) | exact (fun _ _ h => h.elim) | (intro k hl hk; (try simp only [At, New, Grow, From, No] at hk ⊢); omega) | (intro k hl hk; first | (have h1 := hk.1; omega) | ((try simp only [At, New, Grow, From, No] at *); omega)))
  replace hF3 := hF3.upd hu2 (by first | exact (fun h => h) | (simp only [At, No]; omega) | (exact fun h => by have h1 := h.1; omega))
  refine WL.cons (SO.alloc rfl rfl rfl rfl (r_alloc rfl zero_69) ?_)
  intro w3 hu3 hB3 hz3
  have hs3 := hu3.size
  replace hU := hU.trans hu3 (by first | exact (fun _ _ h => h) | exact (fun _ _ h => h.elim) | (intro k hl hk; (try simp only [At, New, Grow, From, No] at hk ⊢); omega) | (intro k hl hk; first | (have h1 := hk.1; omega) | ((try simp only [At, New, Grow, From, No] at *); omega)))
  replace hF3 := hF3.upd hu3 (by first | exact (fun h => h) | (simp only [At, No]; omega) | (exact fun h => by have h1 := h.1; omega))
  replace hgD := hgD.upd hu3 (by first | exact (fun h => h) | (simp only [At, No]; omega))
  refine WL.cons (SO.store rfl (ev_t rfl) (ev_t rfl) size_69 hB3 rfl rfl rfl rfl rfl ?_)
  intro w4 hu4 hB3 hz4
  have hs4 := hu4.size
  replace hU := hU.trans hu4 (by first | exact (fun _ _ h => h) | exact (fun _ _ h => h.elim) | (intro k hl hk; (try simp only [At, New, Grow, From, No] at hk ⊢); omega) | (intro k hl hk; first | (have h1 := hk.1; omega) | ((try simp only [At, New, Grow, From, No] at *); omega)))
  replace hF3 := hF3.upd hu4 (by first | exact (fun h => h) | (simp only [At, No]; omega) | (exact fun h => by have h1 := h.1; omega))
  replace hgD := hgD.upd hu4 (by first | exact (fun h => h) | (simp only [At, No]; omega))
  refine WL.nil ?_
  refine WX.keep [(1, _), (2, _), (3, _), (7, _)] ⟨rfl, rfl, rfl, rfl, trivial⟩ ?_
  have hbD := hB3
  refine WX.next ?_
  refine WC.seq ?_
  refine WC.region ?_
  first | refine WL.val rfl rfl rfl rfl (r_field0 rfl (ev_t rfl) fld_42_1) ?_ | refine WL.val rfl rfl rfl rfl (r_fieldAt rfl (ev_t rfl) fld_42_1) ?_
  refine WL.val rfl rfl rfl rfl (r_load rfl (ev_t rfl) flat_40 (Blk.cell hF3 rfl)) ?_
  refine WL.val rfl rfl rfl rfl (r_lenSlice (ts := #[]) rfl (ev_t rfl) elem_40) ?_
  refine WL.cons (SO.alloc rfl rfl rfl rfl (r_makeSlice (n := n) rfl (ev_t rfl) (ev_t rfl) row_69 (by omega) (by omega)) ?_)
  intro w5 hu5 hgR hzR
  rw [zeroRow] at hgR
  have hs5 := hu5.size
  replace hU := hU.trans hu5 (by first | exact (fun _ _ h => h) | exact (fun _ _ h => h.elim) | (intro k hl hk; (try simp only [At, New, Grow, From, No] at hk ⊢); omega) | (intro k hl hk; first | (have h1 := hk.1; omega) | ((try simp only [At, New, Grow, From, No] at *); omega)))
  replace hF3 := hF3.upd hu5 (by first | exact (fun h => h) | (simp only [At, No]; omega) | (exact fun h => by have h1 := h.1; omega))
  replace hgD := hgD.upd hu5 (by first | exact (fun h => h) | (simp only [At, No]; omega))
  replace hbD := hbD.upd hu5 (by first | exact (fun h => h) | (simp only [At, No]; omega))
  refine WL.cons (SO.alloc rfl rfl rfl rfl (r_alloc rfl zero_69) ?_)
  intro w6 hu6 hB6 hz6
  have hs6 := hu6.size
  replace hU := hU.trans hu6 (by first | exact (fun _ _ h => h) | exact (fun _ _ h => h.elim) | (intro k hl hk; (try simp only [At, New, Grow, From, No] at hk ⊢); omega) | (intro k hl hk; first | (have h1 := hk.1; omega) | ((try simp only [At, New, Grow, From, No] at *); omega)))
  replace hF3 := hF3.upd hu6 (by first | exact (fun h => h) | (simp only [At, No]; omega) | (exact fun h => by have h1 := h.1; omega))
  replace hgD := hgD.upd hu6 (by first | exact (fun h => h) | (simp only [At, No]; omega))
  replace hbD := hbD.upd hu6 (by first | exact (fun h => h) | (simp only [At, No]; omega))
  replace hgR := hgR.upd hu6 (by first | exact (fun h => h) | (simp only [At, No]; omega))
  refine WL.cons (SO.store rfl (ev_t rfl) (ev_t rfl) size_69 hB6 rfl rfl rfl rfl rfl ?_)
  intro w7 hu7 hB6 hz7
  have hs7 := hu7.size
  replace hU := hU.trans hu7 (by first | exact (fun _ _ h => h) | exact (fun _ _ h => h.elim) | (intro k hl hk; (try simp only [At, New, Grow, From, No] at hk ⊢); omega) | (intro k hl hk; first | (have h1 := hk.1; omega) | ((try simp only [At, New, Grow, From, No] at *); omega)))
  replace hF3 := hF3.upd hu7 (by first | exact (fun h => h) | (simp only [At, No]; omega) | (exact fun h => by have h1 := h.1; omega))
  replace hgD := hgD.upd hu7 (by first | exact (fun h => h) | (simp only [At, No]; omega))
  replace hbD := hbD.upd hu7 (by first | exact (fun h => h) | (simp only [At, No]; omega))
  replace hgR := hgR.upd hu7 (by first | exact (fun h => h) | (simp only [At, No]; omega))
  refine WL.nil ?_
  refine WX.keep [(1, _), (2, _), (3, _), (7, _), (8, _)] ⟨rfl, rfl, rfl, rfl, rfl, trivial⟩ ?_
  have hbR := hB6
  refine WX.next ?_
  refine WC.seq ?_
  refine WC.region ?_
  refine WL.cons (SO.alloc rfl rfl rfl rfl (r_buildSlice1 (vs := [_]) rfl ⟨ev_c, trivial⟩ rfl row_69 rfl rfl) ?_)
  intro w8 hu8 hB8 hz8
  have hs8 := hu8.size
  replace hU := hU.trans hu8 (by first | exact (fun _ _ h => h) | exact (fun _ _ h => h.elim) | (intro k hl hk; (try simp only [At, New, Grow, From, No] at hk ⊢); omega) | (intro k hl hk; first | (have h1 := hk.1; omega) | ((try simp only [At, New, Grow, From, No] at *); omega)))
  replace hF3 := hF3.upd hu8 (by first | exact (fun h => h) | (simp only [At, No]; omega) | (exact fun h => by have h1 := h.1; omega))
  replace hgD := hgD.upd hu8 (by first | exact (fun h => h) | (simp only [At, No]; omega))
  replace hbD := hbD.upd hu8 (by first | exact (fun h => h) | (simp only [At, No]; omega))
  replace hgR := hgR.upd hu8 (by first | exact (fun h => h) | (simp only [At, No]; omega))
  replace hbR := hbR.upd hu8 (by first | exact (fun h => h) | (simp only [At, No]; omega))
  have hgT := hB8
  have hoT := Own.of_blk (F := At _) (n := 1) (sz := 1) hgT rfl rfl (le_maxLen (by omega))
  refine WL.cons (SO.alloc rfl rfl rfl rfl (r_alloc rfl zero_69) ?_)
  intro w9 hu9 hB9 hz9
  have hs9 := hu9.size
  replace hU := hU.trans hu9 (by first | exact (fun _ _ h => h) | exact (fun _ _ h => h.elim) | (intro k hl hk; (try simp only [At, New, Grow, From, No] at hk ⊢); omega) | (intro k hl hk; first | (have h1 := hk.1; omega) | ((try simp only [At, New, Grow, From, No] at *); omega)))
  replace hF3 := hF3.upd hu9 (by first | exact (fun h => h) | (simp only [At, No]; omega) | (exact fun h => by have h1 := h.1; omega))
  replace hgD := hgD.upd hu9 (by first | exact (fun h => h) | (simp only [At, No]; omega))
  replace hbD := hbD.upd hu9 (by first | exact (fun h => h) | (simp only [At, No]; omega))
  replace hgR := hgR.upd hu9 (by first | exact (fun h => h) | (simp only [At, No]; omega))
  replace hbR := hbR.upd hu9 (by first | exact (fun h => h) | (simp only [At, No]; omega))
  replace hoT := hoT.upd hu9 (by first | exact (fun _ _ _ h => h) | (intro k hk hl hS; simp only [At, No] at hk hS; omega))
  refine WL.cons (SO.store rfl (ev_t rfl) (ev_t rfl) size_69 hB9 rfl rfl rfl rfl rfl ?_)
  intro w10 hu10 hB9 hz10
  have hs10 := hu10.size
  replace hU := hU.trans hu10 (by first | exact (fun _ _ h => h) | exact (fun _ _ h => h.elim) | (intro k hl hk; (try simp only [At, New, Grow, From, No] at hk ⊢); omega) | (intro k hl hk; first | (have h1 := hk.1; omega) | ((try simp only [At, New, Grow, From, No] at *); omega)))
  replace hF3 := hF3.upd hu10 (by first | exact (fun h => h) | (simp only [At, No]; omega) | (exact fun h => by have h1 := h.1; omega))
  replace hgD := hgD.upd hu10 (by first | exact (fun h => h) | (simp only [At, No]; omega))
  replace hbD := hbD.upd hu10 (by first | exact (fun h => h) | (simp only [At, No]; omega))
  replace hgR := hgR.upd hu10 (by first | exact (fun h => h) | (simp only [At, No]; omega))
  replace hbR := hbR.upd hu10 (by first | exact (fun h => h) | (simp only [At, No]; omega))
  replace hoT := hoT.upd hu10 (by first | exact (fun _ _ _ h => h) | (intro k hk hl hS; simp only [At, No] at hk hS; omega))
  refine WL.nil ?_
  refine WX.keep [(1, _), (2, _), (3, _), (7, _), (8, _), (9, _)] ⟨rfl, rfl, rfl, rfl, rfl, rfl, trivial⟩ ?_
  have hbT := hB9
  refine WX.next ?_
  refine WC.seq ?_
  refine WC.seq ?_
  refine WC.region ?_
  first | refine WL.val rfl rfl rfl rfl (r_field0 rfl (ev_t rfl) fld_42_1) ?_ | refine WL.val rfl rfl rfl rfl (r_fieldAt rfl (ev_t rfl) fld_42_1) ?_
  refine WL.val rfl rfl rfl rfl (r_load rfl (ev_t rfl) flat_40 (Blk.cell hF3 rfl)) ?_
  refine WL.val rfl rfl rfl rfl (r_lenSlice (ts := #[]) rfl (ev_t rfl) elem_40) ?_
  refine WL.val rfl rfl rfl rfl (r_eql rfl (ev_t rfl) ev_c) ?_
  refine WL.val rfl rfl rfl rfl (r_move rfl (ev_t rfl)) ?_
  refine WL.cases 31 rfl (fun hb4_4 => ?_) (fun hb4_4 => ?_)
  · try (exfalso; first | (simp at hb4_4; done) | (simp only [decide_eq_true_eq, decide_eq_false_iff_not, Bool.not_eq_true', Bool.not_eq_false', Bool.not_eq_true, Bool.not_eq_false] at hb4_4; omega) | omega)
    all_goals
     try simp only [decide_eq_true_eq, decide_eq_false_iff_not, Bool.not_eq_true', Bool.not_eq_false', Bool.not_eq_true, Bool.not_eq_false, Option.isNone_none, Option.isNone_some, Option.isSome_none, Option.isSome_some, ne_eq, Decidable.not_not] at hb4_4
     refine WL.skip rfl rfl rfl ?_
     refine WL.skip rfl rfl rfl ?_
     refine WL.skip rfl rfl rfl ?_
     refine WL.val rfl rfl rfl rfl (r_pickT rfl (ev_t rfl) ev_c) ?_
     refine WL.nil ?_
     refine WX.keep [(1, _), (2, _), (3, _), (7, _), (8, _), (9, _), (35, _)] ⟨rfl, rfl, rfl, rfl, rfl, rfl, rfl, trivial⟩ ?_
     refine WX.next ?_
     refine WC.cond_true rfl (ev_t rfl) ?_
     refine WC.seq ?_
     refine WC.region ?_
     refine WL.val rfl rfl rfl rfl (r_assign rfl ev_c) ?_
     refine WL.nil ?_
     refine WX.keep [(6, _)] ⟨rfl, trivial⟩ ?_
     refine WX.next ?_
     refine WC.ret ?_
     refine WX.thenRet ?_
     refine WX.retE1 rfl rfl ?_
     refine ⟨⟨false, rfl, fun _ => rfl, fun _ hc0 => ⟨(fun h => by cases h), fun hg => ?_⟩⟩, hU⟩
     have h0 : n = 0 := by omega
     exact absurd (List.eq_nil_of_length_eq_zero (l := F.code) (by omega)) (good_ne hg)
  · try (exfalso; first | (simp at hb4_4; done) | (simp only [decide_eq_true_eq, decide_eq_false_iff_not, Bool.not_eq_true', Bool.not_eq_false', Bool.not_eq_true, Bool.not_eq_false] at hb4_4; omega) | omega)
    all_goals
     try simp only [decide_eq_true_eq, decide_eq_false_iff_not, Bool.not_eq_true', Bool.not_eq_false', Bool.not_eq_true, Bool.not_eq_false, Option.isNone_none, Option.isNone_some, Option.isSome_none, Option.isSome_some, ne_eq, Decidable.not_not] at hb4_4
     first | refine WL.val rfl rfl rfl rfl (r_field0 rfl (ev_t rfl) fld_42_0) ?_ | refine WL.val rfl rfl rfl rfl (r_fieldAt rfl (ev_t rfl) fld_42_0) ?_
     refine WL.val rfl rfl rfl rfl (r_load rfl (ev_t rfl) flat_3 (Blk.cell hF3 rfl)) ?_
     refine WL.val rfl rfl rfl rfl (r_lss rfl (ev_t rfl) ev_c) ?_
     refine WL.val rfl rfl rfl rfl (r_pickF rfl (ev_t rfl) (ev_t rfl)) ?_
     refine WL.nil ?_
     refine WX.keep [(1, _), (2, _), (3, _), (7, _), (8, _), (9, _), (35, _)] ⟨rfl, rfl, rfl, rfl, rfl, rfl, rfl, trivial⟩ ?_
     refine WX.next ?_
     refine WC.cond rfl (ev_t rfl) (fun hc4 => ?_) (fun hc4 => ?_)
     · try (exfalso; first | (simp at hc4; done) | (simp only [decide_eq_true_eq, decide_eq_false_iff_not, Bool.not_eq_true', Bool.not_eq_false', Bool.not_eq_true, Bool.not_eq_false] at hc4; omega) | omega)
       all_goals
        try simp only [decide_eq_true_eq, decide_eq_false_iff_not, Bool.not_eq_true', Bool.not_eq_false', Bool.not_eq_true, Bool.not_eq_false, Option.isNone_none, Option.isNone_some, Option.isSome_none, Option.isSome_some, ne_eq, Decidable.not_not] at hc4
        refine WC.seq ?_
        refine WC.region ?_
        refine WL.val rfl rfl rfl rfl (r_assign rfl ev_c) ?_
        refine WL.nil ?_
        refine WX.keep [(6, _)] ⟨rfl, trivial⟩ ?_
        refine WX.next ?_
        refine WC.ret ?_
        refine WX.thenRet ?_
        refine WX.retE1 rfl rfl ?_
        refine ⟨⟨false, rfl, fun _ => rfl, fun _ hc0 => ⟨(fun h => by cases h), fun hg => ?_⟩⟩, hU⟩
        have h0 : n = 0 := by omega
        exact absurd (List.eq_nil_of_length_eq_zero (l := F.code) (by omega)) (good_ne hg)
     · try (exfalso; first | (simp at hc4; done) | (simp only [decide_eq_true_eq, decide_eq_false_iff_not, Bool.not_eq_true', Bool.not_eq_false', Bool.not_eq_true, Bool.not_eq_false] at hc4; omega) | omega)
       all_goals
        try simp only [decide_eq_true_eq, decide_eq_false_iff_not, Bool.not_eq_true', Bool.not_eq_false', Bool.not_eq_true, Bool.not_eq_false, Option.isNone_none, Option.isNone_some, Option.isSome_none, Option.isSome_some, ne_eq, Decidable.not_not] at hc4
        refine WC.skip ?_
        refine WX.next ?_
        refine WC.seq ?_
        refine WC.region ?_
        refine WL.val rfl rfl rfl rfl (r_load rfl (ev_t rfl) flat_69 (Blk.cell hbD rfl)) ?_
        refine WL.val rfl rfl rfl rfl (r_indexAddr rfl (ev_t rfl) ev_c elem_69 size_3 (by omega) (by omega)) ?_
        refine WL.cons (SO.store rfl (ev_t rfl) ev_c size_3 hgD (bltOf (by simp; omega)) rfl rfl rfl rfl ?_)
        intro w11 hu11 hgD hz6
        have hs11 := hu11.size
        replace hU := hU.trans hu11 (by first | exact (fun _ _ h => h) | exact (fun _ _ h => h.elim) | (intro k hl hk; (try simp only [At, New, Grow, From, No] at hk ⊢); omega) | (intro k hl hk; first | (have h1 := hk.1; omega) | ((try simp only [At, New, Grow, From, No] at *); omega)))
        replace hF3 := hF3.upd hu11 (by first | exact (fun h => h) | (simp only [At, No]; omega) | (exact fun h => by have h1 := h.1; omega))
        replace hbD := hbD.upd hu11 (by first | exact (fun h => h) | (simp only [At, No]; omega))
        replace hgR := hgR.upd hu11 (by first | exact (fun h => h) | (simp only [At, No]; omega))
        replace hbR := hbR.upd hu11 (by first | exact (fun h => h) | (simp only [At, No]; omega))
        replace hoT := hoT.upd hu11 (by first | exact (fun _ _ _ h => h) | (intro k hk hl hS; simp only [At, No] at hk hS; omega))
        replace hbT := hbT.upd hu11 (by first | exact (fun h => h) | (simp only [At, No]; omega))
        refine WL.nil ?_
        refine WX.keep [(1, _), (2, _), (3, _), (7, _), (8, _), (9, _)] ⟨rfl, rfl, rfl, rfl, rfl, rfl, trivial⟩ ?_
        have hne : F.code ≠ [] := fun e => by rw [e] at hn; simp at hn; omega
        rw [show 0 + (0 : Int).toNat * 1 = 0 from rfl, setI] at hgD
        have hn0 : 0 < n := by rw [← hn]; exact List.length_pos_iff.2 hne
        have hCk : CkS w11 (fun k => bF < k ∧ k < w11.heap.size) w2.heap.size w5.heap.size w8.heap.size ((List.replicate n 0).set 0 1) (List.replicate n 0) [0] := by
          refine ⟨w1.heap.size, w4.heap.size, _, _, At w7.heap.size, ?_, hgD, ?_, hgR, hbT, hoT, by omega, ⟨by omega, by omega, by omega, by omega, by omega⟩, fun k hk => by simp only [At] at hk; omega⟩
          · rw [List.length_set, List.length_replicate]; exact hbD
          · rw [List.length_replicate]; exact hbR
        obtain ⟨bD, hbDe⟩ : ∃ bD, bD = w2.heap.size := ⟨_, rfl⟩
        obtain ⟨bR, hbRe⟩ : ∃ bR, bR = w5.heap.size := ⟨_, rfl⟩
        obtain ⟨bT, hbTe⟩ : ∃ bT, bT = w8.heap.size := ⟨_, rfl⟩
        rw [← hbDe, ← hbRe, ← hbTe] at hCk ⊢
        have hI0 : InvD F all globs (fun _ => False) ((List.replicate n 0).set 0 1) (List.replicate n 0) [0] := by have := inv_start (f := F) (all := all) (globs := globs) hne; rw [hn] at this; exact this
        have hbl : bF < bD ∧ bD < w11.heap.size ∧ bF < bR ∧ bR < w11.heap.size ∧ bF < bT ∧ bT < w11.heap.size := by omega
        refine WX.next ?_
        refine WC.seq ?_
        refine WC.block ?_
        -- loop 1: live [1, 2, 3, 7, 8, 9]
        refine WC.keep [(1, _), (2, _), (3, _), (7, _), (8, _), (9, _)] ⟨rfl, rfl, rfl, rfl, rfl, rfl, trivial⟩ ?_
        refine WC.loop (fun q E w' => ∃ (D R : List Int) (T : List Nat), q = wtT n T ∧ Upd No w w' ∧ w11.heap.size ≤ w'.heap.size ∧ CkS w' (fun k => bF < k ∧ k < w'.heap.size) bD bR bT D R T ∧ Blk w' bF #[.int .i64 F.caps, .slice A n c] 42 ∧ D.length = n ∧ R.length = n ∧ (∀ k ∈ T, k < n) ∧ Stk T ∧ (∀ k, inK .i64 (D.getD k 0)) ∧ (∀ k, inK .i64 (R.getD k 0)) ∧ (PosAll all → InvD F all globs (fun _ => False) D R T) ∧   E = [(1, allv), (2, .int .i64 globs), (3, .pointer (some ⟨bF, 0, none⟩)), (7, .pointer (some ⟨bD, 0, none⟩)), (8, .pointer (some ⟨bR, 0, none⟩)), (9, .pointer (some ⟨bT, 0, none⟩))]) (wtT n [0]) ?_ ?_
        · exact ⟨_, _, _, rfl, hU, Nat.le_refl _, hCk, hF3, by simp, by simp, (fun k hk => by rw [List.mem_singleton] at hk; omega), (fun j v hj => by cases j with | zero => omega | succ j => simp at hj), inK_one hn0, inK_zero n, fun _ => hI0, rfl⟩
        · clear hU hCk hF3 hI0 hgD hbD hgR hbR hoT hbT
          rintro q E w' ⟨D, R, T, rfl, hU, hwl, hCk, hF3, hDl, hRl, hTn, hSt, hKD, hKR, hI, rfl⟩
          have hw0 := hU.size
          obtain ⟨gD, gR, AT, cT, G, h1, h2, h3, h4, h5, h6, h7, h8, h9⟩ := id hCk
          refine WC.seq ?_
          refine WC.seq ?_
          refine WC.region ?_
          refine WL.val rfl rfl rfl rfl (r_load rfl (ev_t rfl) flat_69 (Blk.cell h5 rfl)) ?_
          refine WL.val rfl rfl rfl rfl (r_lenSlice (ts := #[]) rfl (ev_t rfl) elem_69) ?_
          refine WL.val rfl rfl rfl rfl (r_gtr rfl (ev_t rfl) ev_c) ?_
          refine WL.nil ?_
          refine WX.keep [(1, _), (2, _), (3, _), (7, _), (8, _), (9, _), (40, _)] ⟨rfl, rfl, rfl, rfl, rfl, rfl, rfl, trivial⟩ ?_
          refine WX.next ?_
          refine WC.cond rfl (ev_t rfl) (fun hc7 => ?_) (fun hc7 => ?_)
          · try (exfalso; first | (simp at hc7; done) | (simp only [decide_eq_true_eq, decide_eq_false_iff_not, Bool.not_eq_true', Bool.not_eq_false', Bool.not_eq_true, Bool.not_eq_false] at hc7; omega) | omega)
            all_goals
             try simp only [decide_eq_true_eq, decide_eq_false_iff_not, Bool.not_eq_true', Bool.not_eq_false', Bool.not_eq_true, Bool.not_eq_false, Option.isNone_none, Option.isNone_some, Option.isSome_none, Option.isSome_some, ne_eq, Decidable.not_not] at hc7
             refine WC.skip ?_
             refine WX.next ?_
             refine WC.block ?_
             refine WC.seq ?_
             obtain ⟨T0, a, rfl⟩ : ∃ T0 a, T = T0 ++ [a] := by
               rcases List.eq_nil_or_concat T with rfl | ⟨T0, a, rfl⟩
               · exfalso; simp at *
               · exact ⟨T0, a, List.concat_eq_append⟩
             have hTl : (T0 ++ [a]).length = T0.length + 1 := by simp
             have ha := hTn a (by simp)
             obtain ⟨hSt0, hSta⟩ := hSt.pop
             have hr6 := h6.rd (by omega)
             have hcT : (T0 ++ [a]).length ≤ cT := by obtain ⟨_, _, e, h⟩ := h6.form; simp only [Value.slice.injEq] at e; omega
             obtain ⟨bt, ot, rfl, _⟩ := hr6.open (by omega)
             refine WC.region ?_
             refine WL.val rfl rfl rfl rfl (r_load rfl (ev_t rfl) flat_69 (Blk.cell h5 rfl)) ?_
             refine WL.val rfl rfl rfl rfl (r_load rfl (ev_t rfl) flat_69 (Blk.cell h5 rfl)) ?_
             refine WL.val rfl rfl rfl rfl (r_lenSlice (ts := #[]) rfl (ev_t rfl) elem_69) ?_
             first | refine WL.val rfl rfl rfl rfl (r_subN rfl (ev_t rfl) ev_c (by simp only [inK]; omega)) ?_ | refine WL.val rfl rfl rfl rfl (r_sub rfl (ev_t rfl) ev_c) ?_
             refine WL.val rfl rfl rfl rfl (r_indexAddr rfl (ev_t rfl) (ev_t rfl) elem_69 size_3 (by omega) (by omega)) ?_
             refine WL.val rfl rfl rfl rfl (r_load rfl (ev_t rfl) flat_3 (Rd.cell hr6 (j := T0.length) (u := I64 (a : Int)) (by omega) (by rw [List.getElem?_map]; simp))) ?_
             refine WL.cons (SO.alloc rfl rfl rfl rfl (r_alloc rfl zero_3) ?_)
             intro w12 hu12 hB12 hz12
             have hs12 := hu12.size
             replace hU := hU.trans hu12 (by first | exact (fun _ _ h => h) | exact (fun _ _ h => h.elim) | (intro k hl hk; (try simp only [At, New, Grow, From, No] at hk ⊢); omega) | (intro k hl hk; first | (have h1 := hk.1; omega) | ((try simp only [At, New, Grow, From, No] at *); omega)))
             replace hF3 := hF3.upd hu12 (by first | exact (fun h => h) | (simp only [At, No]; omega) | (exact fun h => by have h1 := h.1; omega))
             replace h5 := h5.upd hu12 (by first | exact (fun h => h) | (simp only [At, No]; omega))
             replace h6 := h6.upd hu12 (by first | exact (fun _ _ _ h => h) | (intro k hk hl hS; have := h9 k hk; simp only [At, No] at hS; omega))
             replace h1 := h1.upd hu12 (by first | exact (fun h => h) | (simp only [At, No]; omega))
             replace h2 := h2.upd hu12 (by first | exact (fun h => h) | (simp only [At, No]; omega))
             replace h3 := h3.upd hu12 (by first | exact (fun h => h) | (simp only [At, No]; omega))
             replace h4 := h4.upd hu12 (by first | exact (fun h => h) | (simp only [At, No]; omega))
             refine WL.cons (SO.store rfl (ev_t rfl) (ev_t rfl) size_3 hB12 rfl rfl rfl rfl rfl ?_)
             intro w13 hu13 hB12 hz13
             have hs13 := hu13.size
             replace hU := hU.trans hu13 (by first | exact (fun _ _ h => h) | exact (fun _ _ h => h.elim) | (intro k hl hk; (try simp only [At, New, Grow, From, No] at hk ⊢); omega) | (intro k hl hk; first | (have h1 := hk.1; omega) | ((try simp only [At, New, Grow, From, No] at *); omega)))
             replace hF3 := hF3.upd hu13 (by first | exact (fun h => h) | (simp only [At, No]; omega) | (exact fun h => by have h1 := h.1; omega))
             replace h5 := h5.upd hu13 (by first | exact (fun h => h) | (simp only [At, No]; omega))
             replace h6 := h6.upd hu13 (by first | exact (fun _ _ _ h => h) | (intro k hk hl hS; have := h9 k hk; simp only [At, No] at hS; omega))
             replace h1 := h1.upd hu13 (by first | exact (fun h => h) | (simp only [At, No]; omega))
             replace h2 := h2.upd hu13 (by first | exact (fun h => h) | (simp only [At, No]; omega))
             replace h3 := h3.upd hu13 (by first | exact (fun h => h) | (simp only [At, No]; omega))
             replace h4 := h4.upd hu13 (by first | exact (fun h => h) | (simp only [At, No]; omega))
             refine WL.nil ?_
             refine WX.keep [(1, _), (2, _), (3, _), (7, _), (8, _), (9, _), (10, _)] ⟨rfl, rfl, rfl, rfl, rfl, rfl, rfl, trivial⟩ ?_
             have hba : Blk w13 _ #[.int .i64 (a : Int)] 3 := hB12
             refine WX.next ?_
             refine WC.seq ?_
             refine WC.region ?_
             refine WL.val rfl rfl rfl rfl (r_load rfl (ev_t rfl) flat_69 (Blk.cell h5 rfl)) ?_
             refine WL.val rfl rfl rfl rfl (r_load rfl (ev_t rfl) flat_69 (Blk.cell h5 rfl)) ?_
             refine WL.val rfl rfl rfl rfl (r_lenSlice (ts := #[]) rfl (ev_t rfl) elem_69) ?_
             first | refine WL.val rfl rfl rfl rfl (r_subN rfl (ev_t rfl) ev_c (by simp only [inK]; omega)) ?_ | refine WL.val rfl rfl rfl rfl (r_sub rfl (ev_t rfl) ev_c) ?_
             refine WL.val rfl rfl rfl rfl (r_slice (l := 0) (h := T0.length) rfl (ev_t rfl) elem_69 size_3 bnd_none (bnd_some (ev_t rfl) (by omega)) (by omega) (by omega) (by omega)) ?_
             rw [cutA_zero, Nat.sub_zero, Nat.sub_zero]
             refine WL.cons (SO.store rfl (ev_t rfl) (ev_t rfl) size_69 h5 rfl rfl rfl rfl rfl ?_)
             intro w14 hu14 h5 hz9
             have hs14 := hu14.size
             replace hU := hU.trans hu14 (by first | exact (fun _ _ h => h) | exact (fun _ _ h => h.elim) | (intro k hl hk; (try simp only [At, New, Grow, From, No] at hk ⊢); omega) | (intro k hl hk; first | (have h1 := hk.1; omega) | ((try simp only [At, New, Grow, From, No] at *); omega)))
             replace hF3 := hF3.upd hu14 (by first | exact (fun h => h) | (simp only [At, No]; omega) | (exact fun h => by have h1 := h.1; omega))
             replace h6 := h6.upd hu14 (by first | exact (fun _ _ _ h => h) | (intro k hk hl hS; have := h9 k hk; simp only [At, No] at hS; omega))
             replace h1 := h1.upd hu14 (by first | exact (fun h => h) | (simp only [At, No]; omega))
             replace h2 := h2.upd hu14 (by first | exact (fun h => h) | (simp only [At, No]; omega))
             replace h3 := h3.upd hu14 (by first | exact (fun h => h) | (simp only [At, No]; omega))
             replace h4 := h4.upd hu14 (by first | exact (fun h => h) | (simp only [At, No]; omega))
             replace hba := hba.upd hu14 (by first | exact (fun h => h) | (simp only [At, No]; omega) | (exact fun h => by have h1 := h.1; have h2 := h.2; omega))
             refine WL.nil ?_
             refine WX.keep [(1, _), (2, _), (3, _), (7, _), (8, _), (9, _), (10, _)] ⟨rfl, rfl, rfl, rfl, rfl, rfl, rfl, trivial⟩ ?_
             have hoo := Own.shrink (m := T0.length) h6 (by omega)
             rw [show (List.map (fun (k : Nat) => I64 (k : Int)) (T0 ++ [a])).take (T0.length * 1) = T0.map fun (k : Nat) => I64 (k : Int) by rw [List.map_append, Nat.mul_one, List.take_left' (by simp)]] at hoo
             have hCk : CkS w14 (fun k => bF < k ∧ k < w'.heap.size) bD bR bT D R T0 := ⟨gD, gR, _, _, G, h1, h2, h3, h4, h5, hoo, h7, h8, h9⟩
             have hba0 := hba.lt
             obtain ⟨i, hi⟩ : ∃ i, F.code[a]? = some i := ⟨_, List.getElem?_eq_getElem (by omega)⟩
             have hio := hok i (List.mem_of_getElem? hi)
             have hcell := flatMap_get insC_len hi
             obtain ⟨bc, oc, rfl, _⟩ := hcode.open (by omega)
             refine WX.next ?_
             refine WC.seq ?_
             refine WC.draws' (fun u0_ u1_ => Upd No u0_ u1_) (fun j => [0, 0, 0, 0, 0, 0, 0, 0, 0, 0, 0, 0, 0, 1, 1, 0, 0].getD j 0) (.calm 0 (.held 1 (.held 2 (.calm 3 (.held 4 (.held 5 (.held 6 (.calm 7 (.held 8 (.held 9 (.held 10 (.calm 11 (.held 12 (.one 13 (.one 14 (.calm 15 (.calm 16 (.done)))))))))))))))))) mixed (by kernel_rfl) (by repeat (first | with_reducible exact Deaf.body | with_reducible apply Deaf.then | with_reducible apply Deaf.block)) ?_
             intro w15 hu15
             have hz15 := congrArg Array.size hu15.2.2.2
             replace hu15 := Upd.of_draw hu15
             have hs15 := hu15.size
             replace hU := hU.trans hu15 (by first | exact (fun _ _ h => h) | exact (fun _ _ h => h.elim) | (intro k hl hk; (try simp only [At, New, Grow, From, No] at hk ⊢); omega) | (intro k hl hk; first | (have h1 := hk.1; omega) | ((try simp only [At, New, Grow, From, No] at *); omega)))
             replace hF3 := hF3.upd hu15 (by first | exact (fun h => h) | (simp only [At, No]; omega) | (exact fun h => by have h1 := h.1; omega))
             replace h1 := h1.upd hu15 (by first | exact (fun h => h) | (simp only [At, No]; omega))
             replace h2 := h2.upd hu15 (by first | exact (fun h => h) | (simp only [At, No]; omega))
             replace h3 := h3.upd hu15 (by first | exact (fun h => h) | (simp only [At, No]; omega))
             replace h4 := h4.upd hu15 (by first | exact (fun h => h) | (simp only [At, No]; omega))
             replace hba := hba.upd hu15 (by first | exact (fun h => h) | (simp only [At, No]; omega) | (exact fun h => by have h1 := h.1; have h2 := h.2; omega))
             replace hCk := hCk.upd hu15 (by first | exact (fun _ _ _ h => h) | (intro k hk hl hS; simp only [At, No] at hk hS; omega))
             have hS10 := Upd.refl No w15
             first | refine WN.calm _ rfl rfl rfl rfl rfl (fun _ => r_field0 rfl (ev_t rfl) fld_42_1) ?_ | refine WN.calm _ rfl rfl rfl rfl rfl (fun _ => r_fieldAt rfl (ev_t rfl) fld_42_1) ?_
             refine WN.held _ rfl rfl rfl rfl rfl hS10 (fun w' hS => r_load rfl (ev_t rfl) flat_40 (Blk.cell (hF3.upd hS (fun h => h)) rfl)) ?_
             refine WN.held _ rfl rfl rfl rfl rfl hS10 (fun w' hS => r_load rfl (ev_t rfl) flat_3 (Blk.cell (hba.upd hS (fun h => h)) rfl)) ?_
             refine WN.calm _ rfl rfl rfl rfl rfl (fun _ => r_indexAddr rfl (ev_t rfl) (ev_t rfl) elem_40 size_44 (by omega) (by omega)) ?_
             refine WN.held _ rfl rfl rfl rfl rfl hS10 (fun w' hS => r_loadAgg (vs := [_, _, _, _]) rfl (ev_t rfl) agg_44 size_44 (Rd.cellsL (us := insC i) ((hcode.upd hU (fun _ _ _ h => h)).upd hS (fun _ _ _ h => h)) (i := a * 4) (by omega) hcell)) ?_
             refine WN.held _ rfl rfl rfl rfl rfl hS10 (fun w' hS => r_load rfl (ev_t rfl) flat_69 (Blk.cell (h1.upd hS (fun h => h)) rfl)) ?_
             refine WN.held _ rfl rfl rfl rfl rfl hS10 (fun w' hS => r_load rfl (ev_t rfl) flat_3 (Blk.cell (hba.upd hS (fun h => h)) rfl)) ?_
             refine WN.calm _ rfl rfl rfl rfl rfl (fun _ => r_indexAddr rfl (ev_t rfl) (ev_t rfl) elem_69 size_3 (by omega) (by omega)) ?_
             refine WN.held _ rfl rfl rfl rfl rfl hS10 (fun w' hS => r_load rfl (ev_t rfl) flat_3 (Blk.cell (h2.upd hS (fun h => h)) (by rw [show 0 + ((a : Nat) : Int).toNat * 1 = a by omega, List.getElem?_toArray]; exact getI (by omega)))) ?_
             refine WN.held _ rfl rfl rfl rfl rfl hS10 (fun w' hS => r_load rfl (ev_t rfl) flat_69 (Blk.cell (h3.upd hS (fun h => h)) rfl)) ?_
             refine WN.held _ rfl rfl rfl rfl rfl hS10 (fun w' hS => r_load rfl (ev_t rfl) flat_3 (Blk.cell (hba.upd hS (fun h => h)) rfl)) ?_
             refine WN.calm _ rfl rfl rfl rfl rfl (fun _ => r_indexAddr rfl (ev_t rfl) (ev_t rfl) elem_69 size_3 (by omega) (by omega)) ?_
             refine WN.held _ rfl rfl rfl rfl rfl hS10 (fun w' hS => r_load rfl (ev_t rfl) flat_3 (Blk.cell (h4.upd hS (fun h => h)) (by rw [show 0 + ((a : Nat) : Int).toNat * 1 = a by omega, List.getElem?_toArray]; exact getI (by omega)))) ?_
             refine WN.step _ rfl (SO.alloc rfl rfl rfl rfl (r_alloc rfl zero_44) ?_)
             intro w16 hu16 hB16 hz16
             have hs16 := hu16.size
             replace hS10 := Upd.transA hS10 hu16
             replace hU := hU.trans hu16 (by first | exact (fun _ _ h => h) | exact (fun _ _ h => h.elim) | (intro k hl hk; (try simp only [At, New, Grow, From, No] at hk ⊢); omega) | (intro k hl hk; first | (have h1 := hk.1; omega) | ((try simp only [At, New, Grow, From, No] at *); omega)))
             replace hF3 := hF3.upd hu16 (by first | exact (fun h => h) | (simp only [At, No]; omega) | (exact fun h => by have h1 := h.1; omega))
             replace h1 := h1.upd hu16 (by first | exact (fun h => h) | (simp only [At, No]; omega))
             replace h2 := h2.upd hu16 (by first | exact (fun h => h) | (simp only [At, No]; omega))
             replace h3 := h3.upd hu16 (by first | exact (fun h => h) | (simp only [At, No]; omega))
             replace h4 := h4.upd hu16 (by first | exact (fun h => h) | (simp only [At, No]; omega))
             replace hba := hba.upd hu16 (by first | exact (fun h => h) | (simp only [At, No]; omega) | (exact fun h => by have h1 := h.1; have h2 := h.2; omega))
             replace hCk := hCk.upd hu16 (by first | exact (fun _ _ _ h => h) | (intro k hk hl hS; simp only [At, No] at hk hS; omega))
             refine ⟨hS10, ?_⟩
             refine WN.step _ rfl (SO.storeAll (us := [_, _, _, _]) rfl (ev_t rfl) (ev_t rfl) size_44 hB16 rfl rfl rfl rfl rfl ?_)
             intro w17 hu17 hB16 hz17
             have hs17 := hu17.size
             replace hS10 := Upd.transA hS10 hu17
             replace hU := hU.trans hu17 (by first | exact (fun _ _ h => h) | exact (fun _ _ h => h.elim) | (intro k hl hk; (try simp only [At, New, Grow, From, No] at hk ⊢); omega) | (intro k hl hk; first | (have h1 := hk.1; omega) | ((try simp only [At, New, Grow, From, No] at *); omega)))
             replace hF3 := hF3.upd hu17 (by first | exact (fun h => h) | (simp only [At, No]; omega) | (exact fun h => by have h1 := h.1; omega))
             replace h1 := h1.upd hu17 (by first | exact (fun h => h) | (simp only [At, No]; omega))
             replace h2 := h2.upd hu17 (by first | exact (fun h => h) | (simp only [At, No]; omega))
             replace h3 := h3.upd hu17 (by first | exact (fun h => h) | (simp only [At, No]; omega))
             replace h4 := h4.upd hu17 (by first | exact (fun h => h) | (simp only [At, No]; omega))
             replace hba := hba.upd hu17 (by first | exact (fun h => h) | (simp only [At, No]; omega) | (exact fun h => by have h1 := h.1; have h2 := h.2; omega))
             replace hCk := hCk.upd hu17 (by first | exact (fun _ _ _ h => h) | (intro k hk hl hS; simp only [At, No] at hk hS; omega))
             refine ⟨hS10, ?_⟩
             refine WN.calm _ rfl rfl rfl rfl rfl (fun _ => r_assign rfl (ev_t rfl)) ?_
             refine WN.calm _ rfl rfl rfl rfl rfl (fun _ => r_assign rfl (ev_t rfl)) ?_
             refine WN.done ?_
             refine WX.keep [(1, _), (2, _), (3, _), (7, _), (8, _), (9, _), (10, _), (11, _), (12, _), (13, _)] ⟨rfl, rfl, rfl, rfl, rfl, rfl, rfl, rfl, rfl, rfl, trivial⟩ ?_
             have hbi : Blk w17 _ (insC i).toArray 44 := hB16
             have hbil := hbi.lt
             obtain ⟨bi, hbie⟩ : ∃ bi, bi = w15.heap.size := ⟨_, rfl⟩
             obtain ⟨ba, hbae⟩ : ∃ ba, ba = w'.heap.size := ⟨_, rfl⟩
             rw [← hbie] at hbi ⊢
             rw [← hbae] at hba ⊢
             obtain ⟨d0, hd0⟩ : ∃ d0, D.getD a 0 = d0 := ⟨_, rfl⟩
             obtain ⟨t0, ht0⟩ : ∃ t0, R.getD a 0 = t0 := ⟨_, rfl⟩
             have hKd : inK .i64 d0 := hd0 ▸ hKD a
             have hKt : inK .i64 t0 := ht0 ▸ hKR a
             rw [hd0, ht0]
             have hnew : bF < ba ∧ bF < bi ∧ ba < bi ∧ bi < w17.heap.size := by omega
             have hIp : PosAll all → InvD F all globs (fun k => k = a) D R T0 ∧ d0 ≠ 0 ∧ 1 ≤ d0 ∧ d0 ≤ (a : Int) + 1 ∧ 0 ≤ t0 ∧ t0 ≤ a := fun hp => by
               have h0 := hI hp
               have h01 := (h0.td a (by simp)).2
               have h02 := h0.bd a h01
               rw [hd0] at h01 h02
               rw [ht0] at h02
               exact ⟨inv_pop h0, h01, h02⟩
             clear h1 h2 h3 h4
             refine WX.next ?_
             refine WC.seq ?_
             refine WC.seq ?_
             refine WC.region ?_
             refine WL.val rfl rfl rfl rfl (r_loadAgg (vs := [_, _]) rfl (ev_t rfl) agg_42 size_42 (Blk.cellsL hF3)) ?_
             refine WL.val rfl rfl rfl rfl (r_loadAgg (vs := [_, _, _, _]) rfl (ev_t rfl) agg_44 size_44 (Blk.cellsL hbi)) ?_
             refine WL.val rfl rfl rfl rfl (r_move rfl (ev_t rfl)) ?_
             refine WL.val rfl rfl rfl rfl (r_move rfl (ev_t rfl)) ?_
             refine WL.val rfl rfl rfl rfl (r_move rfl (ev_t rfl)) ?_
             refine WL.val rfl rfl rfl rfl (r_move rfl (ev_t rfl)) ?_
             refine WL.cons (SO.call (fine_ok (F := F) (i := i) (all := all) (hTk.upd hU) (hall.upd hU (fun _ _ _ h => h)) hio hKd hKt hF) rfl body_35 ⟨(ev_t rfl), (ev_t rfl), (ev_t rfl), (ev_t rfl), (ev_t rfl), (ev_t rfl), trivial⟩ rfl rfl rfl rfl ?_)
             rintro v w18 ⟨⟨bf, rfl, hbf1, hbf2⟩, hu18⟩
             have hs18 := hu18.size
             replace hU := hU.trans hu18 (by first | exact (fun _ _ h => h) | exact (fun _ _ h => h.elim) | (intro k hl hk; (try simp only [At, New, Grow, From, No] at hk ⊢); omega) | (intro k hl hk; first | (have h1 := hk.1; omega) | ((try simp only [At, New, Grow, From, No] at *); omega)))
             replace hF3 := hF3.upd hu18 (by first | exact (fun h => h) | (simp only [At, No]; omega) | (exact fun h => by have h1 := h.1; omega))
             replace hba := hba.upd hu18 (by first | exact (fun h => h) | (simp only [At, No]; omega) | (exact fun h => by have h1 := h.1; have h2 := h.2; omega))
             replace hCk := hCk.upd hu18 (by first | exact (fun _ _ _ h => h) | (intro k hk hl hS; simp only [At, No] at hk hS; omega))
             replace hbi := hbi.upd hu18 (by first | exact (fun h => h) | (simp only [At, No]; omega) | (exact fun h => by have h1 := h.1; have h2 := h.2; omega))
             refine WL.val rfl rfl rfl rfl (r_not rfl (ev_t rfl)) ?_
             refine WL.nil ?_
             refine WX.keep [(1, _), (2, _), (3, _), (7, _), (8, _), (9, _), (10, _), (11, _), (12, _), (13, _), (72, _)] ⟨rfl, rfl, rfl, rfl, rfl, rfl, rfl, rfl, rfl, rfl, rfl, trivial⟩ ?_
             refine WX.next ?_
             refine WC.cond rfl (ev_t rfl) (fun hc11 => ?_) (fun hc11 => ?_)
             · try (exfalso; first | (simp at hc11; done) | (simp only [decide_eq_true_eq, decide_eq_false_iff_not, Bool.not_eq_true', Bool.not_eq_false', Bool.not_eq_true, Bool.not_eq_false] at hc11; omega) | omega)
               all_goals
                try simp only [decide_eq_true_eq, decide_eq_false_iff_not, Bool.not_eq_true', Bool.not_eq_false', Bool.not_eq_true, Bool.not_eq_false, Option.isNone_none, Option.isNone_some, Option.isSome_none, Option.isSome_some, ne_eq, Decidable.not_not] at hc11
                refine WC.seq ?_
                refine WC.region ?_
                refine WL.val rfl rfl rfl rfl (r_assign rfl ev_c) ?_
                refine WL.nil ?_
                refine WX.keep [(6, _)] ⟨rfl, trivial⟩ ?_
                refine WX.next ?_
                refine WC.ret ?_
                refine WX.thenRet ?_
                refine WX.blockRet ?_
                refine WX.thenRet ?_
                refine WX.blockRet ?_
                refine WX.thenRet ?_
                refine WX.retE1 rfl rfl ?_
                refine ⟨⟨false, rfl, fun _ => rfl, fun hp _ => ⟨(fun h => by cases h), fun hg => ?_⟩⟩, hU⟩
                obtain ⟨i1, i2, i3, _⟩ := hIp hp
                have h9 := hbf2 i3
                rw [hc11] at h9
                exact absurd hg (fine_bad i1 (by rw [hd0]; exact i2) hi (by rw [hd0, ht0]; exact h9.symm))
             · try (exfalso; first | (simp at hc11; done) | (simp only [decide_eq_true_eq, decide_eq_false_iff_not, Bool.not_eq_true', Bool.not_eq_false', Bool.not_eq_true, Bool.not_eq_false] at hc11; omega) | omega)
               all_goals
                try simp only [decide_eq_true_eq, decide_eq_false_iff_not, Bool.not_eq_true', Bool.not_eq_false', Bool.not_eq_true, Bool.not_eq_false, Option.isNone_none, Option.isNone_some, Option.isSome_none, Option.isSome_some, ne_eq, Decidable.not_not] at hc11
                subst hc11
                have hop := hbf1 rfl
                refine WC.skip ?_
                refine WX.next ?_
                refine WC.seq ?_
                refine WC.region ?_
                refine WL.val rfl rfl rfl rfl (r_loadAgg (vs := [_, _, _, _]) rfl (ev_t rfl) agg_44 size_44 (Blk.cellsL hbi)) ?_
                refine WL.val rfl rfl rfl rfl (r_move rfl (ev_t rfl)) ?_
                refine WL.val rfl rfl rfl rfl (r_move rfl (ev_t rfl)) ?_
                refine WL.cons (SO.call (after_ok (hTk.upd hU) hio hop hKd hKt) rfl body_36 ⟨(ev_t rfl), (ev_t rfl), (ev_t rfl), trivial⟩ rfl rfl rfl rfl ?_)
                rintro v w19 ⟨⟨d1, t1, rfl, hd1, ht1, hdq, htq⟩, hu19⟩
                have hs19 := hu19.size
                replace hU := hU.trans hu19 (by first | exact (fun _ _ h => h) | exact (fun _ _ h => h.elim) | (intro k hl hk; (try simp only [At, New, Grow, From, No] at hk ⊢); omega) | (intro k hl hk; first | (have h1 := hk.1; omega) | ((try simp only [At, New, Grow, From, No] at *); omega)))
                replace hF3 := hF3.upd hu19 (by first | exact (fun h => h) | (simp only [At, No]; omega) | (exact fun h => by have h1 := h.1; omega))
                replace hba := hba.upd hu19 (by first | exact (fun h => h) | (simp only [At, No]; omega) | (exact fun h => by have h1 := h.1; have h2 := h.2; omega))
                replace hCk := hCk.upd hu19 (by first | exact (fun _ _ _ h => h) | (intro k hk hl hS; simp only [At, No] at hk hS; omega))
                replace hbi := hbi.upd hu19 (by first | exact (fun h => h) | (simp only [At, No]; omega) | (exact fun h => by have h1 := h.1; have h2 := h.2; omega))
                have hIq : PosAll all → InvD F all globs (fun k => k = a) D R T0 ∧ D.getD a 0 ≠ 0 ∧ fineB F i (D.getD a 0) (R.getD a 0) all globs = true ∧ d1 = d0 - nnI i + lvT i.op ∧ t1 = t0 + dtI i := fun hp => by
                  obtain ⟨i1, i2, i3, i4, i5, i6⟩ := hIp hp
                  have h9 := (hbf2 i3).symm
                  obtain ⟨h10, h11⟩ := fine_takes h9 hp i3
                  exact ⟨i1, by rw [hd0]; exact i2, by rw [hd0, ht0]; exact h9, hdq h10 (by omega) (by omega), htq (by omega) (by omega)⟩
                refine WL.val rfl rfl rfl rfl (r_move rfl (ev_t rfl)) ?_
                refine WL.val rfl rfl rfl rfl (r_extract rfl (ev_t rfl) rfl) ?_
                refine WL.val rfl rfl rfl rfl (r_extract rfl (ev_t rfl) rfl) ?_
                refine WL.val rfl rfl rfl rfl (r_extract rfl (ev_t rfl) rfl) ?_
                refine WL.val rfl rfl rfl rfl (r_assign rfl (ev_t rfl)) ?_
                refine WL.val rfl rfl rfl rfl (r_assign rfl (ev_t rfl)) ?_
                refine WL.val rfl rfl rfl rfl (r_assign rfl (ev_t rfl)) ?_
                refine WL.nil ?_
                refine WX.keep [(1, _), (2, _), (3, _), (7, _), (8, _), (9, _), (10, _), (11, _), (12, _), (13, _), (14, _), (15, _), (16, _)] ⟨rfl, rfl, rfl, rfl, rfl, rfl, rfl, rfl, rfl, rfl, rfl, rfl, rfl, trivial⟩ ?_
                refine WX.next ?_
                refine WC.seq ?_
                refine WC.region ?_
                refine WL.val rfl rfl rfl rfl (r_makeFunc (vs := []) (us := [_, _, _, _, _]) rfl trivial ⟨(ev_t rfl), (ev_t rfl), (ev_t rfl), (ev_t rfl), (ev_t rfl), trivial⟩) ?_
                refine WL.val rfl rfl rfl rfl (r_assign rfl (ev_t rfl)) ?_
                refine WL.nil ?_
                refine WX.keep [(1, _), (2, _), (3, _), (7, _), (8, _), (9, _), (10, _), (11, _), (12, _), (13, _), (14, _), (15, _), (16, _), (17, _)] ⟨rfl, rfl, rfl, rfl, rfl, rfl, rfl, rfl, rfl, rfl, rfl, rfl, rfl, rfl, trivial⟩ ?_
                refine WX.next ?_
                -- cut 15: live [1, 2, 3, 7, 8, 9, 11, 12, 13, 15, 16, 17]
                refine WC.cut (fun E w9 => ∃ (D1 R1 : List Int) (T1 : List Nat), Upd No w w9 ∧ bi < w9.heap.size ∧ CkS w9 (fun k => bF < k ∧ k ≠ ba ∧ k ≠ bi ∧ k < w9.heap.size) bD bR bT D1 R1 T1 ∧ Blk w9 bF #[.int .i64 F.caps, .slice (some ⟨bc, oc, none⟩) n c] 42 ∧ Blk w9 ba #[.int .i64 (a : Int)] 3 ∧ Blk w9 bi (insC i).toArray 44 ∧ D1.length = n ∧ R1.length = n ∧ (∀ k ∈ T1, k < n) ∧ Stk T1 ∧ T1.length ≤ T0.length + 1 ∧ 3 * wtT n T1 ≤ 3 * wtT n T0 + 3 ^ (n - a) ∧ (∀ k, inK .i64 (D1.getD k 0)) ∧ (∀ k, inK .i64 (R1.getD k 0)) ∧   (PosAll all → InvD F all globs (fun k => k = a) D1 R1 T1 ∧ D1.getD a 0 = d0 ∧ R1.getD a 0 = t0 ∧ (nextB i = true → a + 1 < n ∧ D1.getD (a + 1) 0 = d1 ∧ R1.getD (a + 1) 0 = t1)) ∧   E = [(1, allv), (2, .int .i64 globs), (3, .pointer (some ⟨bF, 0, none⟩)), (7, .pointer (some ⟨bD, 0, none⟩)), (8, .pointer (some ⟨bR, 0, none⟩)), (9, .pointer (some ⟨bT, 0, none⟩)), (11, .pointer (some ⟨bi, 0, none⟩)), (12, .int .i64 d0), (13, .int .i64 t0), (15, .int .i64 d1), (16, .int .i64 t1),     (17, .func (.func 37) #[] #[.pointer (some ⟨ba, 0, none⟩), .pointer (some ⟨bF, 0, none⟩), .pointer (some ⟨bD, 0, none⟩), .pointer (some ⟨bR, 0, none⟩), .pointer (some ⟨bT, 0, none⟩)])]) ?_ ?_
                · refine WC.seq ?_
                  refine WC.region ?_
                  refine WL.val rfl rfl rfl rfl (r_move rfl (ev_t rfl)) ?_
                  refine WL.val rfl rfl rfl rfl (r_move rfl (ev_t rfl)) ?_
                  refine WL.cases 83 rfl (fun hb15_1 => ?_) (fun hb15_1 => ?_)
                  · try (exfalso; first | (simp at hb15_1; done) | (simp only [decide_eq_true_eq, decide_eq_false_iff_not, Bool.not_eq_true', Bool.not_eq_false', Bool.not_eq_true, Bool.not_eq_false] at hb15_1; omega) | omega)
                    all_goals
                     try simp only [decide_eq_true_eq, decide_eq_false_iff_not, Bool.not_eq_true', Bool.not_eq_false', Bool.not_eq_true, Bool.not_eq_false, Option.isNone_none, Option.isNone_some, Option.isSome_none, Option.isSome_some, ne_eq, Decidable.not_not] at hb15_1
                     obtain ⟨b1, D1, R1, T1, he1⟩ : ∃ b1 D1 R1 T1, reachP n a ((a : Int) + 1) d1 t1 D R T0 = (b1, D1, R1, T1) := ⟨_, _, _, _, rfl⟩
                     obtain ⟨q1, q2, q3, q4⟩ := wt_reach (by omega) he1
                     obtain ⟨q5, q6⟩ := hSt0.reach (by omega) he1
                     obtain ⟨q7, q8⟩ := inK_reach hDl hRl hKD hKR hd1 ht1 he1
                     refine WL.val rfl rfl rfl rfl (r_move rfl (ev_t rfl)) ?_
                     refine WL.val rfl rfl rfl rfl (r_load rfl (ev_t rfl) flat_3 (Blk.cell hba rfl)) ?_
                     first | refine WL.val rfl rfl rfl rfl (r_addN rfl (ev_t rfl) ev_c (by simp only [inK]; omega)) ?_ | refine WL.val rfl rfl rfl rfl (r_add rfl (ev_t rfl) ev_c) ?_
                     refine WL.val rfl rfl rfl rfl (r_move rfl (ev_t rfl)) ?_
                     refine WL.val rfl rfl rfl rfl (r_move rfl (ev_t rfl)) ?_
                     refine WL.cons (SO.callV (vs := [_, _, _]) rfl (ev_t rfl) body_37 ⟨(ev_t rfl), (ev_t rfl), (ev_t rfl), trivial⟩ rfl (reach_ok hCk hba hF3 (fun h => by have := h.2; omega) (fun h => by have := h.1; omega) hDl hRl (by omega) he1) rfl rfl rfl rfl ?_)
                     rintro v w20 ⟨rfl, hCk, hu20⟩
                     have hps := hu20.size
                     have hs20 := hu20.size
                     replace hU := hU.trans hu20 (by first | exact (fun _ _ h => h) | exact (fun _ _ h => h.elim) | (intro k hl hk; (try simp only [At, New, Grow, From, No] at hk ⊢); omega) | (intro k hl hk; first | (have h1 := hk.1; omega) | ((try simp only [At, New, Grow, From, No] at *); omega)))
                     replace hF3 := hF3.upd hu20 (by first | exact (fun h => h) | (simp only [At, No]; omega) | (exact fun h => by have h1 := h.1; omega))
                     replace hba := hba.upd hu20 (by first | exact (fun h => h) | (simp only [At, No]; omega) | (exact fun h => by have h1 := h.1; have h2 := h.2; omega))
                     replace hbi := hbi.upd hu20 (by first | exact (fun h => h) | (simp only [At, No]; omega) | (exact fun h => by have h1 := h.1; have h2 := h.2; omega))
                     refine WL.val rfl rfl rfl rfl (r_not rfl (ev_t rfl)) ?_
                     refine WL.val rfl rfl rfl rfl (r_pickT rfl (ev_t rfl) (ev_t rfl)) ?_
                     refine WL.nil ?_
                     refine WX.keep [(1, _), (2, _), (3, _), (7, _), (8, _), (9, _), (11, _), (12, _), (13, _), (15, _), (16, _), (17, _), (91, _)] ⟨rfl, rfl, rfl, rfl, rfl, rfl, rfl, rfl, rfl, rfl, rfl, rfl, rfl, trivial⟩ ?_
                     refine WX.next ?_
                     refine WC.cond rfl (ev_t rfl) (fun hc15 => ?_) (fun hc15 => ?_)
                     · try (exfalso; first | (simp at hc15; done) | (simp only [decide_eq_true_eq, decide_eq_false_iff_not, Bool.not_eq_true', Bool.not_eq_false', Bool.not_eq_true, Bool.not_eq_false] at hc15; omega) | omega)
                       all_goals
                        try simp only [decide_eq_true_eq, decide_eq_false_iff_not, Bool.not_eq_true', Bool.not_eq_false', Bool.not_eq_true, Bool.not_eq_false, Option.isNone_none, Option.isNone_some, Option.isSome_none, Option.isSome_some, ne_eq, Decidable.not_not] at hc15
                        refine WC.seq ?_
                        refine WC.region ?_
                        refine WL.val rfl rfl rfl rfl (r_assign rfl ev_c) ?_
                        refine WL.nil ?_
                        refine WX.keep [(6, _)] ⟨rfl, trivial⟩ ?_
                        refine WX.next ?_
                        refine WC.ret ?_
                        refine WX.thenRet ?_
                        refine WX.blockRet ?_
                        refine WX.thenRet ?_
                        refine WX.blockRet ?_
                        refine WX.thenRet ?_
                        refine WX.retE1 rfl rfl ?_
                        refine ⟨⟨false, rfl, fun _ => rfl, fun hp _ => ⟨(fun h => by cases h), fun hg => ?_⟩⟩, hU⟩
                        obtain ⟨i1, i2, i3, i4, i5⟩ := hIq hp
                        have hmem : ((a : Int) + 1, d1, t1) ∈ succsI i a (D.getD a 0) (R.getD a 0) := by
                          rw [hd0, ht0, i4, i5]
                          exact List.mem_append.2 (.inl (by rw [if_pos (by assumption)]; simp))
                        exact absurd hg ((reach_inv i1 i2 hi i3 hp hmem (by rw [hn]; exact he1)).1 hc15)
                     · try (exfalso; first | (simp at hc15; done) | (simp only [decide_eq_true_eq, decide_eq_false_iff_not, Bool.not_eq_true', Bool.not_eq_false', Bool.not_eq_true, Bool.not_eq_false] at hc15; omega) | omega)
                       all_goals
                        try simp only [decide_eq_true_eq, decide_eq_false_iff_not, Bool.not_eq_true', Bool.not_eq_false', Bool.not_eq_true, Bool.not_eq_false, Option.isNone_none, Option.isNone_some, Option.isSome_none, Option.isSome_some, ne_eq, Decidable.not_not] at hc15
                        refine WC.skip ?_
                        refine WX.meet [(1, _), (2, _), (3, _), (7, _), (8, _), (9, _), (11, _), (12, _), (13, _), (15, _), (16, _), (17, _)] ⟨rfl, rfl, rfl, rfl, rfl, rfl, rfl, rfl, rfl, rfl, rfl, rfl, trivial⟩ ?_
                        first
                          | refine ⟨D1, R1, T1, hU, by omega, hCk.mono (fun k hk => ?_), hF3, hba, hbi, by omega, by omega, (fun k hk => (q4 k hk).elim (fun h => hTn k (by simp [h])) (fun h => h.2)), q5, q6, q1, q7, q8, fun hp => ?_, rfl⟩
                            · rcases hk with hk | hk
                              · have h1 := hk.1; have h2 := hk.2; exact ⟨h1, by omega, by omega, by omega⟩
                              · exact ⟨by omega, by omega, by omega, hk.2⟩
                            · obtain ⟨i1, i2, i3, i4, i5⟩ := hIq hp
                              have hmem : ((a : Int) + 1, d1, t1) ∈ succsI i a (D.getD a 0) (R.getD a 0) := by
                                rw [hd0, ht0, i4, i5]
                                exact List.mem_append.2 (.inl (by rw [if_pos (by assumption)]; simp))
                              obtain ⟨j1, j2, j3, j4, j5, j6⟩ := (reach_inv i1 i2 hi i3 hp hmem (by rw [hn]; exact he1)).2 hc15
                              rw [show ((a : Int) + 1).toNat = a + 1 by omega] at j4 j5
                              exact ⟨j1, by rw [(j6 a i2).1]; exact hd0, by rw [(j6 a i2).2]; exact ht0, fun _ => ⟨by omega, j4, j5⟩⟩
                          | exact ⟨D, R, T0, hU, by omega, hCk.mono (fun k hk => by have h1 := hk.1; have h2 := hk.2; exact ⟨h1, by omega, by omega, by omega⟩), hF3, hba, hbi, hDl, hRl, (fun k hk => hTn k (by simp [hk])), hSt0, by omega, Nat.le_add_right _ _, hKD, hKR, (fun hp => ⟨(hIq hp).1, hd0, ht0, fun h => by simp_all⟩), rfl⟩
                  · try (exfalso; first | (simp at hb15_1; done) | (simp only [decide_eq_true_eq, decide_eq_false_iff_not, Bool.not_eq_true', Bool.not_eq_false', Bool.not_eq_true, Bool.not_eq_false] at hb15_1; omega) | omega)
                    all_goals
                     try simp only [decide_eq_true_eq, decide_eq_false_iff_not, Bool.not_eq_true', Bool.not_eq_false', Bool.not_eq_true, Bool.not_eq_false, Option.isNone_none, Option.isNone_some, Option.isSome_none, Option.isSome_some, ne_eq, Decidable.not_not] at hb15_1
                     refine WL.skip rfl rfl rfl ?_
                     refine WL.skip rfl rfl rfl ?_
                     refine WL.skip rfl rfl rfl ?_
                     refine WL.skip rfl rfl rfl ?_
                     refine WL.skip rfl rfl rfl ?_
                     refine WL.skip rfl rfl rfl ?_
                     refine WL.skip rfl rfl rfl ?_
                     refine WL.val rfl rfl rfl rfl (r_pickF rfl (ev_t rfl) ev_c) ?_
                     refine WL.nil ?_
                     refine WX.keep [(1, _), (2, _), (3, _), (7, _), (8, _), (9, _), (11, _), (12, _), (13, _), (15, _), (16, _), (17, _), (91, _)] ⟨rfl, rfl, rfl, rfl, rfl, rfl, rfl, rfl, rfl, rfl, rfl, rfl, rfl, trivial⟩ ?_
                     refine WX.next ?_
                     refine WC.cond_false rfl (ev_t rfl) ?_
                     refine WC.skip ?_
                     refine WX.meet [(1, _), (2, _), (3, _), (7, _), (8, _), (9, _), (11, _), (12, _), (13, _), (15, _), (16, _), (17, _)] ⟨rfl, rfl, rfl, rfl, rfl, rfl, rfl, rfl, rfl, rfl, rfl, rfl, trivial⟩ ?_
                     first
                       | refine ⟨D1, R1, T1, hU, by omega, hCk.mono (fun k hk => ?_), hF3, hba, hbi, by omega, by omega, (fun k hk => (q4 k hk).elim (fun h => hTn k (by simp [h])) (fun h => h.2)), q5, q6, q1, q7, q8, fun hp => ?_, rfl⟩
                         · rcases hk with hk | hk
                           · have h1 := hk.1; have h2 := hk.2; exact ⟨h1, by omega, by omega, by omega⟩
                           · exact ⟨by omega, by omega, by omega, hk.2⟩
                         · obtain ⟨i1, i2, i3, i4, i5⟩ := hIq hp
                           have hmem : ((a : Int) + 1, d1, t1) ∈ succsI i a (D.getD a 0) (R.getD a 0) := by
                             rw [hd0, ht0, i4, i5]
                             exact List.mem_append.2 (.inl (by rw [if_pos (by assumption)]; simp))
                           obtain ⟨j1, j2, j3, j4, j5, j6⟩ := (reach_inv i1 i2 hi i3 hp hmem (by rw [hn]; exact he1)).2 hc15
                           rw [show ((a : Int) + 1).toNat = a + 1 by omega] at j4 j5
                           exact ⟨j1, by rw [(j6 a i2).1]; exact hd0, by rw [(j6 a i2).2]; exact ht0, fun _ => ⟨by omega, j4, j5⟩⟩
                       | exact ⟨D, R, T0, hU, by omega, hCk.mono (fun k hk => by have h1 := hk.1; have h2 := hk.2; exact ⟨h1, by omega, by omega, by omega⟩), hF3, hba, hbi, hDl, hRl, (fun k hk => hTn k (by simp [hk])), hSt0, by omega, Nat.le_add_right _ _, hKD, hKR, (fun hp => ⟨(hIq hp).1, hd0, ht0, fun h => by simp_all⟩), rfl⟩
                · rintro E w9 ⟨D1, R1, T1, hU, hw9, hCk, hF3, hba, hbi, hD1, hR1, hT1, hSt1, hTl1, hwt1, hKD1, hKR1, hI1, rfl⟩
                  refine WC.seq ?_
                  refine WC.region ?_
                  first | refine WL.val rfl rfl rfl rfl (r_field0 rfl (ev_t rfl) fld_44_0) ?_ | refine WL.val rfl rfl rfl rfl (r_fieldAt rfl (ev_t rfl) fld_44_0) ?_
                  refine WL.val rfl rfl rfl rfl (r_load rfl (ev_t rfl) flat_5 (Blk.cell hbi rfl)) ?_
                  refine WL.nil ?_
                  refine WX.keep [(1, _), (2, _), (3, _), (7, _), (8, _), (9, _), (11, _), (12, _), (13, _), (15, _), (16, _), (17, _), (93, _)] ⟨rfl, rfl, rfl, rfl, rfl, rfl, rfl, rfl, rfl, rfl, rfl, rfl, rfl, trivial⟩ ?_
                  refine WX.next ?_
                  refine WC.block ?_
                  refine WC.seq ?_
                  refine WC.seq ?_
                  refine WC.region ?_
                  refine WL.val rfl rfl rfl rfl (r_eql rfl (ev_t rfl) ev_c) ?_
                  refine WL.val rfl rfl rfl rfl (r_assign rfl (ev_t rfl)) ?_
                  refine WL.nil ?_
                  refine WX.keep [(1, _), (2, _), (3, _), (7, _), (8, _), (9, _), (11, _), (12, _), (13, _), (15, _), (16, _), (17, _), (93, _), (94, _)] ⟨rfl, rfl, rfl, rfl, rfl, rfl, rfl, rfl, rfl, rfl, rfl, rfl, rfl, rfl, trivial⟩ ?_
                  refine WX.next ?_
                  refine WC.cond rfl (ev_t rfl) (fun hc18 => ?_) (fun hc18 => ?_)
                  · try (exfalso; first | (simp at hc18; done) | (simp only [decide_eq_true_eq, decide_eq_false_iff_not, Bool.not_eq_true', Bool.not_eq_false', Bool.not_eq_true, Bool.not_eq_false] at hc18; omega) | omega)
                    all_goals
                     try simp only [decide_eq_true_eq, decide_eq_false_iff_not, Bool.not_eq_true', Bool.not_eq_false', Bool.not_eq_true, Bool.not_eq_false, Option.isNone_none, Option.isNone_some, Option.isSome_none, Option.isSome_some, ne_eq, Decidable.not_not] at hc18
                     refine WC.skip ?_
                     refine WX.next ?_
                     refine WC.cond rfl (ev_t rfl) (fun hc18 => ?_) (fun hc18 => ?_)
                     · try (exfalso; first | (simp at hc18; done) | (simp only [decide_eq_true_eq, decide_eq_false_iff_not, Bool.not_eq_true', Bool.not_eq_false', Bool.not_eq_true, Bool.not_eq_false] at hc18; omega) | omega)
                       all_goals
                        try simp only [decide_eq_true_eq, decide_eq_false_iff_not, Bool.not_eq_true', Bool.not_eq_false', Bool.not_eq_true, Bool.not_eq_false, Option.isNone_none, Option.isNone_some, Option.isSome_none, Option.isSome_some, ne_eq, Decidable.not_not] at hc18
                        refine WC.seq ?_
                        refine WC.region ?_
                        first | refine WL.val rfl rfl rfl rfl (r_field0 rfl (ev_t rfl) fld_44_1) ?_ | refine WL.val rfl rfl rfl rfl (r_fieldAt rfl (ev_t rfl) fld_44_1) ?_
                        refine WL.val rfl rfl rfl rfl (r_load rfl (ev_t rfl) flat_2 (Blk.cell hbi rfl)) ?_
                        first | refine WL.val rfl rfl rfl rfl (r_field0 rfl (ev_t rfl) fld_42_1) ?_ | refine WL.val rfl rfl rfl rfl (r_fieldAt rfl (ev_t rfl) fld_42_1) ?_
                        refine WL.val rfl rfl rfl rfl (r_load rfl (ev_t rfl) flat_40 (Blk.cell hF3 rfl)) ?_
                        refine WL.val rfl rfl rfl rfl (r_lenSlice (ts := #[]) rfl (ev_t rfl) elem_40) ?_
                        refine WL.val rfl rfl rfl rfl (r_geq rfl (ev_t rfl) (ev_t rfl)) ?_
                        refine WL.val rfl rfl rfl rfl (r_move rfl (ev_t rfl)) ?_
                        refine WL.cases 103 rfl (fun hb20_6 => ?_) (fun hb20_6 => ?_)
                        · try (exfalso; first | (simp at hb20_6; done) | (simp only [decide_eq_true_eq, decide_eq_false_iff_not, Bool.not_eq_true', Bool.not_eq_false', Bool.not_eq_true, Bool.not_eq_false] at hb20_6; omega) | omega)
                          all_goals
                           try simp only [decide_eq_true_eq, decide_eq_false_iff_not, Bool.not_eq_true', Bool.not_eq_false', Bool.not_eq_true, Bool.not_eq_false, Option.isNone_none, Option.isNone_some, Option.isSome_none, Option.isSome_some, ne_eq, Decidable.not_not] at hb20_6
                           refine WL.skip rfl rfl rfl ?_
                           refine WL.skip rfl rfl rfl ?_
                           refine WL.skip rfl rfl rfl ?_
                           refine WL.skip rfl rfl rfl ?_
                           refine WL.skip rfl rfl rfl ?_
                           refine WL.skip rfl rfl rfl ?_
                           refine WL.skip rfl rfl rfl ?_
                           refine WL.val rfl rfl rfl rfl (r_pickT rfl (ev_t rfl) ev_c) ?_
                           refine WL.nil ?_
                           refine WX.keep [(1, _), (2, _), (3, _), (7, _), (8, _), (9, _), (111, _)] ⟨rfl, rfl, rfl, rfl, rfl, rfl, rfl, trivial⟩ ?_
                           refine WX.next ?_
                           refine WC.cond_true rfl (ev_t rfl) ?_
                           refine WC.seq ?_
                           refine WC.region ?_
                           refine WL.val rfl rfl rfl rfl (r_assign rfl ev_c) ?_
                           refine WL.nil ?_
                           refine WX.keep [(6, _)] ⟨rfl, trivial⟩ ?_
                           refine WX.next ?_
                           refine WC.ret ?_
                           refine WX.blockRet ?_
                           refine WX.blockRet ?_
                           refine WX.thenRet ?_
                           refine WX.blockRet ?_
                           refine WX.thenRet ?_
                           refine WX.retE1 rfl rfl ?_
                           refine ⟨⟨false, rfl, fun _ => rfl, fun hp _ => ⟨(fun h => by cases h), fun hg => ?_⟩⟩, hU⟩
                           obtain ⟨i1, i2, i3, i4, i5⟩ := hIq hp
                           obtain ⟨j1, j2, j3, j4⟩ := hI1 hp
                           have hmem : (i.n, d1, t1) ∈ succsI i a (D1.getD a 0) (R1.getD a 0) := by
                             rw [j2, j3, i4, i5]
                             exact List.mem_append.2 (.inr (by rw [if_pos (by omega)]; simp))
                           rw [hd0, ht0] at i3
                           have hb : ∃ D2 R2 T2, reachP n a i.n d1 t1 D1 R1 T1 = (false, D2, R2, T2) := by
                             first
                               | exact ⟨_, _, _, by rw [← hc20]; exact he2⟩
                               | exact ⟨D1, R1, T1, by unfold reachP; rw [if_pos (.inr (by omega))]⟩
                           obtain ⟨_, _, _, hb⟩ := hb
                           exact absurd hg ((reach_inv j1 (by rw [j2]; exact (hIp hp).2.1) hi (by rw [j2, j3]; exact i3) hp hmem (by rw [hn]; exact hb)).1 rfl)
                        · try (exfalso; first | (simp at hb20_6; done) | (simp only [decide_eq_true_eq, decide_eq_false_iff_not, Bool.not_eq_true', Bool.not_eq_false', Bool.not_eq_true, Bool.not_eq_false] at hb20_6; omega) | omega)
                          all_goals
                           try simp only [decide_eq_true_eq, decide_eq_false_iff_not, Bool.not_eq_true', Bool.not_eq_false', Bool.not_eq_true, Bool.not_eq_false, Option.isNone_none, Option.isNone_some, Option.isSome_none, Option.isSome_some, ne_eq, Decidable.not_not] at hb20_6
                           obtain ⟨b2, D2, R2, T2, he2⟩ : ∃ b2 D2 R2 T2, reachP n a i.n d1 t1 D1 R1 T1 = (b2, D2, R2, T2) := ⟨_, _, _, _, rfl⟩
                           obtain ⟨q1, q2, q3, q4⟩ := wt_reach (by omega) he2
                           obtain ⟨q5, q6⟩ := hSt1.reach (by omega) he2
                           obtain ⟨q7, q8⟩ := inK_reach hD1 hR1 hKD1 hKR1 hd1 ht1 he2
                           refine WL.val rfl rfl rfl rfl (r_move rfl (ev_t rfl)) ?_
                           first | refine WL.val rfl rfl rfl rfl (r_field0 rfl (ev_t rfl) fld_44_1) ?_ | refine WL.val rfl rfl rfl rfl (r_fieldAt rfl (ev_t rfl) fld_44_1) ?_
                           refine WL.val rfl rfl rfl rfl (r_load rfl (ev_t rfl) flat_2 (Blk.cell hbi rfl)) ?_
                           refine WL.val rfl rfl rfl rfl (r_move rfl (ev_t rfl)) ?_
                           refine WL.val rfl rfl rfl rfl (r_move rfl (ev_t rfl)) ?_
                           refine WL.cons (SO.callV (vs := [_, _, _]) rfl (ev_t rfl) body_37 ⟨(ev_t rfl), (ev_t rfl), (ev_t rfl), trivial⟩ rfl (reach_ok hCk hba hF3 (fun h => by have := h.2; omega) (fun h => by have := h.1; omega) hD1 hR1 (by omega) he2) rfl rfl rfl rfl ?_)
                           rintro v w21 ⟨rfl, hCk, hu21⟩
                           have hps := hu21.size
                           have hs21 := hu21.size
                           replace hU := hU.trans hu21 (by first | exact (fun _ _ h => h) | exact (fun _ _ h => h.elim) | (intro k hl hk; (try simp only [At, New, Grow, From, No] at hk ⊢); omega) | (intro k hl hk; first | (have h1 := hk.1; omega) | ((try simp only [At, New, Grow, From, No] at *); omega)))
                           replace hF3 := hF3.upd hu21 (by first | exact (fun h => h) | (simp only [At, No]; omega) | (exact fun h => by have h1 := h.1; omega))
                           replace hba := hba.upd hu21 (by first | exact (fun h => h) | (simp only [At, No]; omega) | (exact fun h => by have h1 := h.1; have h2 := h.2; omega))
                           replace hbi := hbi.upd hu21 (by first | exact (fun h => h) | (simp only [At, No]; omega) | (exact fun h => by have h1 := h.1; have h2 := h.2; omega))
                           refine WL.val rfl rfl rfl rfl (r_not rfl (ev_t rfl)) ?_
                           refine WL.val rfl rfl rfl rfl (r_pickF rfl (ev_t rfl) (ev_t rfl)) ?_
                           refine WL.nil ?_
                           refine WX.keep [(1, _), (2, _), (3, _), (7, _), (8, _), (9, _), (111, _)] ⟨rfl, rfl, rfl, rfl, rfl, rfl, rfl, trivial⟩ ?_
                           refine WX.next ?_
                           refine WC.cond rfl (ev_t rfl) (fun hc20 => ?_) (fun hc20 => ?_)
                           · try (exfalso; first | (simp at hc20; done) | (simp only [decide_eq_true_eq, decide_eq_false_iff_not, Bool.not_eq_true', Bool.not_eq_false', Bool.not_eq_true, Bool.not_eq_false] at hc20; omega) | omega)
                             all_goals
                              try simp only [decide_eq_true_eq, decide_eq_false_iff_not, Bool.not_eq_true', Bool.not_eq_false', Bool.not_eq_true, Bool.not_eq_false, Option.isNone_none, Option.isNone_some, Option.isSome_none, Option.isSome_some, ne_eq, Decidable.not_not] at hc20
                              refine WC.seq ?_
                              refine WC.region ?_
                              refine WL.val rfl rfl rfl rfl (r_assign rfl ev_c) ?_
                              refine WL.nil ?_
                              refine WX.keep [(6, _)] ⟨rfl, trivial⟩ ?_
                              refine WX.next ?_
                              refine WC.ret ?_
                              refine WX.blockRet ?_
                              refine WX.blockRet ?_
                              refine WX.thenRet ?_
                              refine WX.blockRet ?_
                              refine WX.thenRet ?_
                              refine WX.retE1 rfl rfl ?_
                              refine ⟨⟨false, rfl, fun _ => rfl, fun hp _ => ⟨(fun h => by cases h), fun hg => ?_⟩⟩, hU⟩
                              obtain ⟨i1, i2, i3, i4, i5⟩ := hIq hp
                              obtain ⟨j1, j2, j3, j4⟩ := hI1 hp
                              have hmem : (i.n, d1, t1) ∈ succsI i a (D1.getD a 0) (R1.getD a 0) := by
                                rw [j2, j3, i4, i5]
                                exact List.mem_append.2 (.inr (by rw [if_pos (by omega)]; simp))
                              rw [hd0, ht0] at i3
                              have hb : ∃ D2 R2 T2, reachP n a i.n d1 t1 D1 R1 T1 = (false, D2, R2, T2) := by
                                first
                                  | exact ⟨_, _, _, by rw [← hc20]; exact he2⟩
                                  | exact ⟨D1, R1, T1, by unfold reachP; rw [if_pos (.inr (by omega))]⟩
                              obtain ⟨_, _, _, hb⟩ := hb
                              exact absurd hg ((reach_inv j1 (by rw [j2]; exact (hIp hp).2.1) hi (by rw [j2, j3]; exact i3) hp hmem (by rw [hn]; exact hb)).1 rfl)
                           · try (exfalso; first | (simp at hc20; done) | (simp only [decide_eq_true_eq, decide_eq_false_iff_not, Bool.not_eq_true', Bool.not_eq_false', Bool.not_eq_true, Bool.not_eq_false] at hc20; omega) | omega)
                             all_goals
                              try simp only [decide_eq_true_eq, decide_eq_false_iff_not, Bool.not_eq_true', Bool.not_eq_false', Bool.not_eq_true, Bool.not_eq_false, Option.isNone_none, Option.isNone_some, Option.isSome_none, Option.isSome_some, ne_eq, Decidable.not_not] at hc20
                              subst hc20
                              refine WC.skip ?_
                              refine WX.blockNormal ?_
                              refine WX.blockNormal ?_
                              refine WX.meet [(1, _), (2, _), (3, _), (7, _), (8, _), (9, _)] ⟨rfl, rfl, rfl, rfl, rfl, rfl, trivial⟩ ?_
                              have hP : 0 < 3 ^ (n - a) := Nat.pow_pos (by omega)
                              have hwq : wtT n (T0 ++ [a]) = wtT n T0 + 3 ^ (n - a) := wt_snoc _ _ _
                              have hw99 := hU.size
                              first
                                | refine ⟨wtT n T2, by omega, D2, R2, T2, rfl, hU, by omega, hCk.mono (fun k hk => ?_), hF3, by omega, by omega, (fun k hk => (q4 k hk).elim (hT1 k) (fun h => h.2)), q5, q7, q8, fun hp => ?_, rfl⟩
                                  · rcases hk with hk | hk
                                    · have h1 := hk.1; have h2 := hk.2; exact ⟨h1, by omega⟩
                                    · exact ⟨by omega, hk.2⟩
                                  · obtain ⟨i1, i2, i3, i4, i5⟩ := hIq hp
                                    obtain ⟨j1, j2, j3, j4⟩ := hI1 hp
                                    obtain ⟨_, k2, k3, k4, _, _⟩ := hIp hp
                                    rw [hd0, ht0] at i3
                                    have hw : IntKind.i64.wrap (d0 + 1) = d0 + 1 := wrap_i64_in (by omega) (by omega)
                                    try rw [hw] at he2
                                    have hk1 : nextB i = true → D1.getD (a + 1) 0 ≠ 0 := fun hx => by
                                      obtain ⟨m1, m2, m3⟩ := j4 hx
                                      have := fine_takes i3 hp k3
                                      have := (tk_le hop).2.2.1
                                      omega
                                    first
                                      | (have hmem : (i.n, d1, t1) ∈ succsI i a (D1.getD a 0) (R1.getD a 0) := by
                                           rw [j2, j3, i4, i5]
                                           exact List.mem_append.2 (.inr (by rw [if_pos (by omega)]; simp))
                                         obtain ⟨l1, l2, l3, l4, l5, l6⟩ := (reach_inv j1 (by rw [j2]; exact k2) hi (by rw [j2, j3]; exact i3) hp hmem (by rw [hn]; exact he2)).2 rfl
                                         have l7 := l6 a (by rw [j2]; exact k2)
                                         refine inv_done l1 (proc_of hi (l7.1.trans j2) (l7.2.trans j3) i3 (fun hx => ?_) (fun _ => ⟨l2, l3, by rw [l4, i4], by rw [l5, i5]⟩) (fun hx => by omega))
                                         obtain ⟨m1, m2, m3⟩ := j4 hx
                                         have l8 := l6 (a + 1) (hk1 hx)
                                         exact ⟨by omega, by rw [l8.1, m2, i4], by rw [l8.2, m3, i5]⟩)
                                      | (have hmem : (i.n, d0 + 1, t0) ∈ succsI i a (D1.getD a 0) (R1.getD a 0) := by
                                           rw [j2, j3]
                                           exact List.mem_append.2 (.inr (by rw [if_neg (by omega), if_pos (by omega)]; simp))
                                         obtain ⟨l1, l2, l3, l4, l5, l6⟩ := (reach_inv j1 (by rw [j2]; exact k2) hi (by rw [j2, j3]; exact i3) hp hmem (by rw [hn]; exact he2)).2 rfl
                                         have l7 := l6 a (by rw [j2]; exact k2)
                                         refine inv_done l1 (proc_of hi (l7.1.trans j2) (l7.2.trans j3) i3 (fun hx => ?_) (fun hx => by omega) (fun _ => ⟨l2, l3, l4, l5⟩))
                                         obtain ⟨m1, m2, m3⟩ := j4 hx
                                         have l8 := l6 (a + 1) (hk1 hx)
                                         exact ⟨by omega, by rw [l8.1, m2, i4], by rw [l8.2, m3, i5]⟩)
                                | refine ⟨wtT n T1, by omega, D1, R1, T1, rfl, hU, by omega, hCk.mono (fun k hk => ⟨hk.1, hk.2.2.2⟩), hF3, hD1, hR1, hT1, hSt1, hKD1, hKR1, fun hp => ?_, rfl⟩
                                  obtain ⟨i1, i2, i3, i4, i5⟩ := hIq hp
                                  obtain ⟨j1, j2, j3, j4⟩ := hI1 hp
                                  rw [hd0, ht0] at i3
                                  refine inv_done j1 (proc_of hi j2 j3 i3 (fun hx => ?_) (fun hx => by omega) (fun hx => by omega))
                                  obtain ⟨m1, m2, m3⟩ := j4 hx
                                  exact ⟨by omega, by rw [m2, i4], by rw [m3, i5]⟩
                     · try (exfalso; first | (simp at hc18; done) | (simp only [decide_eq_true_eq, decide_eq_false_iff_not, Bool.not_eq_true', Bool.not_eq_false', Bool.not_eq_true, Bool.not_eq_false] at hc18; omega) | omega)
                       all_goals
                        try simp only [decide_eq_true_eq, decide_eq_false_iff_not, Bool.not_eq_true', Bool.not_eq_false', Bool.not_eq_true, Bool.not_eq_false, Option.isNone_none, Option.isNone_some, Option.isSome_none, Option.isSome_some, ne_eq, Decidable.not_not] at hc18
                        refine WC.seq ?_
                        refine WC.region ?_
                        refine WL.val rfl rfl rfl rfl (r_eql rfl (ev_t rfl) ev_c) ?_
                        refine WL.val rfl rfl rfl rfl (r_assign rfl (ev_t rfl)) ?_
                        refine WL.nil ?_
                        refine WX.keep [(1, _), (2, _), (3, _), (7, _), (8, _), (9, _), (11, _), (12, _), (13, _), (17, _), (112, _)] ⟨rfl, rfl, rfl, rfl, rfl, rfl, rfl, rfl, rfl, rfl, rfl, trivial⟩ ?_
                        refine WX.next ?_
                        refine WC.cond rfl (ev_t rfl) (fun hc22 => ?_) (fun hc22 => ?_)
                        · try (exfalso; first | (simp at hc22; done) | (simp only [decide_eq_true_eq, decide_eq_false_iff_not, Bool.not_eq_true', Bool.not_eq_false', Bool.not_eq_true, Bool.not_eq_false] at hc22; omega) | omega)
                          all_goals
                           try simp only [decide_eq_true_eq, decide_eq_false_iff_not, Bool.not_eq_true', Bool.not_eq_false', Bool.not_eq_true, Bool.not_eq_false, Option.isNone_none, Option.isNone_some, Option.isSome_none, Option.isSome_some, ne_eq, Decidable.not_not] at hc22
                           refine WC.seq ?_
                           refine WC.region ?_
                           first | refine WL.val rfl rfl rfl rfl (r_field0 rfl (ev_t rfl) fld_44_1) ?_ | refine WL.val rfl rfl rfl rfl (r_fieldAt rfl (ev_t rfl) fld_44_1) ?_
                           refine WL.val rfl rfl rfl rfl (r_load rfl (ev_t rfl) flat_2 (Blk.cell hbi rfl)) ?_
                           first | refine WL.val rfl rfl rfl rfl (r_field0 rfl (ev_t rfl) fld_42_1) ?_ | refine WL.val rfl rfl rfl rfl (r_fieldAt rfl (ev_t rfl) fld_42_1) ?_
                           refine WL.val rfl rfl rfl rfl (r_load rfl (ev_t rfl) flat_40 (Blk.cell hF3 rfl)) ?_
                           refine WL.val rfl rfl rfl rfl (r_lenSlice (ts := #[]) rfl (ev_t rfl) elem_40) ?_
                           refine WL.val rfl rfl rfl rfl (r_geq rfl (ev_t rfl) (ev_t rfl)) ?_
                           refine WL.val rfl rfl rfl rfl (r_move rfl (ev_t rfl)) ?_
                           refine WL.cases 120 rfl (fun hb23_6 => ?_) (fun hb23_6 => ?_)
                           · try (exfalso; first | (simp at hb23_6; done) | (simp only [decide_eq_true_eq, decide_eq_false_iff_not, Bool.not_eq_true', Bool.not_eq_false', Bool.not_eq_true, Bool.not_eq_false] at hb23_6; omega) | omega)
                             all_goals
                              try simp only [decide_eq_true_eq, decide_eq_false_iff_not, Bool.not_eq_true', Bool.not_eq_false', Bool.not_eq_true, Bool.not_eq_false, Option.isNone_none, Option.isNone_some, Option.isSome_none, Option.isSome_some, ne_eq, Decidable.not_not] at hb23_6
                              refine WL.skip rfl rfl rfl ?_
                              refine WL.skip rfl rfl rfl ?_
                              refine WL.skip rfl rfl rfl ?_
                              refine WL.skip rfl rfl rfl ?_
                              refine WL.skip rfl rfl rfl ?_
                              refine WL.skip rfl rfl rfl ?_
                              refine WL.skip rfl rfl rfl ?_
                              refine WL.skip rfl rfl rfl ?_
                              refine WL.val rfl rfl rfl rfl (r_pickT rfl (ev_t rfl) ev_c) ?_
                              refine WL.nil ?_
                              refine WX.keep [(1, _), (2, _), (3, _), (7, _), (8, _), (9, _), (129, _)] ⟨rfl, rfl, rfl, rfl, rfl, rfl, rfl, trivial⟩ ?_
                              refine WX.next ?_
                              refine WC.cond_true rfl (ev_t rfl) ?_
                              refine WC.seq ?_
                              refine WC.region ?_
                              refine WL.val rfl rfl rfl rfl (r_assign rfl ev_c) ?_
                              refine WL.nil ?_
                              refine WX.keep [(6, _)] ⟨rfl, trivial⟩ ?_
                              refine WX.next ?_
                              refine WC.ret ?_
                              refine WX.blockRet ?_
                              refine WX.blockRet ?_
                              refine WX.thenRet ?_
                              refine WX.blockRet ?_
                              refine WX.thenRet ?_
                              refine WX.retE1 rfl rfl ?_
                              refine ⟨⟨false, rfl, fun _ => rfl, fun hp _ => ⟨(fun h => by cases h), fun hg => ?_⟩⟩, hU⟩
                              obtain ⟨i1, i2, i3, i4, i5⟩ := hIq hp
                              obtain ⟨j1, j2, j3, j4⟩ := hI1 hp
                              obtain ⟨_, k2, k3, k4, _, _⟩ := hIp hp
                              have hw : IntKind.i64.wrap (d0 + 1) = d0 + 1 := wrap_i64_in (by omega) (by omega)
                              have hmem : (i.n, d0 + 1, t0) ∈ succsI i a (D1.getD a 0) (R1.getD a 0) := by
                                rw [j2, j3]
                                exact List.mem_append.2 (.inr (by rw [if_neg (by omega), if_pos (by omega)]; simp))
                              rw [hd0, ht0] at i3
                              have hb : ∃ D2 R2 T2, reachP n a i.n (d0 + 1) t0 D1 R1 T1 = (false, D2, R2, T2) := by
                                first
                                  | exact ⟨_, _, _, by rw [← hc23, ← hw]; exact he2⟩
                                  | exact ⟨D1, R1, T1, by unfold reachP; rw [if_pos (.inr (by omega))]⟩
                              obtain ⟨_, _, _, hb⟩ := hb
                              exact absurd hg ((reach_inv j1 (by rw [j2]; exact k2) hi (by rw [j2, j3]; exact i3) hp hmem (by rw [hn]; exact hb)).1 rfl)
                           · try (exfalso; first | (simp at hb23_6; done) | (simp only [decide_eq_true_eq, decide_eq_false_iff_not, Bool.not_eq_true', Bool.not_eq_false', Bool.not_eq_true, Bool.not_eq_false] at hb23_6; omega) | omega)
                             all_goals
                              try simp only [decide_eq_true_eq, decide_eq_false_iff_not, Bool.not_eq_true', Bool.not_eq_false', Bool.not_eq_true, Bool.not_eq_false, Option.isNone_none, Option.isNone_some, Option.isSome_none, Option.isSome_some, ne_eq, Decidable.not_not] at hb23_6
                              obtain ⟨b2, D2, R2, T2, he2⟩ : ∃ b2 D2 R2 T2, reachP n a i.n (IntKind.i64.wrap (d0 + 1)) t0 D1 R1 T1 = (b2, D2, R2, T2) := ⟨_, _, _, _, rfl⟩
                              obtain ⟨q1, q2, q3, q4⟩ := wt_reach (by omega) he2
                              obtain ⟨q5, q6⟩ := hSt1.reach (by omega) he2
                              obtain ⟨q7, q8⟩ := inK_reach hD1 hR1 hKD1 hKR1 (wrap_inK _ _) hKt he2
                              refine WL.val rfl rfl rfl rfl (r_move rfl (ev_t rfl)) ?_
                              first | refine WL.val rfl rfl rfl rfl (r_field0 rfl (ev_t rfl) fld_44_1) ?_ | refine WL.val rfl rfl rfl rfl (r_fieldAt rfl (ev_t rfl) fld_44_1) ?_
                              refine WL.val rfl rfl rfl rfl (r_load rfl (ev_t rfl) flat_2 (Blk.cell hbi rfl)) ?_
                              refine WL.val rfl rfl rfl rfl (r_move rfl (ev_t rfl)) ?_
                              refine WL.val rfl rfl rfl rfl (r_add rfl (ev_t rfl) ev_c) ?_
                              refine WL.val rfl rfl rfl rfl (r_move rfl (ev_t rfl)) ?_
                              refine WL.cons (SO.callV (vs := [_, _, _]) rfl (ev_t rfl) body_37 ⟨(ev_t rfl), (ev_t rfl), (ev_t rfl), trivial⟩ rfl (reach_ok hCk hba hF3 (fun h => by have := h.2; omega) (fun h => by have := h.1; omega) hD1 hR1 (by omega) he2) rfl rfl rfl rfl ?_)
                              rintro v w22 ⟨rfl, hCk, hu22⟩
                              have hps := hu22.size
                              have hs22 := hu22.size
                              replace hU := hU.trans hu22 (by first | exact (fun _ _ h => h) | exact (fun _ _ h => h.elim) | (intro k hl hk; (try simp only [At, New, Grow, From, No] at hk ⊢); omega) | (intro k hl hk; first | (have h1 := hk.1; omega) | ((try simp only [At, New, Grow, From, No] at *); omega)))
                              replace hF3 := hF3.upd hu22 (by first | exact (fun h => h) | (simp only [At, No]; omega) | (exact fun h => by have h1 := h.1; omega))
                              replace hba := hba.upd hu22 (by first | exact (fun h => h) | (simp only [At, No]; omega) | (exact fun h => by have h1 := h.1; have h2 := h.2; omega))
                              replace hbi := hbi.upd hu22 (by first | exact (fun h => h) | (simp only [At, No]; omega) | (exact fun h => by have h1 := h.1; have h2 := h.2; omega))
                              refine WL.val rfl rfl rfl rfl (r_not rfl (ev_t rfl)) ?_
                              refine WL.val rfl rfl rfl rfl (r_pickF rfl (ev_t rfl) (ev_t rfl)) ?_
                              refine WL.nil ?_
                              refine WX.keep [(1, _), (2, _), (3, _), (7, _), (8, _), (9, _), (129, _)] ⟨rfl, rfl, rfl, rfl, rfl, rfl, rfl, trivial⟩ ?_
                              refine WX.next ?_
                              refine WC.cond rfl (ev_t rfl) (fun hc23 => ?_) (fun hc23 => ?_)
                              · try (exfalso; first | (simp at hc23; done) | (simp only [decide_eq_true_eq, decide_eq_false_iff_not, Bool.not_eq_true', Bool.not_eq_false', Bool.not_eq_true, Bool.not_eq_false] at hc23; omega) | omega)
                                all_goals
                                 try simp only [decide_eq_true_eq, decide_eq_false_iff_not, Bool.not_eq_true', Bool.not_eq_false', Bool.not_eq_true, Bool.not_eq_false, Option.isNone_none, Option.isNone_some, Option.isSome_none, Option.isSome_some, ne_eq, Decidable.not_not] at hc23
                                 refine WC.seq ?_
                                 refine WC.region ?_
                                 refine WL.val rfl rfl rfl rfl (r_assign rfl ev_c) ?_
                                 refine WL.nil ?_
                                 refine WX.keep [(6, _)] ⟨rfl, trivial⟩ ?_
                                 refine WX.next ?_
                                 refine WC.ret ?_
                                 refine WX.blockRet ?_
                                 refine WX.blockRet ?_
                                 refine WX.thenRet ?_
                                 refine WX.blockRet ?_
                                 refine WX.thenRet ?_
                                 refine WX.retE1 rfl rfl ?_
                                 refine ⟨⟨false, rfl, fun _ => rfl, fun hp _ => ⟨(fun h => by cases h), fun hg => ?_⟩⟩, hU⟩
                                 obtain ⟨i1, i2, i3, i4, i5⟩ := hIq hp
                                 obtain ⟨j1, j2, j3, j4⟩ := hI1 hp
                                 obtain ⟨_, k2, k3, k4, _, _⟩ := hIp hp
                                 have hw : IntKind.i64.wrap (d0 + 1) = d0 + 1 := wrap_i64_in (by omega) (by omega)
                                 have hmem : (i.n, d0 + 1, t0) ∈ succsI i a (D1.getD a 0) (R1.getD a 0) := by
                                   rw [j2, j3]
                                   exact List.mem_append.2 (.inr (by rw [if_neg (by omega), if_pos (by omega)]; simp))
                                 rw [hd0, ht0] at i3
                                 have hb : ∃ D2 R2 T2, reachP n a i.n (d0 + 1) t0 D1 R1 T1 = (false, D2, R2, T2) := by
                                   first
                                     | exact ⟨_, _, _, by rw [← hc23, ← hw]; exact he2⟩
                                     | exact ⟨D1, R1, T1, by unfold reachP; rw [if_pos (.inr (by omega))]⟩
                                 obtain ⟨_, _, _, hb⟩ := hb
                                 exact absurd hg ((reach_inv j1 (by rw [j2]; exact k2) hi (by rw [j2, j3]; exact i3) hp hmem (by rw [hn]; exact hb)).1 rfl)
                              · try (exfalso; first | (simp at hc23; done) | (simp only [decide_eq_true_eq, decide_eq_false_iff_not, Bool.not_eq_true', Bool.not_eq_false', Bool.not_eq_true, Bool.not_eq_false] at hc23; omega) | omega)
                                all_goals
                                 try simp only [decide_eq_true_eq, decide_eq_false_iff_not, Bool.not_eq_true', Bool.not_eq_false', Bool.not_eq_true, Bool.not_eq_false, Option.isNone_none, Option.isNone_some, Option.isSome_none, Option.isSome_some, ne_eq, Decidable.not_not] at hc23
                                 subst hc23
                                 refine WC.skip ?_
                                 refine WX.blockNormal ?_
                                 refine WX.blockNormal ?_
                                 refine WX.meet [(1, _), (2, _), (3, _), (7, _), (8, _), (9, _)] ⟨rfl, rfl, rfl, rfl, rfl, rfl, trivial⟩ ?_
                                 have hP : 0 < 3 ^ (n - a) := Nat.pow_pos (by omega)
                                 have hwq : wtT n (T0 ++ [a]) = wtT n T0 + 3 ^ (n - a) := wt_snoc _ _ _
                                 have hw99 := hU.size
                                 first
                                   | refine ⟨wtT n T2, by omega, D2, R2, T2, rfl, hU, by omega, hCk.mono (fun k hk => ?_), hF3, by omega, by omega, (fun k hk => (q4 k hk).elim (hT1 k) (fun h => h.2)), q5, q7, q8, fun hp => ?_, rfl⟩
                                     · rcases hk with hk | hk
                                       · have h1 := hk.1; have h2 := hk.2; exact ⟨h1, by omega⟩
                                       · exact ⟨by omega, hk.2⟩
                                     · obtain ⟨i1, i2, i3, i4, i5⟩ := hIq hp
                                       obtain ⟨j1, j2, j3, j4⟩ := hI1 hp
                                       obtain ⟨_, k2, k3, k4, _, _⟩ := hIp hp
                                       rw [hd0, ht0] at i3
                                       have hw : IntKind.i64.wrap (d0 + 1) = d0 + 1 := wrap_i64_in (by omega) (by omega)
                                       try rw [hw] at he2
                                       have hk1 : nextB i = true → D1.getD (a + 1) 0 ≠ 0 := fun hx => by
                                         obtain ⟨m1, m2, m3⟩ := j4 hx
                                         have := fine_takes i3 hp k3
                                         have := (tk_le hop).2.2.1
                                         omega
                                       first
                                         | (have hmem : (i.n, d1, t1) ∈ succsI i a (D1.getD a 0) (R1.getD a 0) := by
                                              rw [j2, j3, i4, i5]
                                              exact List.mem_append.2 (.inr (by rw [if_pos (by omega)]; simp))
                                            obtain ⟨l1, l2, l3, l4, l5, l6⟩ := (reach_inv j1 (by rw [j2]; exact k2) hi (by rw [j2, j3]; exact i3) hp hmem (by rw [hn]; exact he2)).2 rfl
                                            have l7 := l6 a (by rw [j2]; exact k2)
                                            refine inv_done l1 (proc_of hi (l7.1.trans j2) (l7.2.trans j3) i3 (fun hx => ?_) (fun _ => ⟨l2, l3, by rw [l4, i4], by rw [l5, i5]⟩) (fun hx => by omega))
                                            obtain ⟨m1, m2, m3⟩ := j4 hx
                                            have l8 := l6 (a + 1) (hk1 hx)
                                            exact ⟨by omega, by rw [l8.1, m2, i4], by rw [l8.2, m3, i5]⟩)
                                         | (have hmem : (i.n, d0 + 1, t0) ∈ succsI i a (D1.getD a 0) (R1.getD a 0) := by
                                              rw [j2, j3]
                                              exact List.mem_append.2 (.inr (by rw [if_neg (by omega), if_pos (by omega)]; simp))
                                            obtain ⟨l1, l2, l3, l4, l5, l6⟩ := (reach_inv j1 (by rw [j2]; exact k2) hi (by rw [j2, j3]; exact i3) hp hmem (by rw [hn]; exact he2)).2 rfl
                                            have l7 := l6 a (by rw [j2]; exact k2)
                                            refine inv_done l1 (proc_of hi (l7.1.trans j2) (l7.2.trans j3) i3 (fun hx => ?_) (fun hx => by omega) (fun _ => ⟨l2, l3, l4, l5⟩))
                                            obtain ⟨m1, m2, m3⟩ := j4 hx
                                            have l8 := l6 (a + 1) (hk1 hx)
                                            exact ⟨by omega, by rw [l8.1, m2, i4], by rw [l8.2, m3, i5]⟩)
                                   | refine ⟨wtT n T1, by omega, D1, R1, T1, rfl, hU, by omega, hCk.mono (fun k hk => ⟨hk.1, hk.2.2.2⟩), hF3, hD1, hR1, hT1, hSt1, hKD1, hKR1, fun hp => ?_, rfl⟩
                                     obtain ⟨i1, i2, i3, i4, i5⟩ := hIq hp
                                     obtain ⟨j1, j2, j3, j4⟩ := hI1 hp
                                     rw [hd0, ht0] at i3
                                     refine inv_done j1 (proc_of hi j2 j3 i3 (fun hx => ?_) (fun hx => by omega) (fun hx => by omega))
                                     obtain ⟨m1, m2, m3⟩ := j4 hx
                                     exact ⟨by omega, by rw [m2, i4], by rw [m3, i5]⟩
                        · try (exfalso; first | (simp at hc22; done) | (simp only [decide_eq_true_eq, decide_eq_false_iff_not, Bool.not_eq_true', Bool.not_eq_false', Bool.not_eq_true, Bool.not_eq_false] at hc22; omega) | omega)
                          all_goals
                           try simp only [decide_eq_true_eq, decide_eq_false_iff_not, Bool.not_eq_true', Bool.not_eq_false', Bool.not_eq_true, Bool.not_eq_false, Option.isNone_none, Option.isNone_some, Option.isSome_none, Option.isSome_some, ne_eq, Decidable.not_not] at hc22
                           refine WC.skip ?_
                           refine WX.blockNormal ?_
                           refine WX.blockNormal ?_
                           refine WX.meet [(1, _), (2, _), (3, _), (7, _), (8, _), (9, _)] ⟨rfl, rfl, rfl, rfl, rfl, rfl, trivial⟩ ?_
                           have hP : 0 < 3 ^ (n - a) := Nat.pow_pos (by omega)
                           have hwq : wtT n (T0 ++ [a]) = wtT n T0 + 3 ^ (n - a) := wt_snoc _ _ _
                           have hw99 := hU.size
                           first
                             | refine ⟨wtT n T2, by omega, D2, R2, T2, rfl, hU, by omega, hCk.mono (fun k hk => ?_), hF3, by omega, by omega, (fun k hk => (q4 k hk).elim (hT1 k) (fun h => h.2)), q5, q7, q8, fun hp => ?_, rfl⟩
                               · rcases hk with hk | hk
                                 · have h1 := hk.1; have h2 := hk.2; exact ⟨h1, by omega⟩
                                 · exact ⟨by omega, hk.2⟩
                               · obtain ⟨i1, i2, i3, i4, i5⟩ := hIq hp
                                 obtain ⟨j1, j2, j3, j4⟩ := hI1 hp
                                 obtain ⟨_, k2, k3, k4, _, _⟩ := hIp hp
                                 rw [hd0, ht0] at i3
                                 have hw : IntKind.i64.wrap (d0 + 1) = d0 + 1 := wrap_i64_in (by omega) (by omega)
                                 try rw [hw] at he2
                                 have hk1 : nextB i = true → D1.getD (a + 1) 0 ≠ 0 := fun hx => by
                                   obtain ⟨m1, m2, m3⟩ := j4 hx
                                   have := fine_takes i3 hp k3
                                   have := (tk_le hop).2.2.1
                                   omega
                                 first
                                   | (have hmem : (i.n, d1, t1) ∈ succsI i a (D1.getD a 0) (R1.getD a 0) := by
                                        rw [j2, j3, i4, i5]
                                        exact List.mem_append.2 (.inr (by rw [if_pos (by omega)]; simp))
                                      obtain ⟨l1, l2, l3, l4, l5, l6⟩ := (reach_inv j1 (by rw [j2]; exact k2) hi (by rw [j2, j3]; exact i3) hp hmem (by rw [hn]; exact he2)).2 rfl
                                      have l7 := l6 a (by rw [j2]; exact k2)
                                      refine inv_done l1 (proc_of hi (l7.1.trans j2) (l7.2.trans j3) i3 (fun hx => ?_) (fun _ => ⟨l2, l3, by rw [l4, i4], by rw [l5, i5]⟩) (fun hx => by omega))
                                      obtain ⟨m1, m2, m3⟩ := j4 hx
                                      have l8 := l6 (a + 1) (hk1 hx)
                                      exact ⟨by omega, by rw [l8.1, m2, i4], by rw [l8.2, m3, i5]⟩)
                                   | (have hmem : (i.n, d0 + 1, t0) ∈ succsI i a (D1.getD a 0) (R1.getD a 0) := by
                                        rw [j2, j3]
                                        exact List.mem_append.2 (.inr (by rw [if_neg (by omega), if_pos (by omega)]; simp))
                                      obtain ⟨l1, l2, l3, l4, l5, l6⟩ := (reach_inv j1 (by rw [j2]; exact k2) hi (by rw [j2, j3]; exact i3) hp hmem (by rw [hn]; exact he2)).2 rfl
                                      have l7 := l6 a (by rw [j2]; exact k2)
                                      refine inv_done l1 (proc_of hi (l7.1.trans j2) (l7.2.trans j3) i3 (fun hx => ?_) (fun hx => by omega) (fun _ => ⟨l2, l3, l4, l5⟩))
                                      obtain ⟨m1, m2, m3⟩ := j4 hx
                                      have l8 := l6 (a + 1) (hk1 hx)
                                      exact ⟨by omega, by rw [l8.1, m2, i4], by rw [l8.2, m3, i5]⟩)
                             | refine ⟨wtT n T1, by omega, D1, R1, T1, rfl, hU, by omega, hCk.mono (fun k hk => ⟨hk.1, hk.2.2.2⟩), hF3, hD1, hR1, hT1, hSt1, hKD1, hKR1, fun hp => ?_, rfl⟩
                               obtain ⟨i1, i2, i3, i4, i5⟩ := hIq hp
                               obtain ⟨j1, j2, j3, j4⟩ := hI1 hp
                               rw [hd0, ht0] at i3
                               refine inv_done j1 (proc_of hi j2 j3 i3 (fun hx => ?_) (fun hx => by omega) (fun hx => by omega))
                               obtain ⟨m1, m2, m3⟩ := j4 hx
                               exact ⟨by omega, by rw [m2, i4], by rw [m3, i5]⟩
                  · try (exfalso; first | (simp at hc18; done) | (simp only [decide_eq_true_eq, decide_eq_false_iff_not, Bool.not_eq_true', Bool.not_eq_false', Bool.not_eq_true, Bool.not_eq_false] at hc18; omega) | omega)
                    all_goals
                     try simp only [decide_eq_true_eq, decide_eq_false_iff_not, Bool.not_eq_true', Bool.not_eq_false', Bool.not_eq_true, Bool.not_eq_false, Option.isNone_none, Option.isNone_some, Option.isSome_none, Option.isSome_some, ne_eq, Decidable.not_not] at hc18
                     refine WC.region ?_
                     refine WL.val rfl rfl rfl rfl (r_eql rfl (ev_t rfl) ev_c) ?_
                     refine WL.val rfl rfl rfl rfl (r_assign rfl (ev_t rfl)) ?_
                     refine WL.nil ?_
                     refine WX.keep [(1, _), (2, _), (3, _), (7, _), (8, _), (9, _), (11, _), (12, _), (13, _), (15, _), (16, _), (17, _), (93, _), (94, _)] ⟨rfl, rfl, rfl, rfl, rfl, rfl, rfl, rfl, rfl, rfl, rfl, rfl, rfl, rfl, trivial⟩ ?_
                     refine WX.next ?_
                     refine WC.cond rfl (ev_t rfl) (fun hc19 => ?_) (fun hc19 => ?_)
                     · try (exfalso; first | (simp at hc19; done) | (simp only [decide_eq_true_eq, decide_eq_false_iff_not, Bool.not_eq_true', Bool.not_eq_false', Bool.not_eq_true, Bool.not_eq_false] at hc19; omega) | omega)
                       all_goals
                        try simp only [decide_eq_true_eq, decide_eq_false_iff_not, Bool.not_eq_true', Bool.not_eq_false', Bool.not_eq_true, Bool.not_eq_false, Option.isNone_none, Option.isNone_some, Option.isSome_none, Option.isSome_some, ne_eq, Decidable.not_not] at hc19
                        refine WC.seq ?_
                        refine WC.region ?_
                        first | refine WL.val rfl rfl rfl rfl (r_field0 rfl (ev_t rfl) fld_44_1) ?_ | refine WL.val rfl rfl rfl rfl (r_fieldAt rfl (ev_t rfl) fld_44_1) ?_
                        refine WL.val rfl rfl rfl rfl (r_load rfl (ev_t rfl) flat_2 (Blk.cell hbi rfl)) ?_
                        first | refine WL.val rfl rfl rfl rfl (r_field0 rfl (ev_t rfl) fld_42_1) ?_ | refine WL.val rfl rfl rfl rfl (r_fieldAt rfl (ev_t rfl) fld_42_1) ?_
                        refine WL.val rfl rfl rfl rfl (r_load rfl (ev_t rfl) flat_40 (Blk.cell hF3 rfl)) ?_
                        refine WL.val rfl rfl rfl rfl (r_lenSlice (ts := #[]) rfl (ev_t rfl) elem_40) ?_
                        refine WL.val rfl rfl rfl rfl (r_geq rfl (ev_t rfl) (ev_t rfl)) ?_
                        refine WL.val rfl rfl rfl rfl (r_move rfl (ev_t rfl)) ?_
                        refine WL.cases 103 rfl (fun hb20_6 => ?_) (fun hb20_6 => ?_)
                        · try (exfalso; first | (simp at hb20_6; done) | (simp only [decide_eq_true_eq, decide_eq_false_iff_not, Bool.not_eq_true', Bool.not_eq_false', Bool.not_eq_true, Bool.not_eq_false] at hb20_6; omega) | omega)
                          all_goals
                           try simp only [decide_eq_true_eq, decide_eq_false_iff_not, Bool.not_eq_true', Bool.not_eq_false', Bool.not_eq_true, Bool.not_eq_false, Option.isNone_none, Option.isNone_some, Option.isSome_none, Option.isSome_some, ne_eq, Decidable.not_not] at hb20_6
                           refine WL.skip rfl rfl rfl ?_
                           refine WL.skip rfl rfl rfl ?_
                           refine WL.skip rfl rfl rfl ?_
                           refine WL.skip rfl rfl rfl ?_
                           refine WL.skip rfl rfl rfl ?_
                           refine WL.skip rfl rfl rfl ?_
                           refine WL.skip rfl rfl rfl ?_
                           refine WL.val rfl rfl rfl rfl (r_pickT rfl (ev_t rfl) ev_c) ?_
                           refine WL.nil ?_
                           refine WX.keep [(1, _), (2, _), (3, _), (7, _), (8, _), (9, _), (111, _)] ⟨rfl, rfl, rfl, rfl, rfl, rfl, rfl, trivial⟩ ?_
                           refine WX.next ?_
                           refine WC.cond_true rfl (ev_t rfl) ?_
                           refine WC.seq ?_
                           refine WC.region ?_
                           refine WL.val rfl rfl rfl rfl (r_assign rfl ev_c) ?_
                           refine WL.nil ?_
                           refine WX.keep [(6, _)] ⟨rfl, trivial⟩ ?_
                           refine WX.next ?_
                           refine WC.ret ?_
                           refine WX.blockRet ?_
                           refine WX.blockRet ?_
                           refine WX.thenRet ?_
                           refine WX.blockRet ?_
                           refine WX.thenRet ?_
                           refine WX.retE1 rfl rfl ?_
                           refine ⟨⟨false, rfl, fun _ => rfl, fun hp _ => ⟨(fun h => by cases h), fun hg => ?_⟩⟩, hU⟩
                           obtain ⟨i1, i2, i3, i4, i5⟩ := hIq hp
                           obtain ⟨j1, j2, j3, j4⟩ := hI1 hp
                           have hmem : (i.n, d1, t1) ∈ succsI i a (D1.getD a 0) (R1.getD a 0) := by
                             rw [j2, j3, i4, i5]
                             exact List.mem_append.2 (.inr (by rw [if_pos (by omega)]; simp))
                           rw [hd0, ht0] at i3
                           have hb : ∃ D2 R2 T2, reachP n a i.n d1 t1 D1 R1 T1 = (false, D2, R2, T2) := by
                             first
                               | exact ⟨_, _, _, by rw [← hc20]; exact he2⟩
                               | exact ⟨D1, R1, T1, by unfold reachP; rw [if_pos (.inr (by omega))]⟩
                           obtain ⟨_, _, _, hb⟩ := hb
                           exact absurd hg ((reach_inv j1 (by rw [j2]; exact (hIp hp).2.1) hi (by rw [j2, j3]; exact i3) hp hmem (by rw [hn]; exact hb)).1 rfl)
                        · try (exfalso; first | (simp at hb20_6; done) | (simp only [decide_eq_true_eq, decide_eq_false_iff_not, Bool.not_eq_true', Bool.not_eq_false', Bool.not_eq_true, Bool.not_eq_false] at hb20_6; omega) | omega)
                          all_goals
                           try simp only [decide_eq_true_eq, decide_eq_false_iff_not, Bool.not_eq_true', Bool.not_eq_false', Bool.not_eq_true, Bool.not_eq_false, Option.isNone_none, Option.isNone_some, Option.isSome_none, Option.isSome_some, ne_eq, Decidable.not_not] at hb20_6
                           obtain ⟨b2, D2, R2, T2, he2⟩ : ∃ b2 D2 R2 T2, reachP n a i.n d1 t1 D1 R1 T1 = (b2, D2, R2, T2) := ⟨_, _, _, _, rfl⟩
                           obtain ⟨q1, q2, q3, q4⟩ := wt_reach (by omega) he2
                           obtain ⟨q5, q6⟩ := hSt1.reach (by omega) he2
                           obtain ⟨q7, q8⟩ := inK_reach hD1 hR1 hKD1 hKR1 hd1 ht1 he2
                           refine WL.val rfl rfl rfl rfl (r_move rfl (ev_t rfl)) ?_
                           first | refine WL.val rfl rfl rfl rfl (r_field0 rfl (ev_t rfl) fld_44_1) ?_ | refine WL.val rfl rfl rfl rfl (r_fieldAt rfl (ev_t rfl) fld_44_1) ?_
                           refine WL.val rfl rfl rfl rfl (r_load rfl (ev_t rfl) flat_2 (Blk.cell hbi rfl)) ?_
                           refine WL.val rfl rfl rfl rfl (r_move rfl (ev_t rfl)) ?_
                           refine WL.val rfl rfl rfl rfl (r_move rfl (ev_t rfl)) ?_
                           refine WL.cons (SO.callV (vs := [_, _, _]) rfl (ev_t rfl) body_37 ⟨(ev_t rfl), (ev_t rfl), (ev_t rfl), trivial⟩ rfl (reach_ok hCk hba hF3 (fun h => by have := h.2; omega) (fun h => by have := h.1; omega) hD1 hR1 (by omega) he2) rfl rfl rfl rfl ?_)
                           rintro v w23 ⟨rfl, hCk, hu23⟩
                           have hps := hu23.size
                           have hs23 := hu23.size
                           replace hU := hU.trans hu23 (by first | exact (fun _ _ h => h) | exact (fun _ _ h => h.elim) | (intro k hl hk; (try simp only [At, New, Grow, From, No] at hk ⊢); omega) | (intro k hl hk; first | (have h1 := hk.1; omega) | ((try simp only [At, New, Grow, From, No] at *); omega)))
                           replace hF3 := hF3.upd hu23 (by first | exact (fun h => h) | (simp only [At, No]; omega) | (exact fun h => by have h1 := h.1; omega))
                           replace hba := hba.upd hu23 (by first | exact (fun h => h) | (simp only [At, No]; omega) | (exact fun h => by have h1 := h.1; have h2 := h.2; omega))
                           replace hbi := hbi.upd hu23 (by first | exact (fun h => h) | (simp only [At, No]; omega) | (exact fun h => by have h1 := h.1; have h2 := h.2; omega))
                           refine WL.val rfl rfl rfl rfl (r_not rfl (ev_t rfl)) ?_
                           refine WL.val rfl rfl rfl rfl (r_pickF rfl (ev_t rfl) (ev_t rfl)) ?_
                           refine WL.nil ?_
                           refine WX.keep [(1, _), (2, _), (3, _), (7, _), (8, _), (9, _), (111, _)] ⟨rfl, rfl, rfl, rfl, rfl, rfl, rfl, trivial⟩ ?_
                           refine WX.next ?_
                           refine WC.cond rfl (ev_t rfl) (fun hc20 => ?_) (fun hc20 => ?_)
                           · try (exfalso; first | (simp at hc20; done) | (simp only [decide_eq_true_eq, decide_eq_false_iff_not, Bool.not_eq_true', Bool.not_eq_false', Bool.not_eq_true, Bool.not_eq_false] at hc20; omega) | omega)
                             all_goals
                              try simp only [decide_eq_true_eq, decide_eq_false_iff_not, Bool.not_eq_true', Bool.not_eq_false', Bool.not_eq_true, Bool.not_eq_false, Option.isNone_none, Option.isNone_some, Option.isSome_none, Option.isSome_some, ne_eq, Decidable.not_not] at hc20
                              refine WC.seq ?_
                              refine WC.region ?_
                              refine WL.val rfl rfl rfl rfl (r_assign rfl ev_c) ?_
                              refine WL.nil ?_
                              refine WX.keep [(6, _)] ⟨rfl, trivial⟩ ?_
                              refine WX.next ?_
                              refine WC.ret ?_
                              refine WX.blockRet ?_
                              refine WX.blockRet ?_
                              refine WX.thenRet ?_
                              refine WX.blockRet ?_
                              refine WX.thenRet ?_
                              refine WX.retE1 rfl rfl ?_
                              refine ⟨⟨false, rfl, fun _ => rfl, fun hp _ => ⟨(fun h => by cases h), fun hg => ?_⟩⟩, hU⟩
                              obtain ⟨i1, i2, i3, i4, i5⟩ := hIq hp
                              obtain ⟨j1, j2, j3, j4⟩ := hI1 hp
                              have hmem : (i.n, d1, t1) ∈ succsI i a (D1.getD a 0) (R1.getD a 0) := by
                                rw [j2, j3, i4, i5]
                                exact List.mem_append.2 (.inr (by rw [if_pos (by omega)]; simp))
                              rw [hd0, ht0] at i3
                              have hb : ∃ D2 R2 T2, reachP n a i.n d1 t1 D1 R1 T1 = (false, D2, R2, T2) := by
                                first
                                  | exact ⟨_, _, _, by rw [← hc20]; exact he2⟩
                                  | exact ⟨D1, R1, T1, by unfold reachP; rw [if_pos (.inr (by omega))]⟩
                              obtain ⟨_, _, _, hb⟩ := hb
                              exact absurd hg ((reach_inv j1 (by rw [j2]; exact (hIp hp).2.1) hi (by rw [j2, j3]; exact i3) hp hmem (by rw [hn]; exact hb)).1 rfl)
                           · try (exfalso; first | (simp at hc20; done) | (simp only [decide_eq_true_eq, decide_eq_false_iff_not, Bool.not_eq_true', Bool.not_eq_false', Bool.not_eq_true, Bool.not_eq_false] at hc20; omega) | omega)
                             all_goals
                              try simp only [decide_eq_true_eq, decide_eq_false_iff_not, Bool.not_eq_true', Bool.not_eq_false', Bool.not_eq_true, Bool.not_eq_false, Option.isNone_none, Option.isNone_some, Option.isSome_none, Option.isSome_some, ne_eq, Decidable.not_not] at hc20
                              subst hc20
                              refine WC.skip ?_
                              refine WX.blockNormal ?_
                              refine WX.blockNormal ?_
                              refine WX.meet [(1, _), (2, _), (3, _), (7, _), (8, _), (9, _)] ⟨rfl, rfl, rfl, rfl, rfl, rfl, trivial⟩ ?_
                              have hP : 0 < 3 ^ (n - a) := Nat.pow_pos (by omega)
                              have hwq : wtT n (T0 ++ [a]) = wtT n T0 + 3 ^ (n - a) := wt_snoc _ _ _
                              have hw99 := hU.size
                              first
                                | refine ⟨wtT n T2, by omega, D2, R2, T2, rfl, hU, by omega, hCk.mono (fun k hk => ?_), hF3, by omega, by omega, (fun k hk => (q4 k hk).elim (hT1 k) (fun h => h.2)), q5, q7, q8, fun hp => ?_, rfl⟩
                                  · rcases hk with hk | hk
                                    · have h1 := hk.1; have h2 := hk.2; exact ⟨h1, by omega⟩
                                    · exact ⟨by omega, hk.2⟩
                                  · obtain ⟨i1, i2, i3, i4, i5⟩ := hIq hp
                                    obtain ⟨j1, j2, j3, j4⟩ := hI1 hp
                                    obtain ⟨_, k2, k3, k4, _, _⟩ := hIp hp
                                    rw [hd0, ht0] at i3
                                    have hw : IntKind.i64.wrap (d0 + 1) = d0 + 1 := wrap_i64_in (by omega) (by omega)
                                    try rw [hw] at he2
                                    have hk1 : nextB i = true → D1.getD (a + 1) 0 ≠ 0 := fun hx => by
                                      obtain ⟨m1, m2, m3⟩ := j4 hx
                                      have := fine_takes i3 hp k3
                                      have := (tk_le hop).2.2.1
                                      omega
                                    first
                                      | (have hmem : (i.n, d1, t1) ∈ succsI i a (D1.getD a 0) (R1.getD a 0) := by
                                           rw [j2, j3, i4, i5]
                                           exact List.mem_append.2 (.inr (by rw [if_pos (by omega)]; simp))
                                         obtain ⟨l1, l2, l3, l4, l5, l6⟩ := (reach_inv j1 (by rw [j2]; exact k2) hi (by rw [j2, j3]; exact i3) hp hmem (by rw [hn]; exact he2)).2 rfl
                                         have l7 := l6 a (by rw [j2]; exact k2)
                                         refine inv_done l1 (proc_of hi (l7.1.trans j2) (l7.2.trans j3) i3 (fun hx => ?_) (fun _ => ⟨l2, l3, by rw [l4, i4], by rw [l5, i5]⟩) (fun hx => by omega))
                                         obtain ⟨m1, m2, m3⟩ := j4 hx
                                         have l8 := l6 (a + 1) (hk1 hx)
                                         exact ⟨by omega, by rw [l8.1, m2, i4], by rw [l8.2, m3, i5]⟩)
                                      | (have hmem : (i.n, d0 + 1, t0) ∈ succsI i a (D1.getD a 0) (R1.getD a 0) := by
                                           rw [j2, j3]
                                           exact List.mem_append.2 (.inr (by rw [if_neg (by omega), if_pos (by omega)]; simp))
                                         obtain ⟨l1, l2, l3, l4, l5, l6⟩ := (reach_inv j1 (by rw [j2]; exact k2) hi (by rw [j2, j3]; exact i3) hp hmem (by rw [hn]; exact he2)).2 rfl
                                         have l7 := l6 a (by rw [j2]; exact k2)
                                         refine inv_done l1 (proc_of hi (l7.1.trans j2) (l7.2.trans j3) i3 (fun hx => ?_) (fun hx => by omega) (fun _ => ⟨l2, l3, l4, l5⟩))
                                         obtain ⟨m1, m2, m3⟩ := j4 hx
                                         have l8 := l6 (a + 1) (hk1 hx)
                                         exact ⟨by omega, by rw [l8.1, m2, i4], by rw [l8.2, m3, i5]⟩)
                                | refine ⟨wtT n T1, by omega, D1, R1, T1, rfl, hU, by omega, hCk.mono (fun k hk => ⟨hk.1, hk.2.2.2⟩), hF3, hD1, hR1, hT1, hSt1, hKD1, hKR1, fun hp => ?_, rfl⟩
                                  obtain ⟨i1, i2, i3, i4, i5⟩ := hIq hp
                                  obtain ⟨j1, j2, j3, j4⟩ := hI1 hp
                                  rw [hd0, ht0] at i3
                                  refine inv_done j1 (proc_of hi j2 j3 i3 (fun hx => ?_) (fun hx => by omega) (fun hx => by omega))
                                  obtain ⟨m1, m2, m3⟩ := j4 hx
                                  exact ⟨by omega, by rw [m2, i4], by rw [m3, i5]⟩
                     · try (exfalso; first | (simp at hc19; done) | (simp only [decide_eq_true_eq, decide_eq_false_iff_not, Bool.not_eq_true', Bool.not_eq_false', Bool.not_eq_true, Bool.not_eq_false] at hc19; omega) | omega)
                       all_goals
                        try simp only [decide_eq_true_eq, decide_eq_false_iff_not, Bool.not_eq_true', Bool.not_eq_false', Bool.not_eq_true, Bool.not_eq_false, Option.isNone_none, Option.isNone_some, Option.isSome_none, Option.isSome_some, ne_eq, Decidable.not_not] at hc19
                        refine WC.seq ?_
                        refine WC.region ?_
                        refine WL.val rfl rfl rfl rfl (r_eql rfl (ev_t rfl) ev_c) ?_
                        refine WL.val rfl rfl rfl rfl (r_assign rfl (ev_t rfl)) ?_
                        refine WL.nil ?_
                        refine WX.keep [(1, _), (2, _), (3, _), (7, _), (8, _), (9, _), (11, _), (12, _), (13, _), (17, _), (112, _)] ⟨rfl, rfl, rfl, rfl, rfl, rfl, rfl, rfl, rfl, rfl, rfl, trivial⟩ ?_
                        refine WX.next ?_
                        refine WC.cond rfl (ev_t rfl) (fun hc22 => ?_) (fun hc22 => ?_)
                        · try (exfalso; first | (simp at hc22; done) | (simp only [decide_eq_true_eq, decide_eq_false_iff_not, Bool.not_eq_true', Bool.not_eq_false', Bool.not_eq_true, Bool.not_eq_false] at hc22; omega) | omega)
                          all_goals
                           try simp only [decide_eq_true_eq, decide_eq_false_iff_not, Bool.not_eq_true', Bool.not_eq_false', Bool.not_eq_true, Bool.not_eq_false, Option.isNone_none, Option.isNone_some, Option.isSome_none, Option.isSome_some, ne_eq, Decidable.not_not] at hc22
                           refine WC.seq ?_
                           refine WC.region ?_
                           first | refine WL.val rfl rfl rfl rfl (r_field0 rfl (ev_t rfl) fld_44_1) ?_ | refine WL.val rfl rfl rfl rfl (r_fieldAt rfl (ev_t rfl) fld_44_1) ?_
                           refine WL.val rfl rfl rfl rfl (r_load rfl (ev_t rfl) flat_2 (Blk.cell hbi rfl)) ?_
                           first | refine WL.val rfl rfl rfl rfl (r_field0 rfl (ev_t rfl) fld_42_1) ?_ | refine WL.val rfl rfl rfl rfl (r_fieldAt rfl (ev_t rfl) fld_42_1) ?_
                           refine WL.val rfl rfl rfl rfl (r_load rfl (ev_t rfl) flat_40 (Blk.cell hF3 rfl)) ?_
                           refine WL.val rfl rfl rfl rfl (r_lenSlice (ts := #[]) rfl (ev_t rfl) elem_40) ?_
                           refine WL.val rfl rfl rfl rfl (r_geq rfl (ev_t rfl) (ev_t rfl)) ?_
                           refine WL.val rfl rfl rfl rfl (r_move rfl (ev_t rfl)) ?_
                           refine WL.cases 120 rfl (fun hb23_6 => ?_) (fun hb23_6 => ?_)
                           · try (exfalso; first | (simp at hb23_6; done) | (simp only [decide_eq_true_eq, decide_eq_false_iff_not, Bool.not_eq_true', Bool.not_eq_false', Bool.not_eq_true, Bool.not_eq_false] at hb23_6; omega) | omega)
                             all_goals
                              try simp only [decide_eq_true_eq, decide_eq_false_iff_not, Bool.not_eq_true', Bool.not_eq_false', Bool.not_eq_true, Bool.not_eq_false, Option.isNone_none, Option.isNone_some, Option.isSome_none, Option.isSome_some, ne_eq, Decidable.not_not] at hb23_6
                              refine WL.skip rfl rfl rfl ?_
                              refine WL.skip rfl rfl rfl ?_
                              refine WL.skip rfl rfl rfl ?_
                              refine WL.skip rfl rfl rfl ?_
                              refine WL.skip rfl rfl rfl ?_
                              refine WL.skip rfl rfl rfl ?_
                              refine WL.skip rfl rfl rfl ?_
                              refine WL.skip rfl rfl rfl ?_
                              refine WL.val rfl rfl rfl rfl (r_pickT rfl (ev_t rfl) ev_c) ?_
                              refine WL.nil ?_
                              refine WX.keep [(1, _), (2, _), (3, _), (7, _), (8, _), (9, _), (129, _)] ⟨rfl, rfl, rfl, rfl, rfl, rfl, rfl, trivial⟩ ?_
                              refine WX.next ?_
                              refine WC.cond_true rfl (ev_t rfl) ?_
                              refine WC.seq ?_
                              refine WC.region ?_
                              refine WL.val rfl rfl rfl rfl (r_assign rfl ev_c) ?_
                              refine WL.nil ?_
                              refine WX.keep [(6, _)] ⟨rfl, trivial⟩ ?_
                              refine WX.next ?_
                              refine WC.ret ?_
                              refine WX.blockRet ?_
                              refine WX.blockRet ?_
                              refine WX.thenRet ?_
                              refine WX.blockRet ?_
                              refine WX.thenRet ?_
                              refine WX.retE1 rfl rfl ?_
                              refine ⟨⟨false, rfl, fun _ => rfl, fun hp _ => ⟨(fun h => by cases h), fun hg => ?_⟩⟩, hU⟩
                              obtain ⟨i1, i2, i3, i4, i5⟩ := hIq hp
                              obtain ⟨j1, j2, j3, j4⟩ := hI1 hp
                              obtain ⟨_, k2, k3, k4, _, _⟩ := hIp hp
                              have hw : IntKind.i64.wrap (d0 + 1) = d0 + 1 := wrap_i64_in (by omega) (by omega)
                              have hmem : (i.n, d0 + 1, t0) ∈ succsI i a (D1.getD a 0) (R1.getD a 0) := by
                                rw [j2, j3]
                                exact List.mem_append.2 (.inr (by rw [if_neg (by omega), if_pos (by omega)]; simp))
                              rw [hd0, ht0] at i3
                              have hb : ∃ D2 R2 T2, reachP n a i.n (d0 + 1) t0 D1 R1 T1 = (false, D2, R2, T2) := by
                                first
                                  | exact ⟨_, _, _, by rw [← hc23, ← hw]; exact he2⟩
                                  | exact ⟨D1, R1, T1, by unfold reachP; rw [if_pos (.inr (by omega))]⟩
                              obtain ⟨_, _, _, hb⟩ := hb
                              exact absurd hg ((reach_inv j1 (by rw [j2]; exact k2) hi (by rw [j2, j3]; exact i3) hp hmem (by rw [hn]; exact hb)).1 rfl)
                           · try (exfalso; first | (simp at hb23_6; done) | (simp only [decide_eq_true_eq, decide_eq_false_iff_not, Bool.not_eq_true', Bool.not_eq_false', Bool.not_eq_true, Bool.not_eq_false] at hb23_6; omega) | omega)
                             all_goals
                              try simp only [decide_eq_true_eq, decide_eq_false_iff_not, Bool.not_eq_true', Bool.not_eq_false', Bool.not_eq_true, Bool.not_eq_false, Option.isNone_none, Option.isNone_some, Option.isSome_none, Option.isSome_some, ne_eq, Decidable.not_not] at hb23_6
                              obtain ⟨b2, D2, R2, T2, he2⟩ : ∃ b2 D2 R2 T2, reachP n a i.n (IntKind.i64.wrap (d0 + 1)) t0 D1 R1 T1 = (b2, D2, R2, T2) := ⟨_, _, _, _, rfl⟩
                              obtain ⟨q1, q2, q3, q4⟩ := wt_reach (by omega) he2
                              obtain ⟨q5, q6⟩ := hSt1.reach (by omega) he2
                              obtain ⟨q7, q8⟩ := inK_reach hD1 hR1 hKD1 hKR1 (wrap_inK _ _) hKt he2
                              refine WL.val rfl rfl rfl rfl (r_move rfl (ev_t rfl)) ?_
                              first | refine WL.val rfl rfl rfl rfl (r_field0 rfl (ev_t rfl) fld_44_1) ?_ | refine WL.val rfl rfl rfl rfl (r_fieldAt rfl (ev_t rfl) fld_44_1) ?_
                              refine WL.val rfl rfl rfl rfl (r_load rfl (ev_t rfl) flat_2 (Blk.cell hbi rfl)) ?_
                              refine WL.val rfl rfl rfl rfl (r_move rfl (ev_t rfl)) ?_
                              refine WL.val rfl rfl rfl rfl (r_add rfl (ev_t rfl) ev_c) ?_
                              refine WL.val rfl rfl rfl rfl (r_move rfl (ev_t rfl)) ?_
                              refine WL.cons (SO.callV (vs := [_, _, _]) rfl (ev_t rfl) body_37 ⟨(ev_t rfl), (ev_t rfl), (ev_t rfl), trivial⟩ rfl (reach_ok hCk hba hF3 (fun h => by have := h.2; omega) (fun h => by have := h.1; omega) hD1 hR1 (by omega) he2) rfl rfl rfl rfl ?_)
                              rintro v w24 ⟨rfl, hCk, hu24⟩
                              have hps := hu24.size
                              have hs24 := hu24.size
                              replace hU := hU.trans hu24 (by first | exact (fun _ _ h => h) | exact (fun _ _ h => h.elim) | (intro k hl hk; (try simp only [At, New, Grow, From, No] at hk ⊢); omega) | (intro k hl hk; first | (have h1 := hk.1; omega) | ((try simp only [At, New, Grow, From, No] at *); omega)))
                              replace hF3 := hF3.upd hu24 (by first | exact (fun h => h) | (simp only [At, No]; omega) | (exact fun h => by have h1 := h.1; omega))
                              replace hba := hba.upd hu24 (by first | exact (fun h => h) | (simp only [At, No]; omega) | (exact fun h => by have h1 := h.1; have h2 := h.2; omega))
                              replace hbi := hbi.upd hu24 (by first | exact (fun h => h) | (simp only [At, No]; omega) | (exact fun h => by have h1 := h.1; have h2 := h.2; omega))
                              refine WL.val rfl rfl rfl rfl (r_not rfl (ev_t rfl)) ?_
                              refine WL.val rfl rfl rfl rfl (r_pickF rfl (ev_t rfl) (ev_t rfl)) ?_
                              refine WL.nil ?_
                              refine WX.keep [(1, _), (2, _), (3, _), (7, _), (8, _), (9, _), (129, _)] ⟨rfl, rfl, rfl, rfl, rfl, rfl, rfl, trivial⟩ ?_
                              refine WX.next ?_
                              refine WC.cond rfl (ev_t rfl) (fun hc23 => ?_) (fun hc23 => ?_)
                              · try (exfalso; first | (simp at hc23; done) | (simp only [decide_eq_true_eq, decide_eq_false_iff_not, Bool.not_eq_true', Bool.not_eq_false', Bool.not_eq_true, Bool.not_eq_false] at hc23; omega) | omega)
                                all_goals
                                 try simp only [decide_eq_true_eq, decide_eq_false_iff_not, Bool.not_eq_true', Bool.not_eq_false', Bool.not_eq_true, Bool.not_eq_false, Option.isNone_none, Option.isNone_some, Option.isSome_none, Option.isSome_some, ne_eq, Decidable.not_not] at hc23
                                 refine WC.seq ?_
                                 refine WC.region ?_
                                 refine WL.val rfl rfl rfl rfl (r_assign rfl ev_c) ?_
                                 refine WL.nil ?_
                                 refine WX.keep [(6, _)] ⟨rfl, trivial⟩ ?_
                                 refine WX.next ?_
                                 refine WC.ret ?_
                                 refine WX.blockRet ?_
                                 refine WX.blockRet ?_
                                 refine WX.thenRet ?_
                                 refine WX.blockRet ?_
                                 refine WX.thenRet ?_
                                 refine WX.retE1 rfl rfl ?_
                                 refine ⟨⟨false, rfl, fun _ => rfl, fun hp _ => ⟨(fun h => by cases h), fun hg => ?_⟩⟩, hU⟩
                                 obtain ⟨i1, i2, i3, i4, i5⟩ := hIq hp
                                 obtain ⟨j1, j2, j3, j4⟩ := hI1 hp
                                 obtain ⟨_, k2, k3, k4, _, _⟩ := hIp hp
                                 have hw : IntKind.i64.wrap (d0 + 1) = d0 + 1 := wrap_i64_in (by omega) (by omega)
                                 have hmem : (i.n, d0 + 1, t0) ∈ succsI i a (D1.getD a 0) (R1.getD a 0) := by
                                   rw [j2, j3]
                                   exact List.mem_append.2 (.inr (by rw [if_neg (by omega), if_pos (by omega)]; simp))
                                 rw [hd0, ht0] at i3
                                 have hb : ∃ D2 R2 T2, reachP n a i.n (d0 + 1) t0 D1 R1 T1 = (false, D2, R2, T2) := by
                                   first
                                     | exact ⟨_, _, _, by rw [← hc23, ← hw]; exact he2⟩
                                     | exact ⟨D1, R1, T1, by unfold reachP; rw [if_pos (.inr (by omega))]⟩
                                 obtain ⟨_, _, _, hb⟩ := hb
                                 exact absurd hg ((reach_inv j1 (by rw [j2]; exact k2) hi (by rw [j2, j3]; exact i3) hp hmem (by rw [hn]; exact hb)).1 rfl)
                              · try (exfalso; first | (simp at hc23; done) | (simp only [decide_eq_true_eq, decide_eq_false_iff_not, Bool.not_eq_true', Bool.not_eq_false', Bool.not_eq_true, Bool.not_eq_false] at hc23; omega) | omega)
                                all_goals
                                 try simp only [decide_eq_true_eq, decide_eq_false_iff_not, Bool.not_eq_true', Bool.not_eq_false', Bool.not_eq_true, Bool.not_eq_false, Option.isNone_none, Option.isNone_some, Option.isSome_none, Option.isSome_some, ne_eq, Decidable.not_not] at hc23
                                 subst hc23
                                 refine WC.skip ?_
                                 refine WX.blockNormal ?_
                                 refine WX.blockNormal ?_
                                 refine WX.meet [(1, _), (2, _), (3, _), (7, _), (8, _), (9, _)] ⟨rfl, rfl, rfl, rfl, rfl, rfl, trivial⟩ ?_
                                 have hP : 0 < 3 ^ (n - a) := Nat.pow_pos (by omega)
                                 have hwq : wtT n (T0 ++ [a]) = wtT n T0 + 3 ^ (n - a) := wt_snoc _ _ _
                                 have hw99 := hU.size
                                 first
                                   | refine ⟨wtT n T2, by omega, D2, R2, T2, rfl, hU, by omega, hCk.mono (fun k hk => ?_), hF3, by omega, by omega, (fun k hk => (q4 k hk).elim (hT1 k) (fun h => h.2)), q5, q7, q8, fun hp => ?_, rfl⟩
                                     · rcases hk with hk | hk
                                       · have h1 := hk.1; have h2 := hk.2; exact ⟨h1, by omega⟩
                                       · exact ⟨by omega, hk.2⟩
                                     · obtain ⟨i1, i2, i3, i4, i5⟩ := hIq hp
                                       obtain ⟨j1, j2, j3, j4⟩ := hI1 hp
                                       obtain ⟨_, k2, k3, k4, _, _⟩ := hIp hp
                                       rw [hd0, ht0] at i3
                                       have hw : IntKind.i64.wrap (d0 + 1) = d0 + 1 := wrap_i64_in (by omega) (by omega)
                                       try rw [hw] at he2
                                       have hk1 : nextB i = true → D1.getD (a + 1) 0 ≠ 0 := fun hx => by
                                         obtain ⟨m1, m2, m3⟩ := j4 hx
                                         have := fine_takes i3 hp k3
                                         have := (tk_le hop).2.2.1
                                         omega
                                       first
                                         | (have hmem : (i.n, d1, t1) ∈ succsI i a (D1.getD a 0) (R1.getD a 0) := by
                                              rw [j2, j3, i4, i5]
                                              exact List.mem_append.2 (.inr (by rw [if_pos (by omega)]; simp))
                                            obtain ⟨l1, l2, l3, l4, l5, l6⟩ := (reach_inv j1 (by rw [j2]; exact k2) hi (by rw [j2, j3]; exact i3) hp hmem (by rw [hn]; exact he2)).2 rfl
                                            have l7 := l6 a (by rw [j2]; exact k2)
                                            refine inv_done l1 (proc_of hi (l7.1.trans j2) (l7.2.trans j3) i3 (fun hx => ?_) (fun _ => ⟨l2, l3, by rw [l4, i4], by rw [l5, i5]⟩) (fun hx => by omega))
                                            obtain ⟨m1, m2, m3⟩ := j4 hx
                                            have l8 := l6 (a + 1) (hk1 hx)
                                            exact ⟨by omega, by rw [l8.1, m2, i4], by rw [l8.2, m3, i5]⟩)
                                         | (have hmem : (i.n, d0 + 1, t0) ∈ succsI i a (D1.getD a 0) (R1.getD a 0) := by
                                              rw [j2, j3]
                                              exact List.mem_append.2 (.inr (by rw [if_neg (by omega), if_pos (by omega)]; simp))
                                            obtain ⟨l1, l2, l3, l4, l5, l6⟩ := (reach_inv j1 (by rw [j2]; exact k2) hi (by rw [j2, j3]; exact i3) hp hmem (by rw [hn]; exact he2)).2 rfl
                                            have l7 := l6 a (by rw [j2]; exact k2)
                                            refine inv_done l1 (proc_of hi (l7.1.trans j2) (l7.2.trans j3) i3 (fun hx => ?_) (fun hx => by omega) (fun _ => ⟨l2, l3, l4, l5⟩))
                                            obtain ⟨m1, m2, m3⟩ := j4 hx
                                            have l8 := l6 (a + 1) (hk1 hx)
                                            exact ⟨by omega, by rw [l8.1, m2, i4], by rw [l8.2, m3, i5]⟩)
                                   | refine ⟨wtT n T1, by omega, D1, R1, T1, rfl, hU, by omega, hCk.mono (fun k hk => ⟨hk.1, hk.2.2.2⟩), hF3, hD1, hR1, hT1, hSt1, hKD1, hKR1, fun hp => ?_, rfl⟩
                                     obtain ⟨i1, i2, i3, i4, i5⟩ := hIq hp
                                     obtain ⟨j1, j2, j3, j4⟩ := hI1 hp
                                     rw [hd0, ht0] at i3
                                     refine inv_done j1 (proc_of hi j2 j3 i3 (fun hx => ?_) (fun hx => by omega) (fun hx => by omega))
                                     obtain ⟨m1, m2, m3⟩ := j4 hx
                                     exact ⟨by omega, by rw [m2, i4], by rw [m3, i5]⟩
                        · try (exfalso; first | (simp at hc22; done) | (simp only [decide_eq_true_eq, decide_eq_false_iff_not, Bool.not_eq_true', Bool.not_eq_false', Bool.not_eq_true, Bool.not_eq_false] at hc22; omega) | omega)
                          all_goals
                           try simp only [decide_eq_true_eq, decide_eq_false_iff_not, Bool.not_eq_true', Bool.not_eq_false', Bool.not_eq_true, Bool.not_eq_false, Option.isNone_none, Option.isNone_some, Option.isSome_none, Option.isSome_some, ne_eq, Decidable.not_not] at hc22
                           refine WC.skip ?_
                           refine WX.blockNormal ?_
                           refine WX.blockNormal ?_
                           refine WX.meet [(1, _), (2, _), (3, _), (7, _), (8, _), (9, _)] ⟨rfl, rfl, rfl, rfl, rfl, rfl, trivial⟩ ?_
                           have hP : 0 < 3 ^ (n - a) := Nat.pow_pos (by omega)
                           have hwq : wtT n (T0 ++ [a]) = wtT n T0 + 3 ^ (n - a) := wt_snoc _ _ _
                           have hw99 := hU.size
                           first
                             | refine ⟨wtT n T2, by omega, D2, R2, T2, rfl, hU, by omega, hCk.mono (fun k hk => ?_), hF3, by omega, by omega, (fun k hk => (q4 k hk).elim (hT1 k) (fun h => h.2)), q5, q7, q8, fun hp => ?_, rfl⟩
                               · rcases hk with hk | hk
                                 · have h1 := hk.1; have h2 := hk.2; exact ⟨h1, by omega⟩
                                 · exact ⟨by omega, hk.2⟩
                               · obtain ⟨i1, i2, i3, i4, i5⟩ := hIq hp
                                 obtain ⟨j1, j2, j3, j4⟩ := hI1 hp
                                 obtain ⟨_, k2, k3, k4, _, _⟩ := hIp hp
                                 rw [hd0, ht0] at i3
                                 have hw : IntKind.i64.wrap (d0 + 1) = d0 + 1 := wrap_i64_in (by omega) (by omega)
                                 try rw [hw] at he2
                                 have hk1 : nextB i = true → D1.getD (a + 1) 0 ≠ 0 := fun hx => by
                                   obtain ⟨m1, m2, m3⟩ := j4 hx
                                   have := fine_takes i3 hp k3
                                   have := (tk_le hop).2.2.1
                                   omega
                                 first
                                   | (have hmem : (i.n, d1, t1) ∈ succsI i a (D1.getD a 0) (R1.getD a 0) := by
                                        rw [j2, j3, i4, i5]
                                        exact List.mem_append.2 (.inr (by rw [if_pos (by omega)]; simp))
                                      obtain ⟨l1, l2, l3, l4, l5, l6⟩ := (reach_inv j1 (by rw [j2]; exact k2) hi (by rw [j2, j3]; exact i3) hp hmem (by rw [hn]; exact he2)).2 rfl
                                      have l7 := l6 a (by rw [j2]; exact k2)
                                      refine inv_done l1 (proc_of hi (l7.1.trans j2) (l7.2.trans j3) i3 (fun hx => ?_) (fun _ => ⟨l2, l3, by rw [l4, i4], by rw [l5, i5]⟩) (fun hx => by omega))
                                      obtain ⟨m1, m2, m3⟩ := j4 hx
                                      have l8 := l6 (a + 1) (hk1 hx)
                                      exact ⟨by omega, by rw [l8.1, m2, i4], by rw [l8.2, m3, i5]⟩)
                                   | (have hmem : (i.n, d0 + 1, t0) ∈ succsI i a (D1.getD a 0) (R1.getD a 0) := by
                                        rw [j2, j3]
                                        exact List.mem_append.2 (.inr (by rw [if_neg (by omega), if_pos (by omega)]; simp))
                                      obtain ⟨l1, l2, l3, l4, l5, l6⟩ := (reach_inv j1 (by rw [j2]; exact k2) hi (by rw [j2, j3]; exact i3) hp hmem (by rw [hn]; exact he2)).2 rfl
                                      have l7 := l6 a (by rw [j2]; exact k2)
                                      refine inv_done l1 (proc_of hi (l7.1.trans j2) (l7.2.trans j3) i3 (fun hx => ?_) (fun hx => by omega) (fun _ => ⟨l2, l3, l4, l5⟩))
                                      obtain ⟨m1, m2, m3⟩ := j4 hx
                                      have l8 := l6 (a + 1) (hk1 hx)
                                      exact ⟨by omega, by rw [l8.1, m2, i4], by rw [l8.2, m3, i5]⟩)
                             | refine ⟨wtT n T1, by omega, D1, R1, T1, rfl, hU, by omega, hCk.mono (fun k hk => ⟨hk.1, hk.2.2.2⟩), hF3, hD1, hR1, hT1, hSt1, hKD1, hKR1, fun hp => ?_, rfl⟩
                               obtain ⟨i1, i2, i3, i4, i5⟩ := hIq hp
                               obtain ⟨j1, j2, j3, j4⟩ := hI1 hp
                               rw [hd0, ht0] at i3
                               refine inv_done j1 (proc_of hi j2 j3 i3 (fun hx => ?_) (fun hx => by omega) (fun hx => by omega))
                               obtain ⟨m1, m2, m3⟩ := j4 hx
                               exact ⟨by omega, by rw [m2, i4], by rw [m3, i5]⟩
          · try (exfalso; first | (simp at hc7; done) | (simp only [decide_eq_true_eq, decide_eq_false_iff_not, Bool.not_eq_true', Bool.not_eq_false', Bool.not_eq_true, Bool.not_eq_false] at hc7; omega) | omega)
            all_goals
             try simp only [decide_eq_true_eq, decide_eq_false_iff_not, Bool.not_eq_true', Bool.not_eq_false', Bool.not_eq_true, Bool.not_eq_false, Option.isNone_none, Option.isNone_some, Option.isSome_none, Option.isSome_some, ne_eq, Decidable.not_not] at hc7
             obtain rfl : T = [] := List.eq_nil_of_length_eq_zero (by omega)
             refine WC.exit ?_
             refine WX.thenExit ?_
             refine WX.thenExit ?_
             refine WX.blockHere ?_
             refine WX.next ?_
             refine WC.seq ?_
             refine WC.region ?_
             refine WL.val rfl rfl rfl rfl (r_assign rfl ev_c) ?_
             refine WL.nil ?_
             refine WX.keep [(6, _)] ⟨rfl, trivial⟩ ?_
             refine WX.next ?_
             refine WC.ret ?_
             refine WX.retE1 rfl rfl ?_
             exact ⟨⟨true, rfl, fun h => by omega, fun hp _ => ⟨fun _ => inv_end hp (hI hp), fun _ => rfl⟩⟩, hU⟩
end Go.Proofs.YtipabhbnljadfaaDoor
