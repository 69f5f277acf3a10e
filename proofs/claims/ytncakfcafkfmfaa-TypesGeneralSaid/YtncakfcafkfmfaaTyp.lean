/-
  law 06: TypesGeneral.
-/
import Derived.Test.YtncakfcafkfmfaaTyl
namespace Go.Proofs.Ytncakfcafkfmfaa
open Go
set_option linter.unusedSimpArgs false
set_option linter.unusedVariables false

theorem TRs.tv {w : World} {F : Nat → Prop} {xs : List C3} {ts : List Tr} (h : TRs w F xs ts) {i : Nat} (hi : i < ts.length) : ∃ a b c, xs[i]? = some (a, b, c) ∧ TR w F (a, b, c) ts[i] := by
  have hl : i < xs.length := by have := h.1; omega
  have hx : xs[i]? = some xs[i] := List.getElem?_eq_getElem hl
  have := h.2 i _ _ hx (List.getElem?_eq_getElem hi)
  generalize xs[i] = c at *
  obtain ⟨c1, c2, c3'⟩ := c
  exact ⟨c1, c2, c3', hx, this⟩
/-- the numbers from 1 on -/
def ones (n : Nat) : List Int := (List.range n).map fun (j : Nat) => (j : Int) + 1
theorem ones_len (n : Nat) : (ones n).length = n := by simp [ones]
theorem ones_succ (n : Nat) : ones (n + 1) = ones n ++ [(n : Int) + 1] := by simp [ones, List.range_succ]
theorem mem_ones {n : Nat} {y : Int} (h : y ∈ ones n) : 1 ≤ y ∧ y ≤ n := by
  simp only [ones, List.mem_map, List.mem_range] at h
  obtain ⟨j, hj, rfl⟩ := h
  omega

set_option maxHeartbeats 8000000 in
theorem typesGeneral.walk {w : World} {a1 a2 a3 b1 b2 b3 tv : Value} {ta tb : Tr} {xt : List C3} {tt : List Tr} (hta : TR w (fun k => k < w.heap.size) (a1, a2, a3) ta) (htb : TR w (fun k => k < w.heap.size) (b1, b2, b3) tb)
    (hrt : Rd w (fun k => k < w.heap.size) tv tt.length 3 (xt.flatMap c3)) (htt : TRs w (fun k => k < w.heap.size) xt tt) :
    Ret Try.prog 4 #[.agg #[a1, a2, a3], .agg #[b1, b2, b3], tv] w fun v w' => v = .bool true ∧ Upd No w w' := by
  obtain ⟨At_, kt, rfl, _⟩ := hrt.slice_form
  obtain ⟨B0, hB0⟩ : ∃ B0, B0 = w.heap.size := ⟨_, rfl⟩
  rw [← hB0] at hta htb hrt htt
  refine enterRet (vs := [_, _, _]) (N := 85) Try.func4 rfl rfl rfl ?_
  have hU := Upd.refl No w
  refine WC.keep [(0, _), (1, _), (2, _)] ⟨rfl, rfl, rfl, trivial⟩ ?_
  refine WC.seq ?_
  refine WC.region ?_
  refine WL.cons (SO.alloc rfl rfl rfl rfl (r_boxAgg rfl (ev_t rfl)) ?_)
  intro w1 hu1 hB1 hz1
  have hs1 := hu1.size
  replace hU := hU.trans hu1 (by first | exact (fun _ _ h => h) | exact (fun _ _ h => h.elim) | (intro k hl hk; (try simp only [At, New, Grow, From, No] at hk ⊢); omega) | (intro k hl hk; first | (have := hMut k hk; omega) | (have := hGv k hk; omega) | (have := hGl k hk; omega)))
  replace hta := hta.upd hu1 (fun k hk hl hS => by first | exact (show False from hS).elim | (simp only [At, New] at hk hS; omega) | (simp only [At] at hS; omega) | (have := hMut k hS; omega) | (have := hGv k hS; omega) | (have := hGl k hS; omega))
  replace htb := htb.upd hu1 (fun k hk hl hS => by first | exact (show False from hS).elim | (simp only [At, New] at hk hS; omega) | (simp only [At] at hS; omega) | (have := hMut k hS; omega) | (have := hGv k hS; omega) | (have := hGl k hS; omega))
  replace hrt := hrt.upd hu1 (fun k hk hl hS => by first | exact (show False from hS).elim | (simp only [At, New] at hk hS; omega) | (simp only [At] at hS; omega) | (have := hMut k hS; omega) | (have := hGv k hS; omega) | (have := hGl k hS; omega))
  replace htt := htt.upd hu1 (fun k hk hl hS => by first | exact (show False from hS).elim | (simp only [At, New] at hk hS; omega) | (simp only [At] at hS; omega) | (have := hMut k hS; omega) | (have := hGv k hS; omega) | (have := hGl k hS; omega))
  refine WL.cons (SO.alloc rfl rfl rfl rfl (r_boxAgg rfl (ev_t rfl)) ?_)
  intro w2 hu2 hB2 hz2
  have hs2 := hu2.size
  replace hU := hU.trans hu2 (by first | exact (fun _ _ h => h) | exact (fun _ _ h => h.elim) | (intro k hl hk; (try simp only [At, New, Grow, From, No] at hk ⊢); omega) | (intro k hl hk; first | (have := hMut k hk; omega) | (have := hGv k hk; omega) | (have := hGl k hk; omega)))
  replace hta := hta.upd hu2 (fun k hk hl hS => by first | exact (show False from hS).elim | (simp only [At, New] at hk hS; omega) | (simp only [At] at hS; omega) | (have := hMut k hS; omega) | (have := hGv k hS; omega) | (have := hGl k hS; omega))
  replace htb := htb.upd hu2 (fun k hk hl hS => by first | exact (show False from hS).elim | (simp only [At, New] at hk hS; omega) | (simp only [At] at hS; omega) | (have := hMut k hS; omega) | (have := hGv k hS; omega) | (have := hGl k hS; omega))
  replace hrt := hrt.upd hu2 (fun k hk hl hS => by first | exact (show False from hS).elim | (simp only [At, New] at hk hS; omega) | (simp only [At] at hS; omega) | (have := hMut k hS; omega) | (have := hGv k hS; omega) | (have := hGl k hS; omega))
  replace htt := htt.upd hu2 (fun k hk hl hS => by first | exact (show False from hS).elim | (simp only [At, New] at hk hS; omega) | (simp only [At] at hS; omega) | (have := hMut k hS; omega) | (have := hGv k hS; omega) | (have := hGl k hS; omega))
  replace hB1 := hB1.updA hu2
  refine WL.val rfl rfl rfl rfl (r_assign rfl ev_c) ?_
  refine WL.nil ?_
  refine WX.keep [(2, _), (3, _), (4, _)] ⟨rfl, rfl, rfl, trivial⟩ ?_
  refine WX.next ?_
  refine WC.seq ?_
  refine WC.seq ?_
  refine WC.region ?_
  refine WL.val rfl rfl rfl rfl (r_loadAgg (vs := [_, _, _]) rfl (ev_t rfl) agg_28 size_28 (Blk.cellsL hB1)) ?_
  refine WL.cons (SO.call (small_ok 4 _ _ _ _ _ ta hta (by omega)) rfl body_14 ⟨(ev_t rfl), ev_c, trivial⟩ rfl rfl rfl rfl ?_)
  rintro v w3 ⟨rfl, hu3⟩
  have hs3 := hu3.size
  replace hU := hU.trans hu3 (by first | exact (fun _ _ h => h) | exact (fun _ _ h => h.elim) | (intro k hl hk; (try simp only [At, New, Grow, From, No] at hk ⊢); omega) | (intro k hl hk; first | (have := hMut k hk; omega) | (have := hGv k hk; omega) | (have := hGl k hk; omega)))
  replace hta := hta.upd hu3 (fun k hk hl hS => by first | exact (show False from hS).elim | (simp only [At, New] at hk hS; omega) | (simp only [At] at hS; omega) | (have := hMut k hS; omega) | (have := hGv k hS; omega) | (have := hGl k hS; omega))
  replace htb := htb.upd hu3 (fun k hk hl hS => by first | exact (show False from hS).elim | (simp only [At, New] at hk hS; omega) | (simp only [At] at hS; omega) | (have := hMut k hS; omega) | (have := hGv k hS; omega) | (have := hGl k hS; omega))
  replace hrt := hrt.upd hu3 (fun k hk hl hS => by first | exact (show False from hS).elim | (simp only [At, New] at hk hS; omega) | (simp only [At] at hS; omega) | (have := hMut k hS; omega) | (have := hGv k hS; omega) | (have := hGl k hS; omega))
  replace htt := htt.upd hu3 (fun k hk hl hS => by first | exact (show False from hS).elim | (simp only [At, New] at hk hS; omega) | (simp only [At] at hS; omega) | (have := hMut k hS; omega) | (have := hGv k hS; omega) | (have := hGl k hS; omega))
  replace hB1 := hB1.updA hu3
  replace hB2 := hB2.updA hu3
  refine WL.val rfl rfl rfl rfl (r_not rfl (ev_t rfl)) ?_
  refine WL.val rfl rfl rfl rfl (r_move rfl (ev_t rfl)) ?_
  refine WL.cases 16 rfl (fun hb1_3 => ?_) (fun hb1_3 => ?_)
  · try (exfalso; first | (simp at hb1_3; done) | (simp only [decide_eq_true_eq, decide_eq_false_iff_not, Bool.not_eq_true', Bool.not_eq_false', Bool.not_eq_true, Bool.not_eq_false] at hb1_3; omega) | omega)
    all_goals
     try simp only [decide_eq_true_eq, decide_eq_false_iff_not, Bool.not_eq_true', Bool.not_eq_false', Bool.not_eq_true, Bool.not_eq_false, Option.isNone_none, Option.isNone_some, Option.isSome_none, Option.isSome_some, ne_eq, Decidable.not_not] at hb1_3
     refine WL.skip rfl rfl rfl ?_
     refine WL.skip rfl rfl rfl ?_
     refine WL.skip rfl rfl rfl ?_
     refine WL.val rfl rfl rfl rfl (r_pickT rfl (ev_t rfl) ev_c) ?_
     refine WL.val rfl rfl rfl rfl (r_move rfl (ev_t rfl)) ?_
     refine WL.skip rfl rfl rfl ?_
     refine WL.skip rfl rfl rfl ?_
     refine WL.val rfl rfl rfl rfl (r_pickT rfl (ev_t rfl) ev_c) ?_
     refine WL.val rfl rfl rfl rfl (r_move rfl (ev_t rfl)) ?_
     refine WL.skip rfl rfl rfl ?_
     refine WL.skip rfl rfl rfl ?_
     refine WL.skip rfl rfl rfl ?_
     refine WL.val rfl rfl rfl rfl (r_pickT rfl (ev_t rfl) ev_c) ?_
     refine WL.nil ?_
     refine WX.keep [(2, _), (3, _), (4, _), (29, _)] ⟨rfl, rfl, rfl, rfl, trivial⟩ ?_
     refine WX.next ?_
     refine WC.cond_true rfl (ev_t rfl) ?_
     refine WC.seq ?_
     refine WC.region ?_
     refine WL.cons (SO.call (awake_ok) rfl body_10 trivial rfl rfl rfl rfl ?_)
     rintro v w4 ⟨rfl, hu4⟩
     have hs4 := hu4.size
     replace hU := hU.trans hu4 (by first | exact (fun _ _ h => h) | exact (fun _ _ h => h.elim) | (intro k hl hk; (try simp only [At, New, Grow, From, No] at hk ⊢); omega) | (intro k hl hk; first | (have := hMut k hk; omega) | (have := hGv k hk; omega) | (have := hGl k hk; omega)))
     replace hta := hta.upd hu4 (fun k hk hl hS => by first | exact (show False from hS).elim | (simp only [At, New] at hk hS; omega) | (simp only [At] at hS; omega) | (have := hMut k hS; omega) | (have := hGv k hS; omega) | (have := hGl k hS; omega))
     replace htb := htb.upd hu4 (fun k hk hl hS => by first | exact (show False from hS).elim | (simp only [At, New] at hk hS; omega) | (simp only [At] at hS; omega) | (have := hMut k hS; omega) | (have := hGv k hS; omega) | (have := hGl k hS; omega))
     replace hrt := hrt.upd hu4 (fun k hk hl hS => by first | exact (show False from hS).elim | (simp only [At, New] at hk hS; omega) | (simp only [At] at hS; omega) | (have := hMut k hS; omega) | (have := hGv k hS; omega) | (have := hGl k hS; omega))
     replace htt := htt.upd hu4 (fun k hk hl hS => by first | exact (show False from hS).elim | (simp only [At, New] at hk hS; omega) | (simp only [At] at hS; omega) | (have := hMut k hS; omega) | (have := hGv k hS; omega) | (have := hGl k hS; omega))
     replace hB1 := hB1.updA hu4
     replace hB2 := hB2.updA hu4
     refine WL.val rfl rfl rfl rfl (r_assign rfl (ev_t rfl)) ?_
     refine WL.nil ?_
     refine WX.keep [(6, _)] ⟨rfl, trivial⟩ ?_
     refine WX.next ?_
     refine WC.ret ?_
     refine WX.thenRet ?_
     refine WX.retE1 rfl rfl ?_
     exact ⟨rfl, hU⟩
  · try (exfalso; first | (simp at hb1_3; done) | (simp only [decide_eq_true_eq, decide_eq_false_iff_not, Bool.not_eq_true', Bool.not_eq_false', Bool.not_eq_true, Bool.not_eq_false] at hb1_3; omega) | omega)
    all_goals
     try simp only [decide_eq_true_eq, decide_eq_false_iff_not, Bool.not_eq_true', Bool.not_eq_false', Bool.not_eq_true, Bool.not_eq_false, Option.isNone_none, Option.isNone_some, Option.isSome_none, Option.isSome_some, ne_eq, Decidable.not_not] at hb1_3
     refine WL.val rfl rfl rfl rfl (r_loadAgg (vs := [_, _, _]) rfl (ev_t rfl) agg_28 size_28 (Blk.cellsL hB2)) ?_
     refine WL.cons (SO.call (small_ok 4 _ _ _ _ _ tb htb (by omega)) rfl body_14 ⟨(ev_t rfl), ev_c, trivial⟩ rfl rfl rfl rfl ?_)
     rintro v w5 ⟨rfl, hu5⟩
     have hs5 := hu5.size
     replace hU := hU.trans hu5 (by first | exact (fun _ _ h => h) | exact (fun _ _ h => h.elim) | (intro k hl hk; (try simp only [At, New, Grow, From, No] at hk ⊢); omega) | (intro k hl hk; first | (have := hMut k hk; omega) | (have := hGv k hk; omega) | (have := hGl k hk; omega)))
     replace hta := hta.upd hu5 (fun k hk hl hS => by first | exact (show False from hS).elim | (simp only [At, New] at hk hS; omega) | (simp only [At] at hS; omega) | (have := hMut k hS; omega) | (have := hGv k hS; omega) | (have := hGl k hS; omega))
     replace htb := htb.upd hu5 (fun k hk hl hS => by first | exact (show False from hS).elim | (simp only [At, New] at hk hS; omega) | (simp only [At] at hS; omega) | (have := hMut k hS; omega) | (have := hGv k hS; omega) | (have := hGl k hS; omega))
     replace hrt := hrt.upd hu5 (fun k hk hl hS => by first | exact (show False from hS).elim | (simp only [At, New] at hk hS; omega) | (simp only [At] at hS; omega) | (have := hMut k hS; omega) | (have := hGv k hS; omega) | (have := hGl k hS; omega))
     replace htt := htt.upd hu5 (fun k hk hl hS => by first | exact (show False from hS).elim | (simp only [At, New] at hk hS; omega) | (simp only [At] at hS; omega) | (have := hMut k hS; omega) | (have := hGv k hS; omega) | (have := hGl k hS; omega))
     replace hB1 := hB1.updA hu5
     replace hB2 := hB2.updA hu5
     refine WL.val rfl rfl rfl rfl (r_not rfl (ev_t rfl)) ?_
     refine WL.val rfl rfl rfl rfl (r_pickF rfl (ev_t rfl) (ev_t rfl)) ?_
     refine WL.val rfl rfl rfl rfl (r_move rfl (ev_t rfl)) ?_
     refine WL.cases 21 rfl (fun hb1_8 => ?_) (fun hb1_8 => ?_)
     · try (exfalso; first | (simp at hb1_8; done) | (simp only [decide_eq_true_eq, decide_eq_false_iff_not, Bool.not_eq_true', Bool.not_eq_false', Bool.not_eq_true, Bool.not_eq_false] at hb1_8; omega) | omega)
       all_goals
        try simp only [decide_eq_true_eq, decide_eq_false_iff_not, Bool.not_eq_true', Bool.not_eq_false', Bool.not_eq_true, Bool.not_eq_false, Option.isNone_none, Option.isNone_some, Option.isSome_none, Option.isSome_some, ne_eq, Decidable.not_not] at hb1_8
        refine WL.skip rfl rfl rfl ?_
        refine WL.skip rfl rfl rfl ?_
        refine WL.val rfl rfl rfl rfl (r_pickT rfl (ev_t rfl) ev_c) ?_
        refine WL.val rfl rfl rfl rfl (r_move rfl (ev_t rfl)) ?_
        refine WL.skip rfl rfl rfl ?_
        refine WL.skip rfl rfl rfl ?_
        refine WL.skip rfl rfl rfl ?_
        refine WL.val rfl rfl rfl rfl (r_pickT rfl (ev_t rfl) ev_c) ?_
        refine WL.nil ?_
        refine WX.keep [(2, _), (3, _), (4, _), (29, _)] ⟨rfl, rfl, rfl, rfl, trivial⟩ ?_
        refine WX.next ?_
        refine WC.cond_true rfl (ev_t rfl) ?_
        refine WC.seq ?_
        refine WC.region ?_
        refine WL.cons (SO.call (awake_ok) rfl body_10 trivial rfl rfl rfl rfl ?_)
        rintro v w6 ⟨rfl, hu6⟩
        have hs6 := hu6.size
        replace hU := hU.trans hu6 (by first | exact (fun _ _ h => h) | exact (fun _ _ h => h.elim) | (intro k hl hk; (try simp only [At, New, Grow, From, No] at hk ⊢); omega) | (intro k hl hk; first | (have := hMut k hk; omega) | (have := hGv k hk; omega) | (have := hGl k hk; omega)))
        replace hta := hta.upd hu6 (fun k hk hl hS => by first | exact (show False from hS).elim | (simp only [At, New] at hk hS; omega) | (simp only [At] at hS; omega) | (have := hMut k hS; omega) | (have := hGv k hS; omega) | (have := hGl k hS; omega))
        replace htb := htb.upd hu6 (fun k hk hl hS => by first | exact (show False from hS).elim | (simp only [At, New] at hk hS; omega) | (simp only [At] at hS; omega) | (have := hMut k hS; omega) | (have := hGv k hS; omega) | (have := hGl k hS; omega))
        replace hrt := hrt.upd hu6 (fun k hk hl hS => by first | exact (show False from hS).elim | (simp only [At, New] at hk hS; omega) | (simp only [At] at hS; omega) | (have := hMut k hS; omega) | (have := hGv k hS; omega) | (have := hGl k hS; omega))
        replace htt := htt.upd hu6 (fun k hk hl hS => by first | exact (show False from hS).elim | (simp only [At, New] at hk hS; omega) | (simp only [At] at hS; omega) | (have := hMut k hS; omega) | (have := hGv k hS; omega) | (have := hGl k hS; omega))
        replace hB1 := hB1.updA hu6
        replace hB2 := hB2.updA hu6
        refine WL.val rfl rfl rfl rfl (r_assign rfl (ev_t rfl)) ?_
        refine WL.nil ?_
        refine WX.keep [(6, _)] ⟨rfl, trivial⟩ ?_
        refine WX.next ?_
        refine WC.ret ?_
        refine WX.thenRet ?_
        refine WX.retE1 rfl rfl ?_
        exact ⟨rfl, hU⟩
     · try (exfalso; first | (simp at hb1_8; done) | (simp only [decide_eq_true_eq, decide_eq_false_iff_not, Bool.not_eq_true', Bool.not_eq_false', Bool.not_eq_true, Bool.not_eq_false] at hb1_8; omega) | omega)
       all_goals
        try simp only [decide_eq_true_eq, decide_eq_false_iff_not, Bool.not_eq_true', Bool.not_eq_false', Bool.not_eq_true, Bool.not_eq_false, Option.isNone_none, Option.isNone_some, Option.isSome_none, Option.isSome_some, ne_eq, Decidable.not_not] at hb1_8
        refine WL.cons (SO.call (awake_ok) rfl body_10 trivial rfl rfl rfl rfl ?_)
        rintro v w7 ⟨rfl, hu7⟩
        have hs7 := hu7.size
        replace hU := hU.trans hu7 (by first | exact (fun _ _ h => h) | exact (fun _ _ h => h.elim) | (intro k hl hk; (try simp only [At, New, Grow, From, No] at hk ⊢); omega) | (intro k hl hk; first | (have := hMut k hk; omega) | (have := hGv k hk; omega) | (have := hGl k hk; omega)))
        replace hta := hta.upd hu7 (fun k hk hl hS => by first | exact (show False from hS).elim | (simp only [At, New] at hk hS; omega) | (simp only [At] at hS; omega) | (have := hMut k hS; omega) | (have := hGv k hS; omega) | (have := hGl k hS; omega))
        replace htb := htb.upd hu7 (fun k hk hl hS => by first | exact (show False from hS).elim | (simp only [At, New] at hk hS; omega) | (simp only [At] at hS; omega) | (have := hMut k hS; omega) | (have := hGv k hS; omega) | (have := hGl k hS; omega))
        replace hrt := hrt.upd hu7 (fun k hk hl hS => by first | exact (show False from hS).elim | (simp only [At, New] at hk hS; omega) | (simp only [At] at hS; omega) | (have := hMut k hS; omega) | (have := hGv k hS; omega) | (have := hGl k hS; omega))
        replace htt := htt.upd hu7 (fun k hk hl hS => by first | exact (show False from hS).elim | (simp only [At, New] at hk hS; omega) | (simp only [At] at hS; omega) | (have := hMut k hS; omega) | (have := hGv k hS; omega) | (have := hGl k hS; omega))
        replace hB1 := hB1.updA hu7
        replace hB2 := hB2.updA hu7
        refine WL.val rfl rfl rfl rfl (r_not rfl (ev_t rfl)) ?_
        refine WL.val rfl rfl rfl rfl (r_pickF rfl (ev_t rfl) (ev_t rfl)) ?_
        refine WL.val rfl rfl rfl rfl (r_move rfl (ev_t rfl)) ?_
        refine WL.cases 25 rfl (fun hb1_12 => ?_) (fun hb1_12 => ?_)
        · try (exfalso; first | (simp at hb1_12; done) | (simp only [decide_eq_true_eq, decide_eq_false_iff_not, Bool.not_eq_true', Bool.not_eq_false', Bool.not_eq_true, Bool.not_eq_false] at hb1_12; omega) | omega)
          all_goals
           try simp only [decide_eq_true_eq, decide_eq_false_iff_not, Bool.not_eq_true', Bool.not_eq_false', Bool.not_eq_true, Bool.not_eq_false, Option.isNone_none, Option.isNone_some, Option.isSome_none, Option.isSome_some, ne_eq, Decidable.not_not] at hb1_12
           refine WL.skip rfl rfl rfl ?_
           refine WL.skip rfl rfl rfl ?_
           refine WL.skip rfl rfl rfl ?_
           refine WL.val rfl rfl rfl rfl (r_pickT rfl (ev_t rfl) ev_c) ?_
           refine WL.nil ?_
           refine WX.keep [(2, _), (3, _), (4, _), (29, _)] ⟨rfl, rfl, rfl, rfl, trivial⟩ ?_
           refine WX.next ?_
           refine WC.cond_true rfl (ev_t rfl) ?_
           refine WC.seq ?_
           refine WC.region ?_
           refine WL.cons (SO.call (awake_ok) rfl body_10 trivial rfl rfl rfl rfl ?_)
           rintro v w8 ⟨rfl, hu8⟩
           have hs8 := hu8.size
           replace hU := hU.trans hu8 (by first | exact (fun _ _ h => h) | exact (fun _ _ h => h.elim) | (intro k hl hk; (try simp only [At, New, Grow, From, No] at hk ⊢); omega) | (intro k hl hk; first | (have := hMut k hk; omega) | (have := hGv k hk; omega) | (have := hGl k hk; omega)))
           replace hta := hta.upd hu8 (fun k hk hl hS => by first | exact (show False from hS).elim | (simp only [At, New] at hk hS; omega) | (simp only [At] at hS; omega) | (have := hMut k hS; omega) | (have := hGv k hS; omega) | (have := hGl k hS; omega))
           replace htb := htb.upd hu8 (fun k hk hl hS => by first | exact (show False from hS).elim | (simp only [At, New] at hk hS; omega) | (simp only [At] at hS; omega) | (have := hMut k hS; omega) | (have := hGv k hS; omega) | (have := hGl k hS; omega))
           replace hrt := hrt.upd hu8 (fun k hk hl hS => by first | exact (show False from hS).elim | (simp only [At, New] at hk hS; omega) | (simp only [At] at hS; omega) | (have := hMut k hS; omega) | (have := hGv k hS; omega) | (have := hGl k hS; omega))
           replace htt := htt.upd hu8 (fun k hk hl hS => by first | exact (show False from hS).elim | (simp only [At, New] at hk hS; omega) | (simp only [At] at hS; omega) | (have := hMut k hS; omega) | (have := hGv k hS; omega) | (have := hGl k hS; omega))
           replace hB1 := hB1.updA hu8
           replace hB2 := hB2.updA hu8
           refine WL.val rfl rfl rfl rfl (r_assign rfl (ev_t rfl)) ?_
           refine WL.nil ?_
           refine WX.keep [(6, _)] ⟨rfl, trivial⟩ ?_
           refine WX.next ?_
           refine WC.ret ?_
           refine WX.thenRet ?_
           refine WX.retE1 rfl rfl ?_
           exact ⟨rfl, hU⟩
        · try (exfalso; first | (simp at hb1_12; done) | (simp only [decide_eq_true_eq, decide_eq_false_iff_not, Bool.not_eq_true', Bool.not_eq_false', Bool.not_eq_true, Bool.not_eq_false] at hb1_12; omega) | omega)
          all_goals
           try simp only [decide_eq_true_eq, decide_eq_false_iff_not, Bool.not_eq_true', Bool.not_eq_false', Bool.not_eq_true, Bool.not_eq_false, Option.isNone_none, Option.isNone_some, Option.isSome_none, Option.isSome_some, ne_eq, Decidable.not_not] at hb1_12
           refine WL.val rfl rfl rfl rfl (r_move rfl (ev_t rfl)) ?_
           refine WL.val rfl rfl rfl rfl (r_lenSlice (ts := #[]) rfl (ev_t rfl) elem_26) ?_
           refine WL.val rfl rfl rfl rfl (r_gtr rfl (ev_t rfl) ev_c) ?_
           refine WL.val rfl rfl rfl rfl (r_pickF rfl (ev_t rfl) (ev_t rfl)) ?_
           refine WL.nil ?_
           refine WX.keep [(2, _), (3, _), (4, _), (29, _)] ⟨rfl, rfl, rfl, rfl, trivial⟩ ?_
           refine WX.next ?_
           refine WC.cond rfl (ev_t rfl) (fun hc1 => ?_) (fun hc1 => ?_)
           · try (exfalso; first | (simp at hc1; done) | (simp only [decide_eq_true_eq, decide_eq_false_iff_not, Bool.not_eq_true', Bool.not_eq_false', Bool.not_eq_true, Bool.not_eq_false] at hc1; omega) | omega)
             all_goals
              try simp only [decide_eq_true_eq, decide_eq_false_iff_not, Bool.not_eq_true', Bool.not_eq_false', Bool.not_eq_true, Bool.not_eq_false, Option.isNone_none, Option.isNone_some, Option.isSome_none, Option.isSome_some, ne_eq, Decidable.not_not] at hc1
              refine WC.seq ?_
              refine WC.region ?_
              refine WL.cons (SO.call (awake_ok) rfl body_10 trivial rfl rfl rfl rfl ?_)
              rintro v w9 ⟨rfl, hu9⟩
              have hs9 := hu9.size
              replace hU := hU.trans hu9 (by first | exact (fun _ _ h => h) | exact (fun _ _ h => h.elim) | (intro k hl hk; (try simp only [At, New, Grow, From, No] at hk ⊢); omega) | (intro k hl hk; first | (have := hMut k hk; omega) | (have := hGv k hk; omega) | (have := hGl k hk; omega)))
              replace hta := hta.upd hu9 (fun k hk hl hS => by first | exact (show False from hS).elim | (simp only [At, New] at hk hS; omega) | (simp only [At] at hS; omega) | (have := hMut k hS; omega) | (have := hGv k hS; omega) | (have := hGl k hS; omega))
              replace htb := htb.upd hu9 (fun k hk hl hS => by first | exact (show False from hS).elim | (simp only [At, New] at hk hS; omega) | (simp only [At] at hS; omega) | (have := hMut k hS; omega) | (have := hGv k hS; omega) | (have := hGl k hS; omega))
              replace hrt := hrt.upd hu9 (fun k hk hl hS => by first | exact (show False from hS).elim | (simp only [At, New] at hk hS; omega) | (simp only [At] at hS; omega) | (have := hMut k hS; omega) | (have := hGv k hS; omega) | (have := hGl k hS; omega))
              replace htt := htt.upd hu9 (fun k hk hl hS => by first | exact (show False from hS).elim | (simp only [At, New] at hk hS; omega) | (simp only [At] at hS; omega) | (have := hMut k hS; omega) | (have := hGv k hS; omega) | (have := hGl k hS; omega))
              replace hB1 := hB1.updA hu9
              replace hB2 := hB2.updA hu9
              refine WL.val rfl rfl rfl rfl (r_assign rfl (ev_t rfl)) ?_
              refine WL.nil ?_
              refine WX.keep [(6, _)] ⟨rfl, trivial⟩ ?_
              refine WX.next ?_
              refine WC.ret ?_
              refine WX.thenRet ?_
              refine WX.retE1 rfl rfl ?_
              exact ⟨rfl, hU⟩
           · try (exfalso; first | (simp at hc1; done) | (simp only [decide_eq_true_eq, decide_eq_false_iff_not, Bool.not_eq_true', Bool.not_eq_false', Bool.not_eq_true, Bool.not_eq_false] at hc1; omega) | omega)
             all_goals
              try simp only [decide_eq_true_eq, decide_eq_false_iff_not, Bool.not_eq_true', Bool.not_eq_false', Bool.not_eq_true, Bool.not_eq_false, Option.isNone_none, Option.isNone_some, Option.isSome_none, Option.isSome_some, ne_eq, Decidable.not_not] at hc1
              have hsa : smallR 4 ta = true := by simpa using hb1_3
              have hsb : smallR 4 tb = true := by simp_all
              have hn8 : tt.length ≤ 8 := by omega
              have hxa := clean_tv hsa hta
              have hxb := clean_tv hsb htb
              have hva := clean_vars hsa
              have hvb := clean_vars hsb
              refine WC.skip ?_
              refine WX.next ?_
              refine WC.seq ?_
              refine WC.region ?_
              refine WL.val rfl rfl rfl rfl (r_loadAgg (vs := [_, _, _]) rfl (ev_t rfl) agg_28 size_28 (Blk.cellsL hB1)) ?_
              refine WL.cons (SO.call (apart_ok (by_ := 1) (by omega) _ _ _ _ _ _ _ (Nat.le_refl _) hxa (fun x hx => by have := hva x hx; omega)) rfl body_15 ⟨(ev_t rfl), ev_c, trivial⟩ rfl rfl rfl rfl ?_)
              rintro v w10 ⟨c1, c2, c3', rfl, hx, hu10⟩
              obtain ⟨mx, Ax, kx, xkx, rfl, rfl, rfl, _⟩ := hx.open
              replace hx := hx.mono (F' := fun k => B0 ≤ k ∧ k < w10.heap.size) (fun k hk => by simp only [New] at hk; omega)
              have hs10 := hu10.size
              replace hU := hU.trans hu10 (by first | exact (fun _ _ h => h) | exact (fun _ _ h => h.elim) | (intro k hl hk; (try simp only [At, New, Grow, From, No] at hk ⊢); omega) | (intro k hl hk; first | (have := hMut k hk; omega) | (have := hGv k hk; omega) | (have := hGl k hk; omega)))
              replace hrt := hrt.upd hu10 (fun k hk hl hS => by first | exact (show False from hS).elim | (simp only [At, New] at hk hS; omega) | (simp only [At] at hS; omega) | (have := hMut k hS; omega) | (have := hGv k hS; omega) | (have := hGl k hS; omega))
              replace htt := htt.upd hu10 (fun k hk hl hS => by first | exact (show False from hS).elim | (simp only [At, New] at hk hS; omega) | (simp only [At] at hS; omega) | (have := hMut k hS; omega) | (have := hGv k hS; omega) | (have := hGl k hS; omega))
              replace hB1 := hB1.updA hu10
              replace hB2 := hB2.updA hu10
              replace hxa := hxa.upd hu10 (fun k hk hl hS => by first | exact (show False from hS).elim | (simp only [At, New] at hk hS; omega) | (simp only [At] at hS; omega) | (have := hMut k hS; omega) | (have := hGv k hS; omega) | (have := hGl k hS; omega))
              replace hxb := hxb.upd hu10 (fun k hk hl hS => by first | exact (show False from hS).elim | (simp only [At, New] at hk hS; omega) | (simp only [At] at hS; omega) | (have := hMut k hS; omega) | (have := hGv k hS; omega) | (have := hGl k hS; omega))
              refine WL.cons (SO.alloc rfl rfl rfl rfl (r_alloc rfl zero_28) ?_)
              intro w11 hu11 hB11 hz11
              have hs11 := hu11.size
              replace hU := hU.trans hu11 (by first | exact (fun _ _ h => h) | exact (fun _ _ h => h.elim) | (intro k hl hk; (try simp only [At, New, Grow, From, No] at hk ⊢); omega) | (intro k hl hk; first | (have := hMut k hk; omega) | (have := hGv k hk; omega) | (have := hGl k hk; omega)))
              replace hrt := hrt.upd hu11 (fun k hk hl hS => by first | exact (show False from hS).elim | (simp only [At, New] at hk hS; omega) | (simp only [At] at hS; omega) | (have := hMut k hS; omega) | (have := hGv k hS; omega) | (have := hGl k hS; omega))
              replace htt := htt.upd hu11 (fun k hk hl hS => by first | exact (show False from hS).elim | (simp only [At, New] at hk hS; omega) | (simp only [At] at hS; omega) | (have := hMut k hS; omega) | (have := hGv k hS; omega) | (have := hGl k hS; omega))
              replace hB1 := hB1.updA hu11
              replace hB2 := hB2.updA hu11
              replace hxa := hxa.upd hu11 (fun k hk hl hS => by first | exact (show False from hS).elim | (simp only [At, New] at hk hS; omega) | (simp only [At] at hS; omega) | (have := hMut k hS; omega) | (have := hGv k hS; omega) | (have := hGl k hS; omega))
              replace hxb := hxb.upd hu11 (fun k hk hl hS => by first | exact (show False from hS).elim | (simp only [At, New] at hk hS; omega) | (simp only [At] at hS; omega) | (have := hMut k hS; omega) | (have := hGv k hS; omega) | (have := hGl k hS; omega))
              replace hx := hx.upd hu11 (fun k hk hl hS => by first | exact (show False from hS).elim | (simp only [At, New] at hk hS; omega) | (simp only [At] at hS; omega) | (have := hMut k hS; omega) | (have := hGv k hS; omega) | (have := hGl k hS; omega))
              refine WL.cons (SO.storeAll (us := [_, _, _]) rfl (ev_t rfl) (ev_t rfl) size_28 hB11 rfl rfl rfl rfl rfl ?_)
              intro w12 hu12 hB11 hz12
              have hs12 := hu12.size
              replace hU := hU.trans hu12 (by first | exact (fun _ _ h => h) | exact (fun _ _ h => h.elim) | (intro k hl hk; (try simp only [At, New, Grow, From, No] at hk ⊢); omega) | (intro k hl hk; first | (have := hMut k hk; omega) | (have := hGv k hk; omega) | (have := hGl k hk; omega)))
              replace hrt := hrt.upd hu12 (fun k hk hl hS => by first | exact (show False from hS).elim | (simp only [At, New] at hk hS; omega) | (simp only [At] at hS; omega) | (have := hMut k hS; omega) | (have := hGv k hS; omega) | (have := hGl k hS; omega))
              replace htt := htt.upd hu12 (fun k hk hl hS => by first | exact (show False from hS).elim | (simp only [At, New] at hk hS; omega) | (simp only [At] at hS; omega) | (have := hMut k hS; omega) | (have := hGv k hS; omega) | (have := hGl k hS; omega))
              replace hB1 := hB1.updA hu12
              replace hB2 := hB2.updA hu12
              replace hxa := hxa.upd hu12 (fun k hk hl hS => by first | exact (show False from hS).elim | (simp only [At, New] at hk hS; omega) | (simp only [At] at hS; omega) | (have := hMut k hS; omega) | (have := hGv k hS; omega) | (have := hGl k hS; omega))
              replace hxb := hxb.upd hu12 (fun k hk hl hS => by first | exact (show False from hS).elim | (simp only [At, New] at hk hS; omega) | (simp only [At] at hS; omega) | (have := hMut k hS; omega) | (have := hGv k hS; omega) | (have := hGl k hS; omega))
              replace hx := hx.upd hu12 (fun k hk hl hS => by first | exact (show False from hS).elim | (simp only [At, New] at hk hS; omega) | (simp only [At] at hS; omega) | (have := hMut k hS; omega) | (have := hGv k hS; omega) | (have := hGl k hS; omega))
              refine WL.nil ?_
              refine WX.keep [(2, _), (4, _), (7, _)] ⟨rfl, rfl, rfl, trivial⟩ ?_
              refine WX.next ?_
              refine WC.seq ?_
              refine WC.region ?_
              have hb7 := hB11
              obtain ⟨X, hX⟩ : ∃ X, ext (apS 1) (cleanR 4 ta) = X := ⟨_, rfl⟩
              rw [hX] at hx hb7
              have hvX : ∀ y ∈ vars X, 1 ≤ y ∧ y ≤ 8 := fun y hy => by rw [← hX] at hy; have := ap8 hva y hy; omega
              refine WL.val rfl rfl rfl rfl (r_loadAgg (vs := [_, _, _]) rfl (ev_t rfl) agg_28 size_28 (Blk.cellsL hB2)) ?_
              refine WL.cons (SO.call (apart_ok (by_ := 1) (by omega) _ _ _ _ _ _ _ (Nat.le_refl _) hxb (fun x hx => by have := hvb x hx; omega)) rfl body_15 ⟨(ev_t rfl), ev_c, trivial⟩ rfl rfl rfl rfl ?_)
              rintro v w13 ⟨c4, c5, c6, rfl, hy, hu13⟩
              obtain ⟨my, Ay, ky, xky, rfl, rfl, rfl, _⟩ := hy.open
              replace hy := hy.mono (F' := fun k => B0 ≤ k ∧ k < w13.heap.size) (fun k hk => by simp only [New] at hk; omega)
              have hs13 := hu13.size
              replace hU := hU.trans hu13 (by first | exact (fun _ _ h => h) | exact (fun _ _ h => h.elim) | (intro k hl hk; (try simp only [At, New, Grow, From, No] at hk ⊢); omega) | (intro k hl hk; first | (have := hMut k hk; omega) | (have := hGv k hk; omega) | (have := hGl k hk; omega)))
              replace hrt := hrt.upd hu13 (fun k hk hl hS => by first | exact (show False from hS).elim | (simp only [At, New] at hk hS; omega) | (simp only [At] at hS; omega) | (have := hMut k hS; omega) | (have := hGv k hS; omega) | (have := hGl k hS; omega))
              replace htt := htt.upd hu13 (fun k hk hl hS => by first | exact (show False from hS).elim | (simp only [At, New] at hk hS; omega) | (simp only [At] at hS; omega) | (have := hMut k hS; omega) | (have := hGv k hS; omega) | (have := hGl k hS; omega))
              replace hB2 := hB2.updA hu13
              replace hxa := hxa.upd hu13 (fun k hk hl hS => by first | exact (show False from hS).elim | (simp only [At, New] at hk hS; omega) | (simp only [At] at hS; omega) | (have := hMut k hS; omega) | (have := hGv k hS; omega) | (have := hGl k hS; omega))
              replace hxb := hxb.upd hu13 (fun k hk hl hS => by first | exact (show False from hS).elim | (simp only [At, New] at hk hS; omega) | (simp only [At] at hS; omega) | (have := hMut k hS; omega) | (have := hGv k hS; omega) | (have := hGl k hS; omega))
              replace hx := hx.upd hu13 (fun k hk hl hS => by first | exact (show False from hS).elim | (simp only [At, New] at hk hS; omega) | (simp only [At] at hS; omega) | (have := hMut k hS; omega) | (have := hGv k hS; omega) | (have := hGl k hS; omega))
              replace hb7 := hb7.upd hu13 (by first | exact (fun h => h) | (simp only [At]; omega) | (intro hS; have := hMut _ hS; omega) | (intro hS; have := hGv _ hS; omega) | (intro hS; have := hGl _ hS; omega))
              refine WL.cons (SO.alloc rfl rfl rfl rfl (r_alloc rfl zero_28) ?_)
              intro w14 hu14 hB14 hz14
              have hs14 := hu14.size
              replace hU := hU.trans hu14 (by first | exact (fun _ _ h => h) | exact (fun _ _ h => h.elim) | (intro k hl hk; (try simp only [At, New, Grow, From, No] at hk ⊢); omega) | (intro k hl hk; first | (have := hMut k hk; omega) | (have := hGv k hk; omega) | (have := hGl k hk; omega)))
              replace hrt := hrt.upd hu14 (fun k hk hl hS => by first | exact (show False from hS).elim | (simp only [At, New] at hk hS; omega) | (simp only [At] at hS; omega) | (have := hMut k hS; omega) | (have := hGv k hS; omega) | (have := hGl k hS; omega))
              replace htt := htt.upd hu14 (fun k hk hl hS => by first | exact (show False from hS).elim | (simp only [At, New] at hk hS; omega) | (simp only [At] at hS; omega) | (have := hMut k hS; omega) | (have := hGv k hS; omega) | (have := hGl k hS; omega))
              replace hB2 := hB2.updA hu14
              replace hx := hx.upd hu14 (fun k hk hl hS => by first | exact (show False from hS).elim | (simp only [At, New] at hk hS; omega) | (simp only [At] at hS; omega) | (have := hMut k hS; omega) | (have := hGv k hS; omega) | (have := hGl k hS; omega))
              replace hb7 := hb7.upd hu14 (by first | exact (fun h => h) | (simp only [At]; omega) | (intro hS; have := hMut _ hS; omega) | (intro hS; have := hGv _ hS; omega) | (intro hS; have := hGl _ hS; omega))
              replace hy := hy.upd hu14 (fun k hk hl hS => by first | exact (show False from hS).elim | (simp only [At, New] at hk hS; omega) | (simp only [At] at hS; omega) | (have := hMut k hS; omega) | (have := hGv k hS; omega) | (have := hGl k hS; omega))
              refine WL.cons (SO.storeAll (us := [_, _, _]) rfl (ev_t rfl) (ev_t rfl) size_28 hB14 rfl rfl rfl rfl rfl ?_)
              intro w15 hu15 hB14 hz15
              have hs15 := hu15.size
              replace hU := hU.trans hu15 (by first | exact (fun _ _ h => h) | exact (fun _ _ h => h.elim) | (intro k hl hk; (try simp only [At, New, Grow, From, No] at hk ⊢); omega) | (intro k hl hk; first | (have := hMut k hk; omega) | (have := hGv k hk; omega) | (have := hGl k hk; omega)))
              replace hrt := hrt.upd hu15 (fun k hk hl hS => by first | exact (show False from hS).elim | (simp only [At, New] at hk hS; omega) | (simp only [At] at hS; omega) | (have := hMut k hS; omega) | (have := hGv k hS; omega) | (have := hGl k hS; omega))
              replace htt := htt.upd hu15 (fun k hk hl hS => by first | exact (show False from hS).elim | (simp only [At, New] at hk hS; omega) | (simp only [At] at hS; omega) | (have := hMut k hS; omega) | (have := hGv k hS; omega) | (have := hGl k hS; omega))
              replace hB2 := hB2.updA hu15
              replace hx := hx.upd hu15 (fun k hk hl hS => by first | exact (show False from hS).elim | (simp only [At, New] at hk hS; omega) | (simp only [At] at hS; omega) | (have := hMut k hS; omega) | (have := hGv k hS; omega) | (have := hGl k hS; omega))
              replace hb7 := hb7.upd hu15 (by first | exact (fun h => h) | (simp only [At]; omega) | (intro hS; have := hMut _ hS; omega) | (intro hS; have := hGv _ hS; omega) | (intro hS; have := hGl _ hS; omega))
              replace hy := hy.upd hu15 (fun k hk hl hS => by first | exact (show False from hS).elim | (simp only [At, New] at hk hS; omega) | (simp only [At] at hS; omega) | (have := hMut k hS; omega) | (have := hGv k hS; omega) | (have := hGl k hS; omega))
              refine WL.nil ?_
              refine WX.keep [(2, _), (7, _), (8, _)] ⟨rfl, rfl, rfl, trivial⟩ ?_
              refine WX.next ?_
              refine WC.seq ?_
              have hb8 := hB14
              obtain ⟨Y, hY⟩ : ∃ Y, ext (apS 1) (cleanR 4 tb) = Y := ⟨_, rfl⟩
              rw [hY] at hy hb8
              have hvY : ∀ y ∈ vars Y, 1 ≤ y ∧ y ≤ 8 := fun y hy => by rw [← hY] at hy; have := ap8 hvb y hy; omega
              obtain ⟨B1, hB1'⟩ : ∃ B1, B1 = w15.heap.size := ⟨_, rfl⟩
              have hl7 := hb7.lt
              have hl8 := hb8.lt
              replace hx := hx.mono (F' := fun k => k < B1) (fun k hk => by omega)
              replace hy := hy.mono (F' := fun k => k < B1) (fun k hk => by omega)
              refine WC.region ?_
              refine WL.val rfl rfl rfl rfl (r_assign rfl ev_c) ?_
              refine WL.nil ?_
              refine WX.keep [(2, _), (7, _), (8, _), (9, _)] ⟨rfl, rfl, rfl, rfl, trivial⟩ ?_
              refine WX.next ?_
              refine WC.seq ?_
              refine WC.region ?_
              refine WL.val rfl rfl rfl rfl (r_assign rfl ev_c) ?_
              refine WL.nil ?_
              refine WX.keep [(2, _), (7, _), (8, _), (9, _), (10, _)] ⟨rfl, rfl, rfl, rfl, rfl, trivial⟩ ?_
              refine WX.next ?_
              refine WC.seq ?_
              refine WC.seq ?_
              refine WC.region ?_
              refine WL.val rfl rfl rfl rfl (r_assign rfl ev_c) ?_
              refine WL.nil ?_
              refine WX.keep [(2, _), (7, _), (8, _), (9, _), (10, _), (11, _)] ⟨rfl, rfl, rfl, rfl, rfl, rfl, trivial⟩ ?_
              refine WX.next ?_
              refine WC.block ?_
              -- loop 1: live [2, 7, 8, 9, 10, 11]
              refine WC.keep [(2, _), (7, _), (8, _), (9, _), (10, _), (11, _)] ⟨rfl, rfl, rfl, rfl, rfl, rfl, trivial⟩ ?_
              refine WC.loop (fun q E wA => ∃ (i : Nat) (Av Al : Option Addr) (cv cl : Nat) (ys : List C3) (ls : List Ty) (Gv Gl T : Nat → Prop), i ≤ tt.length ∧ q = tt.length - i ∧ Upd No w wA ∧ B1 ≤ wA.heap.size ∧ ls.length = i ∧ (∀ t ∈ ls, ∀ y ∈ vars t, 100 ≤ y ∧ y ≤ 107) ∧   Rd wA (fun k => k < B0) (.slice At_ tt.length kt) tt.length 3 (xt.flatMap c3) ∧ TRs wA (fun k => k < B0) xt tt ∧ TV wA (fun k => k < B1) (.string ⟨X.nm.toArray⟩, .int .i64 mx, .slice Ax X.kids.length kx) X ∧ TV wA (fun k => k < B1) (.string ⟨Y.nm.toArray⟩, .int .i64 my, .slice Ay Y.kids.length ky) Y ∧   Blk wA w10.heap.size #[.string ⟨X.nm.toArray⟩, .int .i64 mx, .slice Ax X.kids.length kx] typ ∧ Blk wA w13.heap.size #[.string ⟨Y.nm.toArray⟩, .int .i64 my, .slice Ay Y.kids.length ky] typ ∧   Own wA Gv 3 1 (.slice Av i cv) i ((ones i).map I6) ∧ Own wA Gl typ 3 (.slice Al i cl) i (ys.flatMap c3) ∧ TVs wA T ys ls ∧ (∀ k, Gv k → B1 ≤ k ∧ k < wA.heap.size) ∧ (∀ k, Gl k → B1 ≤ k ∧ k < wA.heap.size ∧ ¬ Gv k) ∧ (∀ k, T k → B1 ≤ k ∧ k < wA.heap.size ∧ ¬ Gv k ∧ ¬ Gl k) ∧   E = [(2, .slice At_ tt.length kt), (7, .pointer (some ⟨w10.heap.size, 0, none⟩)), (8, .pointer (some ⟨w13.heap.size, 0, none⟩)), (9, .slice Av i cv), (10, .slice Al i cl), (11, .int .i64 (i : Int))]) (tt.length) ?_ ?_
              · exact ⟨0, none, none, 0, 0, [], [], fun _ => False, fun _ => False, fun _ => False, by omega, by omega, hU, by omega, rfl, fun t h => (nomatch h), hrt, htt, hx, hy, hb7, hb8, Own.nil _ _ _ _, Own.nil _ _ _ _, TVs.nil _ _, fun k h => h.elim, fun k h => h.elim, fun k h => h.elim, rfl⟩
              · clear hU hrt htt hx hy hb7 hb8
                rintro q E wA ⟨i, Av, Al, cv, cl, ys, ls, Gv, Gl, T, hi, rfl, hU, hws, hll, hlv, hrt, htt, hx, hy, hb7, hb8, hov, hol, hys, hGv, hGl, hT, rfl⟩
                have hs0 := hU.size
                refine WC.seq ?_
                refine WC.seq ?_
                refine WC.region ?_
                refine WL.val rfl rfl rfl rfl (r_move rfl (ev_t rfl)) ?_
                refine WL.val rfl rfl rfl rfl (r_move rfl (ev_t rfl)) ?_
                refine WL.val rfl rfl rfl rfl (r_lenSlice (ts := #[]) rfl (ev_t rfl) elem_26) ?_
                refine WL.val rfl rfl rfl rfl (r_lss rfl (ev_t rfl) (ev_t rfl)) ?_
                refine WL.nil ?_
                refine WX.keep [(2, _), (7, _), (8, _), (9, _), (10, _), (11, _), (38, _)] ⟨rfl, rfl, rfl, rfl, rfl, rfl, rfl, trivial⟩ ?_
                refine WX.next ?_
                refine WC.cond rfl (ev_t rfl) (fun hc8 => ?_) (fun hc8 => ?_)
                · try (exfalso; first | (simp at hc8; done) | (simp only [decide_eq_true_eq, decide_eq_false_iff_not, Bool.not_eq_true', Bool.not_eq_false', Bool.not_eq_true, Bool.not_eq_false] at hc8; omega) | omega)
                  all_goals
                   try simp only [decide_eq_true_eq, decide_eq_false_iff_not, Bool.not_eq_true', Bool.not_eq_false', Bool.not_eq_true, Bool.not_eq_false, Option.isNone_none, Option.isNone_some, Option.isSome_none, Option.isSome_some, ne_eq, Decidable.not_not] at hc8
                   have hi' : i < tt.length := by omega
                   obtain ⟨bt, offt, rfl, _⟩ := hrt.open (by omega)
                   obtain ⟨ca, cb, cc, hxi, hti⟩ := htt.tv hi'
                   generalize tt[i] = ti at *
                   refine WC.skip ?_
                   refine WX.next ?_
                   refine WC.seq ?_
                   refine WC.block ?_
                   refine WC.seq ?_
                   refine WC.seq ?_
                   refine WC.region ?_
                   refine WL.val rfl rfl rfl rfl (r_move rfl (ev_t rfl)) ?_
                   refine WL.val rfl rfl rfl rfl (r_move rfl (ev_t rfl)) ?_
                   refine WL.val rfl rfl rfl rfl (r_indexAddr rfl (ev_t rfl) (ev_t rfl) elem_26 size_28 (by omega) (by omega)) ?_
                   refine WL.val rfl rfl rfl rfl (r_loadAgg (vs := [_, _, _]) rfl (ev_t rfl) agg_28 size_28 (kid_cells hrt hxi rfl)) ?_
                   refine WL.cons (SO.call (small_ok 3 _ _ _ _ _ ti hti (by omega)) rfl body_14 ⟨(ev_t rfl), ev_c, trivial⟩ rfl rfl rfl rfl ?_)
                   rintro v w16 ⟨rfl, hu16⟩
                   have hs16 := hu16.size
                   replace hU := hU.trans hu16 (by first | exact (fun _ _ h => h) | exact (fun _ _ h => h.elim) | (intro k hl hk; (try simp only [At, New, Grow, From, No] at hk ⊢); omega) | (intro k hl hk; first | (have := hMut k hk; omega) | (have := hGv k hk; omega) | (have := hGl k hk; omega)))
                   replace hrt := hrt.upd hu16 (fun k hk hl hS => by first | exact (show False from hS).elim | (simp only [At, New] at hk hS; omega) | (simp only [At] at hS; omega) | (have := hMut k hS; omega) | (have := hGv k hS; omega) | (have := hGl k hS; omega))
                   replace htt := htt.upd hu16 (fun k hk hl hS => by first | exact (show False from hS).elim | (simp only [At, New] at hk hS; omega) | (simp only [At] at hS; omega) | (have := hMut k hS; omega) | (have := hGv k hS; omega) | (have := hGl k hS; omega))
                   replace hx := hx.upd hu16 (fun k hk hl hS => by first | exact (show False from hS).elim | (simp only [At, New] at hk hS; omega) | (simp only [At] at hS; omega) | (have := hMut k hS; omega) | (have := hGv k hS; omega) | (have := hGl k hS; omega))
                   replace hy := hy.upd hu16 (fun k hk hl hS => by first | exact (show False from hS).elim | (simp only [At, New] at hk hS; omega) | (simp only [At] at hS; omega) | (have := hMut k hS; omega) | (have := hGv k hS; omega) | (have := hGl k hS; omega))
                   replace hb7 := hb7.upd hu16 (by first | exact (fun h => h) | (simp only [At]; omega) | (intro hS; have := hMut _ hS; omega) | (intro hS; have := hGv _ hS; omega) | (intro hS; have := hGl _ hS; omega))
                   replace hb8 := hb8.upd hu16 (by first | exact (fun h => h) | (simp only [At]; omega) | (intro hS; have := hMut _ hS; omega) | (intro hS; have := hGv _ hS; omega) | (intro hS; have := hGl _ hS; omega))
                   replace hov := hov.upd hu16 (fun k hk hl hS => by first | exact (show False from hS).elim | (simp only [At] at hS; have := hGv k hk; omega) | exact (hGl k hS).2.2 hk | (rcases hk with hk | hk; exact (hGl k hS).2.2 hk; have := hGl k hS; omega))
                   replace hol := hol.upd hu16 (fun k hk hl hS => by first | exact (show False from hS).elim | (simp only [At] at hS; have := hGl k hk; omega) | exact (hGl k hk).2.2 hS)
                   replace hys := hys.upd hu16 (fun k hk hl hS => by first | exact (show False from hS).elim | (simp only [At] at hS; have := hT k hk; omega) | exact (hT k hk).2.2.1 hS | exact (hT k hk).2.2.2 hS)
                   replace hti := hti.upd hu16 (fun k hk hl hS => by first | exact (show False from hS).elim | (simp only [At, New] at hk hS; omega) | (simp only [At] at hS; omega) | (have := hMut k hS; omega) | (have := hGv k hS; omega) | (have := hGl k hS; omega))
                   refine WL.val rfl rfl rfl rfl (r_not rfl (ev_t rfl)) ?_
                   refine WL.nil ?_
                   refine WX.keep [(2, _), (7, _), (8, _), (9, _), (10, _), (11, _), (46, _)] ⟨rfl, rfl, rfl, rfl, rfl, rfl, rfl, trivial⟩ ?_
                   refine WX.next ?_
                   refine WC.cond rfl (ev_t rfl) (fun hc10 => ?_) (fun hc10 => ?_)
                   · try (exfalso; first | (simp at hc10; done) | (simp only [decide_eq_true_eq, decide_eq_false_iff_not, Bool.not_eq_true', Bool.not_eq_false', Bool.not_eq_true, Bool.not_eq_false] at hc10; omega) | omega)
                     all_goals
                      try simp only [decide_eq_true_eq, decide_eq_false_iff_not, Bool.not_eq_true', Bool.not_eq_false', Bool.not_eq_true, Bool.not_eq_false, Option.isNone_none, Option.isNone_some, Option.isSome_none, Option.isSome_some, ne_eq, Decidable.not_not] at hc10
                      refine WC.seq ?_
                      refine WC.region ?_
                      refine WL.val rfl rfl rfl rfl (r_assign rfl ev_c) ?_
                      refine WL.nil ?_
                      refine WX.keep [(6, _)] ⟨rfl, trivial⟩ ?_
                      refine WX.next ?_
                      refine WC.ret ?_
                      refine WX.thenRet ?_
                      refine WX.blockRet ?_
                      refine WX.thenRet ?_
                      refine WX.thenRet ?_
                      refine WX.blockRet ?_
                      refine WX.thenRet ?_
                      refine WX.retE1 rfl rfl ?_
                      exact ⟨rfl, hU⟩
                   · try (exfalso; first | (simp at hc10; done) | (simp only [decide_eq_true_eq, decide_eq_false_iff_not, Bool.not_eq_true', Bool.not_eq_false', Bool.not_eq_true, Bool.not_eq_false] at hc10; omega) | omega)
                     all_goals
                      try simp only [decide_eq_true_eq, decide_eq_false_iff_not, Bool.not_eq_true', Bool.not_eq_false', Bool.not_eq_true, Bool.not_eq_false, Option.isNone_none, Option.isNone_some, Option.isSome_none, Option.isSome_some, ne_eq, Decidable.not_not] at hc10
                      have hsi : smallR 3 ti = true := by simpa using hc10
                      have hxi2 := clean_tv hsi hti
                      have hvi := clean_vars hsi
                      refine WC.skip ?_
                      refine WX.next ?_
                      refine WC.seq ?_
                      refine WC.region ?_
                      refine WL.val rfl rfl rfl rfl (r_move rfl (ev_t rfl)) ?_
                      refine WL.val rfl rfl rfl rfl (r_move rfl (ev_t rfl)) ?_
                      first | refine WL.val rfl rfl rfl rfl (r_addN rfl (ev_t rfl) ev_c (by simp only [inK]; omega)) ?_ | refine WL.val rfl rfl rfl rfl (r_add rfl (ev_t rfl) ev_c) ?_
                      refine WL.cons (SO.alloc rfl rfl rfl rfl (r_buildSlice1 (vs := [_]) rfl ⟨(ev_t rfl), trivial⟩ rfl row_33 rfl rfl) ?_)
                      intro w17 hu17 hB17 hz17
                      have hs17 := hu17.size
                      replace hU := hU.trans hu17 (by first | exact (fun _ _ h => h) | exact (fun _ _ h => h.elim) | (intro k hl hk; (try simp only [At, New, Grow, From, No] at hk ⊢); omega) | (intro k hl hk; first | (have := hMut k hk; omega) | (have := hGv k hk; omega) | (have := hGl k hk; omega)))
                      replace hrt := hrt.upd hu17 (fun k hk hl hS => by first | exact (show False from hS).elim | (simp only [At, New] at hk hS; omega) | (simp only [At] at hS; omega) | (have := hMut k hS; omega) | (have := hGv k hS; omega) | (have := hGl k hS; omega))
                      replace htt := htt.upd hu17 (fun k hk hl hS => by first | exact (show False from hS).elim | (simp only [At, New] at hk hS; omega) | (simp only [At] at hS; omega) | (have := hMut k hS; omega) | (have := hGv k hS; omega) | (have := hGl k hS; omega))
                      replace hx := hx.upd hu17 (fun k hk hl hS => by first | exact (show False from hS).elim | (simp only [At, New] at hk hS; omega) | (simp only [At] at hS; omega) | (have := hMut k hS; omega) | (have := hGv k hS; omega) | (have := hGl k hS; omega))
                      replace hy := hy.upd hu17 (fun k hk hl hS => by first | exact (show False from hS).elim | (simp only [At, New] at hk hS; omega) | (simp only [At] at hS; omega) | (have := hMut k hS; omega) | (have := hGv k hS; omega) | (have := hGl k hS; omega))
                      replace hb7 := hb7.upd hu17 (by first | exact (fun h => h) | (simp only [At]; omega) | (intro hS; have := hMut _ hS; omega) | (intro hS; have := hGv _ hS; omega) | (intro hS; have := hGl _ hS; omega))
                      replace hb8 := hb8.upd hu17 (by first | exact (fun h => h) | (simp only [At]; omega) | (intro hS; have := hMut _ hS; omega) | (intro hS; have := hGv _ hS; omega) | (intro hS; have := hGl _ hS; omega))
                      replace hov := hov.upd hu17 (fun k hk hl hS => by first | exact (show False from hS).elim | (simp only [At] at hS; have := hGv k hk; omega) | exact (hGl k hS).2.2 hk | (rcases hk with hk | hk; exact (hGl k hS).2.2 hk; have := hGl k hS; omega))
                      replace hol := hol.upd hu17 (fun k hk hl hS => by first | exact (show False from hS).elim | (simp only [At] at hS; have := hGl k hk; omega) | exact (hGl k hk).2.2 hS)
                      replace hys := hys.upd hu17 (fun k hk hl hS => by first | exact (show False from hS).elim | (simp only [At] at hS; have := hT k hk; omega) | exact (hT k hk).2.2.1 hS | exact (hT k hk).2.2.2 hS)
                      replace hxi2 := hxi2.upd hu17 (fun k hk hl hS => by first | exact (show False from hS).elim | (simp only [At, New] at hk hS; omega) | (simp only [At] at hS; omega) | (have := hMut k hS; omega) | (have := hGv k hS; omega) | (have := hGl k hS; omega))
                      refine WL.cons (SO.append hov (show Rd _ _ _ 1 1 [I6 ((i : Int) + 1)] from Rd.of_blk (F := At _) (n := 1) (sz := 1) hB17 rfl rfl (by omega)) row_33 (fun u hu => by simp at hu; subst hu; rfl) (le_maxLen (by omega)) (by omega) rfl (ev_t rfl) (ev_t rfl) rfl rfl rfl rfl ?_)
                      intro v18 w18 hov hu18
                      have hs18 := hu18.size
                      replace hU := hU.trans hu18 (by first | exact (fun _ _ h => h) | exact (fun _ _ h => h.elim) | (intro k hl hk; (try simp only [At, New, Grow, From, No] at hk ⊢); omega) | (intro k hl hk; first | (have := hMut k hk; omega) | (have := hGv k hk; omega) | (have := hGl k hk; omega)))
                      replace hrt := hrt.upd hu18 (fun k hk hl hS => by first | exact (show False from hS).elim | (simp only [At, New] at hk hS; omega) | (simp only [At] at hS; omega) | (have := hMut k hS; omega) | (have := hGv k hS; omega) | (have := hGl k hS; omega))
                      replace htt := htt.upd hu18 (fun k hk hl hS => by first | exact (show False from hS).elim | (simp only [At, New] at hk hS; omega) | (simp only [At] at hS; omega) | (have := hMut k hS; omega) | (have := hGv k hS; omega) | (have := hGl k hS; omega))
                      replace hx := hx.upd hu18 (fun k hk hl hS => by first | exact (show False from hS).elim | (simp only [At, New] at hk hS; omega) | (simp only [At] at hS; omega) | (have := hMut k hS; omega) | (have := hGv k hS; omega) | (have := hGl k hS; omega))
                      replace hy := hy.upd hu18 (fun k hk hl hS => by first | exact (show False from hS).elim | (simp only [At, New] at hk hS; omega) | (simp only [At] at hS; omega) | (have := hMut k hS; omega) | (have := hGv k hS; omega) | (have := hGl k hS; omega))
                      replace hb7 := hb7.upd hu18 (by first | exact (fun h => h) | (simp only [At]; omega) | (intro hS; have := hMut _ hS; omega) | (intro hS; have := hGv _ hS; omega) | (intro hS; have := hGl _ hS; omega))
                      replace hb8 := hb8.upd hu18 (by first | exact (fun h => h) | (simp only [At]; omega) | (intro hS; have := hMut _ hS; omega) | (intro hS; have := hGv _ hS; omega) | (intro hS; have := hGl _ hS; omega))
                      replace hol := hol.upd hu18 (fun k hk hl hS => by first | exact (show False from hS).elim | (simp only [At] at hS; have := hGl k hk; omega) | exact (hGl k hk).2.2 hS)
                      replace hys := hys.upd hu18 (fun k hk hl hS => by first | exact (show False from hS).elim | (simp only [At] at hS; have := hT k hk; omega) | exact (hT k hk).2.2.1 hS | exact (hT k hk).2.2.2 hS)
                      replace hxi2 := hxi2.upd hu18 (fun k hk hl hS => by first | exact (show False from hS).elim | (simp only [At, New] at hk hS; omega) | (simp only [At] at hS; omega) | (have := hMut k hS; omega) | (have := hGv k hS; omega) | (have := hGl k hS; omega))
                      obtain ⟨A18, c18, rfl, hc18⟩ := Own.form hov
                      refine WL.val rfl rfl rfl rfl (r_assign rfl (ev_t rfl)) ?_
                      refine WL.nil ?_
                      refine WX.keep [(2, _), (7, _), (8, _), (9, _), (10, _), (11, _)] ⟨rfl, rfl, rfl, rfl, rfl, rfl, trivial⟩ ?_
                      have hov9 := hov
                      rw [show (ones i).map I6 ++ [I6 ((i : Int) + 1)] = (ones (i + 1)).map I6 by rw [ones_succ, List.map_append]; rfl] at hov9
                      obtain ⟨Gv2, hGv2, hov2⟩ : ∃ Gv2 : Nat → Prop, (∀ k, Gv2 k → B1 ≤ k ∧ k < w18.heap.size ∧ (Gv k ∨ wA.heap.size ≤ k)) ∧ Own w18 Gv2 3 1 (.slice A18 (i + 1) c18) (i + 1) ((ones (i + 1)).map I6) := ⟨_, fun k hk => (by rcases hk with hk | hk; have := hGv k hk; exact ⟨this.1, by omega, .inl hk⟩; exact ⟨by omega, hk.2, .inr (by omega)⟩), hov9⟩
                      refine WX.next ?_
                      refine WC.region ?_
                      refine WL.val rfl rfl rfl rfl (r_move rfl (ev_t rfl)) ?_
                      refine WL.val rfl rfl rfl rfl (r_move rfl (ev_t rfl)) ?_
                      refine WL.val rfl rfl rfl rfl (r_move rfl (ev_t rfl)) ?_
                      refine WL.val rfl rfl rfl rfl (r_indexAddr rfl (ev_t rfl) (ev_t rfl) elem_26 size_28 (by omega) (by omega)) ?_
                      refine WL.val rfl rfl rfl rfl (r_loadAgg (vs := [_, _, _]) rfl (ev_t rfl) agg_28 size_28 (kid_cells hrt hxi rfl)) ?_
                      refine WL.cons (SO.call (apart_ok (by_ := 100) (by omega) _ _ _ _ _ _ _ (Nat.le_refl _) hxi2 (fun x hx => by have := hvi x hx; omega)) rfl body_15 ⟨(ev_t rfl), ev_c, trivial⟩ rfl rfl rfl rfl ?_)
                      rintro v w19 ⟨a8, b8, c8, rfl, ht8, hu19⟩
                      obtain ⟨m8, A8, k8, xk8, rfl, rfl, rfl, _⟩ := ht8.open
                      have hs8 := hu19.size
                      have hs19 := hu19.size
                      replace hU := hU.trans hu19 (by first | exact (fun _ _ h => h) | exact (fun _ _ h => h.elim) | (intro k hl hk; (try simp only [At, New, Grow, From, No] at hk ⊢); omega) | (intro k hl hk; first | (have := hMut k hk; omega) | (have := hGv k hk; omega) | (have := hGl k hk; omega)))
                      replace hrt := hrt.upd hu19 (fun k hk hl hS => by first | exact (show False from hS).elim | (simp only [At, New] at hk hS; omega) | (simp only [At] at hS; omega) | (have := hMut k hS; omega) | (have := hGv k hS; omega) | (have := hGl k hS; omega))
                      replace htt := htt.upd hu19 (fun k hk hl hS => by first | exact (show False from hS).elim | (simp only [At, New] at hk hS; omega) | (simp only [At] at hS; omega) | (have := hMut k hS; omega) | (have := hGv k hS; omega) | (have := hGl k hS; omega))
                      replace hx := hx.upd hu19 (fun k hk hl hS => by first | exact (show False from hS).elim | (simp only [At, New] at hk hS; omega) | (simp only [At] at hS; omega) | (have := hMut k hS; omega) | (have := hGv k hS; omega) | (have := hGl k hS; omega))
                      replace hy := hy.upd hu19 (fun k hk hl hS => by first | exact (show False from hS).elim | (simp only [At, New] at hk hS; omega) | (simp only [At] at hS; omega) | (have := hMut k hS; omega) | (have := hGv k hS; omega) | (have := hGl k hS; omega))
                      replace hb7 := hb7.upd hu19 (by first | exact (fun h => h) | (simp only [At]; omega) | (intro hS; have := hMut _ hS; omega) | (intro hS; have := hGv _ hS; omega) | (intro hS; have := hGl _ hS; omega))
                      replace hb8 := hb8.upd hu19 (by first | exact (fun h => h) | (simp only [At]; omega) | (intro hS; have := hMut _ hS; omega) | (intro hS; have := hGv _ hS; omega) | (intro hS; have := hGl _ hS; omega))
                      replace hol := hol.upd hu19 (fun k hk hl hS => by first | exact (show False from hS).elim | (simp only [At] at hS; have := hGl k hk; omega) | exact (hGl k hk).2.2 hS)
                      replace hys := hys.upd hu19 (fun k hk hl hS => by first | exact (show False from hS).elim | (simp only [At] at hS; have := hT k hk; omega) | exact (hT k hk).2.2.1 hS | exact (hT k hk).2.2.2 hS)
                      replace hxi2 := hxi2.upd hu19 (fun k hk hl hS => by first | exact (show False from hS).elim | (simp only [At, New] at hk hS; omega) | (simp only [At] at hS; omega) | (have := hMut k hS; omega) | (have := hGv k hS; omega) | (have := hGl k hS; omega))
                      replace hov2 := hov2.upd hu19 (fun k hk hl hS => by first | exact (show False from hS).elim | (simp only [At] at hS; have := hGv2 k hk; omega) | (rcases (hGv2 k hk).2.2 with h | h; exact (hGl k hS).2.2 h; have := hGl k hS; omega))
                      obtain ⟨L, hL⟩ : ∃ L, ext (apS 100) (cleanR 3 ti) = L := ⟨_, rfl⟩
                      have hvL : ∀ y ∈ vars L, 100 ≤ y ∧ y ≤ 107 := fun y hy => by rw [← hL] at hy; have := ap8 hvi y hy; omega
                      rw [hL] at ht8 ⊢
                      have hys2 := (hys.mono (F' := fun k => T k ∨ New w18 w19 k) (fun k h => .inl h)).snoc (ht8.mono (F' := fun k => T k ∨ New w18 w19 k) (fun k h => .inr h))
                      refine WL.cons (SO.alloc rfl rfl rfl rfl (r_buildSlice (cs := #[_, _, _]) (vs := [(0, _)]) rfl ⟨⟨rfl, (ev_t rfl)⟩, trivial⟩ row_26 rfl rfl) ?_)
                      intro w20 hu20 hB20 hz20
                      have hs20 := hu20.size
                      replace hU := hU.trans hu20 (by first | exact (fun _ _ h => h) | exact (fun _ _ h => h.elim) | (intro k hl hk; (try simp only [At, New, Grow, From, No] at hk ⊢); omega) | (intro k hl hk; first | (have := hMut k hk; omega) | (have := hGv k hk; omega) | (have := hGl k hk; omega)))
                      replace hrt := hrt.upd hu20 (fun k hk hl hS => by first | exact (show False from hS).elim | (simp only [At, New] at hk hS; omega) | (simp only [At] at hS; omega) | (have := hMut k hS; omega) | (have := hGv k hS; omega) | (have := hGl k hS; omega))
                      replace htt := htt.upd hu20 (fun k hk hl hS => by first | exact (show False from hS).elim | (simp only [At, New] at hk hS; omega) | (simp only [At] at hS; omega) | (have := hMut k hS; omega) | (have := hGv k hS; omega) | (have := hGl k hS; omega))
                      replace hx := hx.upd hu20 (fun k hk hl hS => by first | exact (show False from hS).elim | (simp only [At, New] at hk hS; omega) | (simp only [At] at hS; omega) | (have := hMut k hS; omega) | (have := hGv k hS; omega) | (have := hGl k hS; omega))
                      replace hy := hy.upd hu20 (fun k hk hl hS => by first | exact (show False from hS).elim | (simp only [At, New] at hk hS; omega) | (simp only [At] at hS; omega) | (have := hMut k hS; omega) | (have := hGv k hS; omega) | (have := hGl k hS; omega))
                      replace hb7 := hb7.upd hu20 (by first | exact (fun h => h) | (simp only [At]; omega) | (intro hS; have := hMut _ hS; omega) | (intro hS; have := hGv _ hS; omega) | (intro hS; have := hGl _ hS; omega))
                      replace hb8 := hb8.upd hu20 (by first | exact (fun h => h) | (simp only [At]; omega) | (intro hS; have := hMut _ hS; omega) | (intro hS; have := hGv _ hS; omega) | (intro hS; have := hGl _ hS; omega))
                      replace hol := hol.upd hu20 (fun k hk hl hS => by first | exact (show False from hS).elim | (simp only [At] at hS; have := hGl k hk; omega) | exact (hGl k hk).2.2 hS)
                      replace hov2 := hov2.upd hu20 (fun k hk hl hS => by first | exact (show False from hS).elim | (simp only [At] at hS; have := hGv2 k hk; omega) | (rcases (hGv2 k hk).2.2 with h | h; exact (hGl k hS).2.2 h; have := hGl k hS; omega))
                      replace hys2 := hys2.upd hu20 (fun k hk hl hS => by first | exact (show False from hS).elim | (rcases hk with hk | hk <;> first | exact (hT k hk).2.2.2 hS | (have := hT k hk; simp only [At] at hS; omega) | (simp only [New] at hk; have := hGl k hS; omega) | (simp only [New, At] at *; omega)))
                      refine WL.cons (SO.append hol (show Rd _ _ _ 1 3 [Value.string ⟨L.nm.toArray⟩, .int .i64 m8, .slice A8 L.kids.length k8] from rd_one hB20) row_26 one_c3 (le_maxLen (by omega)) (by omega) rfl (ev_t rfl) (ev_t rfl) rfl rfl rfl rfl ?_)
                      intro v21 w21 hol hu21
                      have hs21 := hu21.size
                      replace hU := hU.trans hu21 (by first | exact (fun _ _ h => h) | exact (fun _ _ h => h.elim) | (intro k hl hk; (try simp only [At, New, Grow, From, No] at hk ⊢); omega) | (intro k hl hk; first | (have := hMut k hk; omega) | (have := hGv k hk; omega) | (have := hGl k hk; omega)))
                      replace hrt := hrt.upd hu21 (fun k hk hl hS => by first | exact (show False from hS).elim | (simp only [At, New] at hk hS; omega) | (simp only [At] at hS; omega) | (have := hMut k hS; omega) | (have := hGv k hS; omega) | (have := hGl k hS; omega))
                      replace htt := htt.upd hu21 (fun k hk hl hS => by first | exact (show False from hS).elim | (simp only [At, New] at hk hS; omega) | (simp only [At] at hS; omega) | (have := hMut k hS; omega) | (have := hGv k hS; omega) | (have := hGl k hS; omega))
                      replace hx := hx.upd hu21 (fun k hk hl hS => by first | exact (show False from hS).elim | (simp only [At, New] at hk hS; omega) | (simp only [At] at hS; omega) | (have := hMut k hS; omega) | (have := hGv k hS; omega) | (have := hGl k hS; omega))
                      replace hy := hy.upd hu21 (fun k hk hl hS => by first | exact (show False from hS).elim | (simp only [At, New] at hk hS; omega) | (simp only [At] at hS; omega) | (have := hMut k hS; omega) | (have := hGv k hS; omega) | (have := hGl k hS; omega))
                      replace hb7 := hb7.upd hu21 (by first | exact (fun h => h) | (simp only [At]; omega) | (intro hS; have := hMut _ hS; omega) | (intro hS; have := hGv _ hS; omega) | (intro hS; have := hGl _ hS; omega))
                      replace hb8 := hb8.upd hu21 (by first | exact (fun h => h) | (simp only [At]; omega) | (intro hS; have := hMut _ hS; omega) | (intro hS; have := hGv _ hS; omega) | (intro hS; have := hGl _ hS; omega))
                      replace hov2 := hov2.upd hu21 (fun k hk hl hS => by first | exact (show False from hS).elim | (simp only [At] at hS; have := hGv2 k hk; omega) | (rcases (hGv2 k hk).2.2 with h | h; exact (hGl k hS).2.2 h; have := hGl k hS; omega))
                      replace hys2 := hys2.upd hu21 (fun k hk hl hS => by first | exact (show False from hS).elim | (rcases hk with hk | hk <;> first | exact (hT k hk).2.2.2 hS | (have := hT k hk; simp only [At] at hS; omega) | (simp only [New] at hk; have := hGl k hS; omega) | (simp only [New, At] at *; omega)))
                      obtain ⟨A21, c21, rfl, hc21⟩ := Own.form hol
                      rw [← flat_snoc] at hol
                      refine WL.val rfl rfl rfl rfl (r_assign rfl (ev_t rfl)) ?_
                      refine WL.nil ?_
                      refine WX.keep [(2, _), (7, _), (8, _), (9, _), (10, _), (11, _)] ⟨rfl, rfl, rfl, rfl, rfl, rfl, trivial⟩ ?_
                      refine WX.blockNormal ?_
                      refine WX.next ?_
                      refine WC.region ?_
                      refine WL.val rfl rfl rfl rfl (r_move rfl (ev_t rfl)) ?_
                      first | refine WL.val rfl rfl rfl rfl (r_addN rfl (ev_t rfl) ev_c (by simp only [inK]; omega)) ?_ | refine WL.val rfl rfl rfl rfl (r_add rfl (ev_t rfl) ev_c) ?_
                      refine WL.val rfl rfl rfl rfl (r_assign rfl (ev_t rfl)) ?_
                      refine WL.nil ?_
                      refine WX.keep [(2, _), (7, _), (8, _), (9, _), (10, _), (11, _)] ⟨rfl, rfl, rfl, rfl, rfl, rfl, trivial⟩ ?_
                      refine WX.meet [(2, _), (7, _), (8, _), (9, _), (10, _), (11, _)] ⟨rfl, rfl, rfl, rfl, rfl, rfl, trivial⟩ ?_
                      refine ⟨tt.length - (i + 1), by omega, i + 1, _, _, _, _, _, ls ++ [L], Gv2, _, _, by omega, rfl, hU, by omega, by simp [hll], fun t ht => ?_, hrt, htt, hx, hy, hb7, hb8, hov2, hol, hys2, fun k hk => ?_, fun k hk => ?_, fun k hk => ?_, by simp⟩
                      · rcases List.mem_append.1 ht with ht | ht
                        · exact hlv t ht
                        · simp at ht; subst ht; exact hvL
                      · have := hGv2 k hk; exact ⟨this.1, by omega⟩
                      · rcases hk with hk | hk
                        · have h9 := hGl k hk
                          refine ⟨h9.1, by omega, fun h => ?_⟩
                          rcases (hGv2 k h).2.2 with h | h
                          · exact h9.2.2 h
                          · omega
                        · refine ⟨by omega, by omega, fun h => ?_⟩
                          have := hGv2 k h
                          omega
                      · rcases hk with hk | hk
                        · have h9 := hT k hk
                          refine ⟨h9.1, by omega, fun h => ?_, fun h => ?_⟩
                          · rcases (hGv2 k h).2.2 with h | h
                            · exact h9.2.2.1 h
                            · omega
                          · rcases h with h | h
                            · exact h9.2.2.2 h
                            · omega
                        · simp only [New] at hk
                          refine ⟨by omega, by omega, fun h => ?_, fun h => ?_⟩
                          · have := hGv2 k h; omega
                          · rcases h with h | h
                            · have := hGl k h; omega
                            · omega
                · try (exfalso; first | (simp at hc8; done) | (simp only [decide_eq_true_eq, decide_eq_false_iff_not, Bool.not_eq_true', Bool.not_eq_false', Bool.not_eq_true, Bool.not_eq_false] at hc8; omega) | omega)
                  all_goals
                   try simp only [decide_eq_true_eq, decide_eq_false_iff_not, Bool.not_eq_true', Bool.not_eq_false', Bool.not_eq_true, Bool.not_eq_false, Option.isNone_none, Option.isNone_some, Option.isSome_none, Option.isSome_some, ne_eq, Decidable.not_not] at hc8
                   obtain rfl : i = tt.length := by omega
                   obtain ⟨SN, hSN⟩ : ∃ SN, SN = wA.heap.size := ⟨_, rfl⟩
                   have hrv : Rd wA (fun k => k < SN) (.slice Av tt.length cv) (ones tt.length).length 1 ((ones tt.length).map I6) := by rw [ones_len]; exact (hov.rd (by omega)).mono fun k hk => by have := hGv k hk; omega
                   have hrl : Rd wA (fun k => k < SN) (.slice Al tt.length cl) ls.length 3 (ys.flatMap c3) := by rw [hll]; exact (hol.rd (by omega)).mono fun k hk => by have := hGl k hk; omega
                   have htl : TVs wA (fun k => k < SN) ys ls := hys.mono fun k hk => by have := hT k hk; omega
                   replace hx := hx.mono (F' := fun k => k < SN) (fun k hk => by omega)
                   replace hy := hy.mono (F' := fun k => k < SN) (fun k hk => by omega)
                   have hvl : (ones tt.length).length ≤ ls.length := by rw [ones_len]; omega
                   refine WC.exit ?_
                   refine WX.thenExit ?_
                   refine WX.thenExit ?_
                   refine WX.blockHere ?_
                   refine WX.next ?_
                   refine WC.seq ?_
                   refine WC.seq ?_
                   refine WC.draws' (fun u0_ u1_ => Upd No u0_ u1_) (fun j => [0, 0, 0, 1, 0, 0, 0, 2, 2, 0].getD j 0) (.calm 1 (.calm 2 (.calm 5 (.calm 6 (.held 0 (.held 4 (.one 3 (.one 7 (.one 8 (.calm 9 (.done))))))))))) mixed (by kernel_rfl) (by repeat (first | with_reducible exact Deaf.body | with_reducible apply Deaf.then | with_reducible apply Deaf.block)) ?_
                   intro w22 hu22
                   have hz22 := congrArg Array.size hu22.2.2.2
                   replace hu22 := Upd.of_draw hu22
                   have hs22 := hu22.size
                   replace hU := hU.trans hu22 (by first | exact (fun _ _ h => h) | exact (fun _ _ h => h.elim) | (intro k hl hk; (try simp only [At, New, Grow, From, No] at hk ⊢); omega) | (intro k hl hk; first | (have := hMut k hk; omega) | (have := hGv k hk; omega) | (have := hGl k hk; omega)))
                   replace hx := hx.upd hu22 (fun k hk hl hS => by first | exact (show False from hS).elim | (simp only [At, New] at hk hS; omega) | (simp only [At] at hS; omega) | (have := hMut k hS; omega) | (have := hGv k hS; omega) | (have := hGl k hS; omega))
                   replace hy := hy.upd hu22 (fun k hk hl hS => by first | exact (show False from hS).elim | (simp only [At, New] at hk hS; omega) | (simp only [At] at hS; omega) | (have := hMut k hS; omega) | (have := hGv k hS; omega) | (have := hGl k hS; omega))
                   replace hb7 := hb7.upd hu22 (by first | exact (fun h => h) | (simp only [At]; omega) | (intro hS; have := hMut _ hS; omega) | (intro hS; have := hGv _ hS; omega) | (intro hS; have := hGl _ hS; omega))
                   replace hb8 := hb8.upd hu22 (by first | exact (fun h => h) | (simp only [At]; omega) | (intro hS; have := hMut _ hS; omega) | (intro hS; have := hGv _ hS; omega) | (intro hS; have := hGl _ hS; omega))
                   replace hrv := hrv.upd hu22 (fun k hk hl hS => by first | exact (show False from hS).elim | (simp only [At, New] at hk hS; omega) | (simp only [At] at hS; omega) | (have := hMut k hS; omega) | (have := hGv k hS; omega) | (have := hGl k hS; omega))
                   replace hrl := hrl.upd hu22 (fun k hk hl hS => by first | exact (show False from hS).elim | (simp only [At, New] at hk hS; omega) | (simp only [At] at hS; omega) | (have := hMut k hS; omega) | (have := hGv k hS; omega) | (have := hGl k hS; omega))
                   replace htl := htl.upd hu22 (fun k hk hl hS => by first | exact (show False from hS).elim | (simp only [At, New] at hk hS; omega) | (simp only [At] at hS; omega) | (have := hMut k hS; omega) | (have := hGv k hS; omega) | (have := hGl k hS; omega))
                   have hS14 := Upd.refl No w22
                   refine WN.calm _ rfl rfl rfl rfl rfl (fun _ => r_move rfl (ev_t rfl)) ?_
                   refine WN.calm _ rfl rfl rfl rfl rfl (fun _ => r_move rfl (ev_t rfl)) ?_
                   refine WN.calm _ rfl rfl rfl rfl rfl (fun _ => r_move rfl (ev_t rfl)) ?_
                   refine WN.calm _ rfl rfl rfl rfl rfl (fun _ => r_move rfl (ev_t rfl)) ?_
                   refine WN.held _ rfl rfl rfl rfl rfl hS14 (fun w' hS => r_loadAgg (vs := [_, _, _]) rfl (ev_t rfl) agg_28 size_28 (Blk.cellsL (hb7.upd hS (fun h => h)))) ?_
                   refine WN.held _ rfl rfl rfl rfl rfl hS14 (fun w' hS => r_loadAgg (vs := [_, _, _]) rfl (ev_t rfl) agg_28 size_28 (Blk.cellsL (hb8.upd hS (fun h => h)))) ?_
                   refine WN.step _ rfl (SO.call (put_ok hvl _ _ _ _ _ _ _ _ (Nat.le_refl _) hx hrv hrl htl) rfl body_17 ⟨(ev_t rfl), (ev_t rfl), (ev_t rfl), trivial⟩ rfl rfl rfl rfl ?_)
                   rintro v w23 ⟨e1, e2, e3, rfl, hq1, hu23⟩
                   have hs23 := hu23.size
                   replace hS14 := Upd.transA hS14 hu23
                   replace hU := hU.trans hu23 (by first | exact (fun _ _ h => h) | exact (fun _ _ h => h.elim) | (intro k hl hk; (try simp only [At, New, Grow, From, No] at hk ⊢); omega) | (intro k hl hk; first | (have := hMut k hk; omega) | (have := hGv k hk; omega) | (have := hGl k hk; omega)))
                   replace hx := hx.upd hu23 (fun k hk hl hS => by first | exact (show False from hS).elim | (simp only [At, New] at hk hS; omega) | (simp only [At] at hS; omega) | (have := hMut k hS; omega) | (have := hGv k hS; omega) | (have := hGl k hS; omega))
                   replace hy := hy.upd hu23 (fun k hk hl hS => by first | exact (show False from hS).elim | (simp only [At, New] at hk hS; omega) | (simp only [At] at hS; omega) | (have := hMut k hS; omega) | (have := hGv k hS; omega) | (have := hGl k hS; omega))
                   replace hb7 := hb7.upd hu23 (by first | exact (fun h => h) | (simp only [At]; omega) | (intro hS; have := hMut _ hS; omega) | (intro hS; have := hGv _ hS; omega) | (intro hS; have := hGl _ hS; omega))
                   replace hb8 := hb8.upd hu23 (by first | exact (fun h => h) | (simp only [At]; omega) | (intro hS; have := hMut _ hS; omega) | (intro hS; have := hGv _ hS; omega) | (intro hS; have := hGl _ hS; omega))
                   replace hrv := hrv.upd hu23 (fun k hk hl hS => by first | exact (show False from hS).elim | (simp only [At, New] at hk hS; omega) | (simp only [At] at hS; omega) | (have := hMut k hS; omega) | (have := hGv k hS; omega) | (have := hGl k hS; omega))
                   replace hrl := hrl.upd hu23 (fun k hk hl hS => by first | exact (show False from hS).elim | (simp only [At, New] at hk hS; omega) | (simp only [At] at hS; omega) | (have := hMut k hS; omega) | (have := hGv k hS; omega) | (have := hGl k hS; omega))
                   replace htl := htl.upd hu23 (fun k hk hl hS => by first | exact (show False from hS).elim | (simp only [At, New] at hk hS; omega) | (simp only [At] at hS; omega) | (have := hMut k hS; omega) | (have := hGv k hS; omega) | (have := hGl k hS; omega))
                   refine ⟨hS14, ?_⟩
                   refine WN.step _ rfl (SO.call (put_ok hvl _ _ _ _ _ _ _ _ (Nat.le_refl _) hy hrv hrl htl) rfl body_17 ⟨(ev_t rfl), (ev_t rfl), (ev_t rfl), trivial⟩ rfl rfl rfl rfl ?_)
                   rintro v w24 ⟨f1, f2, f3, rfl, hq2, hu24⟩
                   have hs24 := hu24.size
                   try replace hS14 := Upd.transA hS14 hu24
                   replace hU := hU.trans hu24 (by first | exact (fun _ _ h => h) | exact (fun _ _ h => h.elim) | (intro k hl hk; (try simp only [At, New, Grow, From, No] at hk ⊢); omega) | (intro k hl hk; first | (have := hMut k hk; omega) | (have := hGv k hk; omega) | (have := hGl k hk; omega)))
                   replace hx := hx.upd hu24 (fun k hk hl hS => by first | exact (show False from hS).elim | (simp only [At, New] at hk hS; omega) | (simp only [At] at hS; omega) | (have := hMut k hS; omega) | (have := hGv k hS; omega) | (have := hGl k hS; omega))
                   replace hy := hy.upd hu24 (fun k hk hl hS => by first | exact (show False from hS).elim | (simp only [At, New] at hk hS; omega) | (simp only [At] at hS; omega) | (have := hMut k hS; omega) | (have := hGv k hS; omega) | (have := hGl k hS; omega))
                   replace hb7 := hb7.upd hu24 (by first | exact (fun h => h) | (simp only [At]; omega) | (intro hS; have := hMut _ hS; omega) | (intro hS; have := hGv _ hS; omega) | (intro hS; have := hGl _ hS; omega))
                   replace hb8 := hb8.upd hu24 (by first | exact (fun h => h) | (simp only [At]; omega) | (intro hS; have := hMut _ hS; omega) | (intro hS; have := hGv _ hS; omega) | (intro hS; have := hGl _ hS; omega))
                   replace hrv := hrv.upd hu24 (fun k hk hl hS => by first | exact (show False from hS).elim | (simp only [At, New] at hk hS; omega) | (simp only [At] at hS; omega) | (have := hMut k hS; omega) | (have := hGv k hS; omega) | (have := hGl k hS; omega))
                   replace hrl := hrl.upd hu24 (fun k hk hl hS => by first | exact (show False from hS).elim | (simp only [At, New] at hk hS; omega) | (simp only [At] at hS; omega) | (have := hMut k hS; omega) | (have := hGv k hS; omega) | (have := hGl k hS; omega))
                   replace htl := htl.upd hu24 (fun k hk hl hS => by first | exact (show False from hS).elim | (simp only [At, New] at hk hS; omega) | (simp only [At] at hS; omega) | (have := hMut k hS; omega) | (have := hGv k hS; omega) | (have := hGl k hS; omega))
                   replace hq1 := hq1.upd hu24 (fun k hk hl hS => by first | exact (show False from hS).elim | (simp only [At, New] at hk hS; omega) | (simp only [At] at hS; omega) | (have := hMut k hS; omega) | (have := hGv k hS; omega) | (have := hGl k hS; omega))
                   refine ⟨trivial, ?_⟩
                   refine WN.step _ rfl (SO.call (rsame_ok _ (fun _ => True) _ _ _ _ _ _ _ _ _ (Nat.le_refl _) (hq1.mono fun _ _ => trivial) (hq2.mono fun _ _ => trivial)) rfl body_16 ⟨(ev_t rfl), (ev_t rfl), trivial⟩ rfl rfl rfl rfl ?_)
                   rintro v w25 ⟨bb, rfl, hbb, hu25⟩
                   clear hq1 hq2
                   have hs25 := hu25.size
                   try replace hS14 := Upd.transA hS14 hu25
                   replace hU := hU.trans hu25 (by first | exact (fun _ _ h => h) | exact (fun _ _ h => h.elim) | (intro k hl hk; (try simp only [At, New, Grow, From, No] at hk ⊢); omega) | (intro k hl hk; first | (have := hMut k hk; omega) | (have := hGv k hk; omega) | (have := hGl k hk; omega)))
                   replace hx := hx.upd hu25 (fun k hk hl hS => by first | exact (show False from hS).elim | (simp only [At, New] at hk hS; omega) | (simp only [At] at hS; omega) | (have := hMut k hS; omega) | (have := hGv k hS; omega) | (have := hGl k hS; omega))
                   replace hy := hy.upd hu25 (fun k hk hl hS => by first | exact (show False from hS).elim | (simp only [At, New] at hk hS; omega) | (simp only [At] at hS; omega) | (have := hMut k hS; omega) | (have := hGv k hS; omega) | (have := hGl k hS; omega))
                   replace hb7 := hb7.upd hu25 (by first | exact (fun h => h) | (simp only [At]; omega) | (intro hS; have := hMut _ hS; omega) | (intro hS; have := hGv _ hS; omega) | (intro hS; have := hGl _ hS; omega))
                   replace hb8 := hb8.upd hu25 (by first | exact (fun h => h) | (simp only [At]; omega) | (intro hS; have := hMut _ hS; omega) | (intro hS; have := hGv _ hS; omega) | (intro hS; have := hGl _ hS; omega))
                   replace hrv := hrv.upd hu25 (fun k hk hl hS => by first | exact (show False from hS).elim | (simp only [At, New] at hk hS; omega) | (simp only [At] at hS; omega) | (have := hMut k hS; omega) | (have := hGv k hS; omega) | (have := hGl k hS; omega))
                   replace hrl := hrl.upd hu25 (fun k hk hl hS => by first | exact (show False from hS).elim | (simp only [At, New] at hk hS; omega) | (simp only [At] at hS; omega) | (have := hMut k hS; omega) | (have := hGv k hS; omega) | (have := hGl k hS; omega))
                   replace htl := htl.upd hu25 (fun k hk hl hS => by first | exact (show False from hS).elim | (simp only [At, New] at hk hS; omega) | (simp only [At] at hS; omega) | (have := hMut k hS; omega) | (have := hGv k hS; omega) | (have := hGl k hS; omega))
                   refine ⟨trivial, ?_⟩
                   refine WN.calm _ rfl rfl rfl rfl rfl (fun _ => r_not rfl (ev_t rfl)) ?_
                   refine WN.done ?_
                   refine WX.keep [(7, _), (8, _), (9, _), (10, _), (69, _)] ⟨rfl, rfl, rfl, rfl, rfl, trivial⟩ ?_
                   refine WX.next ?_
                   refine WC.cond rfl (ev_t rfl) (fun hc14 => ?_) (fun hc14 => ?_)
                   · try (exfalso; first | (simp at hc14; done) | (simp only [decide_eq_true_eq, decide_eq_false_iff_not, Bool.not_eq_true', Bool.not_eq_false', Bool.not_eq_true, Bool.not_eq_false] at hc14; omega) | omega)
                     all_goals
                      try simp only [decide_eq_true_eq, decide_eq_false_iff_not, Bool.not_eq_true', Bool.not_eq_false', Bool.not_eq_true, Bool.not_eq_false, Option.isNone_none, Option.isNone_some, Option.isSome_none, Option.isSome_some, ne_eq, Decidable.not_not] at hc14
                      refine WC.seq ?_
                      refine WC.region ?_
                      refine WL.val rfl rfl rfl rfl (r_assign rfl ev_c) ?_
                      refine WL.nil ?_
                      refine WX.keep [(6, _)] ⟨rfl, trivial⟩ ?_
                      refine WX.next ?_
                      refine WC.ret ?_
                      refine WX.thenRet ?_
                      refine WX.retE1 rfl rfl ?_
                      exact ⟨rfl, hU⟩
                   · try (exfalso; first | (simp at hc14; done) | (simp only [decide_eq_true_eq, decide_eq_false_iff_not, Bool.not_eq_true', Bool.not_eq_false', Bool.not_eq_true, Bool.not_eq_false] at hc14; omega) | omega)
                     all_goals
                      try simp only [decide_eq_true_eq, decide_eq_false_iff_not, Bool.not_eq_true', Bool.not_eq_false', Bool.not_eq_true, Bool.not_eq_false, Option.isNone_none, Option.isNone_some, Option.isSome_none, Option.isSome_some, ne_eq, Decidable.not_not] at hc14
                      have he := hbb.1 (by simpa using hc14)
                      obtain ⟨σ, D, N, hun, hwf, σ2, D2, N2, hun2⟩ := general hvX hvY (fun y hy => by have := mem_ones hy; omega) (by rw [ones_len, hll]) hlv he
                      have hl7' := hb7.lt
                      have hl8' := hb8.lt
                      obtain ⟨SP, hSP⟩ : ∃ SP, SP = w25.heap.size := ⟨_, rfl⟩
                      refine WC.skip ?_
                      refine WX.next ?_
                      refine WC.seq ?_
                      refine WC.region ?_
                      refine WL.cons (SO.call (tnew_ok (F := fun _ => False)) rfl body_11 ⟨ev_c, trivial⟩ rfl rfl rfl rfl ?_)
                      rintro v w26 ⟨p, m1, m2, rfl, hI, hMut, hu26⟩
                      obtain ⟨hlp, hl1, hl2⟩ := hI.lt
                      have hs26 := hu26.size
                      replace hU := hU.trans hu26 (by first | exact (fun _ _ h => h) | exact (fun _ _ h => h.elim) | (intro k hl hk; (try simp only [At, New, Grow, From, No] at hk ⊢); omega) | (intro k hl hk; first | (have := hMut k hk; omega) | (have := hGv k hk; omega) | (have := hGl k hk; omega)))
                      replace hx := hx.upd hu26 (fun k hk hl hS => by first | exact (show False from hS).elim | (simp only [At, New] at hk hS; omega) | (simp only [At] at hS; omega) | (have := hMut k hS; omega) | (have := hGv k hS; omega) | (have := hGl k hS; omega))
                      replace hy := hy.upd hu26 (fun k hk hl hS => by first | exact (show False from hS).elim | (simp only [At, New] at hk hS; omega) | (simp only [At] at hS; omega) | (have := hMut k hS; omega) | (have := hGv k hS; omega) | (have := hGl k hS; omega))
                      replace hb7 := hb7.upd hu26 (by first | exact (fun h => h) | (simp only [At]; omega) | (intro hS; have := hMut _ hS; omega) | (intro hS; have := hGv _ hS; omega) | (intro hS; have := hGl _ hS; omega))
                      replace hb8 := hb8.upd hu26 (by first | exact (fun h => h) | (simp only [At]; omega) | (intro hS; have := hMut _ hS; omega) | (intro hS; have := hGv _ hS; omega) | (intro hS; have := hGl _ hS; omega))
                      replace hrv := hrv.upd hu26 (fun k hk hl hS => by first | exact (show False from hS).elim | (simp only [At, New] at hk hS; omega) | (simp only [At] at hS; omega) | (have := hMut k hS; omega) | (have := hGv k hS; omega) | (have := hGl k hS; omega))
                      replace hrl := hrl.upd hu26 (fun k hk hl hS => by first | exact (show False from hS).elim | (simp only [At, New] at hk hS; omega) | (simp only [At] at hS; omega) | (have := hMut k hS; omega) | (have := hGv k hS; omega) | (have := hGl k hS; omega))
                      replace htl := htl.upd hu26 (fun k hk hl hS => by first | exact (show False from hS).elim | (simp only [At, New] at hk hS; omega) | (simp only [At] at hS; omega) | (have := hMut k hS; omega) | (have := hGv k hS; omega) | (have := hGl k hS; omega))
                      obtain ⟨SM, hSM⟩ : ∃ SM, SM = w26.heap.size := ⟨_, rfl⟩
                      replace hMut : ∀ k, Mut p m1 m2 k → SP ≤ k ∧ k < SM := fun k hk => by have := hMut k hk; simp only [New] at this; omega
                      have hI9 : IsS w26 (fun k => k < SN) p m1 m2 [] [] 1000 [] := hI.nilF
                      refine WL.val rfl rfl rfl rfl (r_assign rfl (ev_t rfl)) ?_
                      refine WL.nil ?_
                      refine WX.keep [(7, _), (8, _), (9, _), (10, _), (12, _)] ⟨rfl, rfl, rfl, rfl, rfl, trivial⟩ ?_
                      refine WX.next ?_
                      refine WC.seq ?_
                      refine WC.seq ?_
                      refine WC.region ?_
                      refine WL.val rfl rfl rfl rfl (r_move rfl (ev_t rfl)) ?_
                      refine WL.val rfl rfl rfl rfl (r_loadAgg (vs := [_, _, _]) rfl (ev_t rfl) agg_28 size_28 (Blk.cellsL hb7)) ?_
                      refine WL.val rfl rfl rfl rfl (r_loadAgg (vs := [_, _, _]) rfl (ev_t rfl) agg_28 size_28 (Blk.cellsL hb8)) ?_
                      refine WL.cons (SO.call (unify_ok (fun k hk hM => by have := hMut k hM; omega) N _ [] [] [] _ _ _ _ _ _ _ _ true σ D hun (fun k hk => by omega) hI9 hx hy) rfl body_12 ⟨(ev_t rfl), (ev_t rfl), (ev_t rfl), trivial⟩ rfl rfl rfl rfl ?_)
                      rintro v w27 ⟨rfl, ⟨xs, hI2⟩, hu27⟩
                      clear hI9
                      have hs27 := hu27.size
                      replace hU := hU.trans hu27 (by first | exact (fun _ _ h => h) | exact (fun _ _ h => h.elim) | (intro k hl hk; (try simp only [At, New, Grow, From, No] at hk ⊢); omega) | (intro k hl hk; first | (have := hMut k hk; omega) | (have := hGv k hk; omega) | (have := hGl k hk; omega)))
                      replace hx := hx.upd hu27 (fun k hk hl hS => by first | exact (show False from hS).elim | (simp only [At, New] at hk hS; omega) | (simp only [At] at hS; omega) | (have := hMut k hS; omega) | (have := hGv k hS; omega) | (have := hGl k hS; omega))
                      replace hy := hy.upd hu27 (fun k hk hl hS => by first | exact (show False from hS).elim | (simp only [At, New] at hk hS; omega) | (simp only [At] at hS; omega) | (have := hMut k hS; omega) | (have := hGv k hS; omega) | (have := hGl k hS; omega))
                      replace hb7 := hb7.upd hu27 (by first | exact (fun h => h) | (simp only [At]; omega) | (intro hS; have := hMut _ hS; omega) | (intro hS; have := hGv _ hS; omega) | (intro hS; have := hGl _ hS; omega))
                      replace hb8 := hb8.upd hu27 (by first | exact (fun h => h) | (simp only [At]; omega) | (intro hS; have := hMut _ hS; omega) | (intro hS; have := hGv _ hS; omega) | (intro hS; have := hGl _ hS; omega))
                      replace hrv := hrv.upd hu27 (fun k hk hl hS => by first | exact (show False from hS).elim | (simp only [At, New] at hk hS; omega) | (simp only [At] at hS; omega) | (have := hMut k hS; omega) | (have := hGv k hS; omega) | (have := hGl k hS; omega))
                      replace hrl := hrl.upd hu27 (fun k hk hl hS => by first | exact (show False from hS).elim | (simp only [At, New] at hk hS; omega) | (simp only [At] at hS; omega) | (have := hMut k hS; omega) | (have := hGv k hS; omega) | (have := hGl k hS; omega))
                      replace htl := htl.upd hu27 (fun k hk hl hS => by first | exact (show False from hS).elim | (simp only [At, New] at hk hS; omega) | (simp only [At] at hS; omega) | (have := hMut k hS; omega) | (have := hGv k hS; omega) | (have := hGl k hS; omega))
                      refine WL.val rfl rfl rfl rfl (r_not rfl (ev_t rfl)) ?_
                      refine WL.nil ?_
                      refine WX.keep [(7, _), (9, _), (10, _), (12, _), (75, _)] ⟨rfl, rfl, rfl, rfl, rfl, trivial⟩ ?_
                      refine WX.next ?_
                      refine WC.cond rfl (ev_t rfl) (fun hc17 => ?_) (fun hc17 => ?_)
                      · try (exfalso; first | (simp at hc17; done) | (simp only [decide_eq_true_eq, decide_eq_false_iff_not, Bool.not_eq_true', Bool.not_eq_false', Bool.not_eq_true, Bool.not_eq_false] at hc17; omega) | omega)
                        all_goals
                         try simp only [decide_eq_true_eq, decide_eq_false_iff_not, Bool.not_eq_true', Bool.not_eq_false', Bool.not_eq_true, Bool.not_eq_false, Option.isNone_none, Option.isNone_some, Option.isSome_none, Option.isSome_some, ne_eq, Decidable.not_not] at hc17
                         refine WC.seq ?_
                         refine WC.region ?_
                         refine WL.val rfl rfl rfl rfl (r_assign rfl ev_c) ?_
                         refine WL.nil ?_
                         refine WX.keep [(6, _)] ⟨rfl, trivial⟩ ?_
                         refine WX.next ?_
                         refine WC.ret ?_
                         refine WX.thenRet ?_
                         refine WX.retE1 rfl rfl ?_
                         exact ⟨rfl, hU⟩
                      · try (exfalso; first | (simp at hc17; done) | (simp only [decide_eq_true_eq, decide_eq_false_iff_not, Bool.not_eq_true', Bool.not_eq_false', Bool.not_eq_true, Bool.not_eq_false] at hc17; omega) | omega)
                        all_goals
                         try simp only [decide_eq_true_eq, decide_eq_false_iff_not, Bool.not_eq_true', Bool.not_eq_false', Bool.not_eq_true, Bool.not_eq_false, Option.isNone_none, Option.isNone_some, Option.isSome_none, Option.isSome_some, ne_eq, Decidable.not_not] at hc17
                         refine WC.skip ?_
                         refine WX.next ?_
                         refine WC.seq ?_
                         refine WC.draws' (fun u0_ u1_ => Upd No u0_ u1_) (fun j => [0, 0, 0, 1, 0, 0, 0, 2, 2, 0].getD j 0) (.calm 0 (.calm 1 (.calm 5 (.calm 6 (.held 2 (.held 4 (.one 3 (.one 7 (.one 8 (.calm 9 (.done))))))))))) mixed (by kernel_rfl) (by repeat (first | with_reducible exact Deaf.body | with_reducible apply Deaf.then | with_reducible apply Deaf.block)) ?_
                         intro w28 hu28
                         have hz28 := congrArg Array.size hu28.2.2.2
                         replace hu28 := Upd.of_draw hu28
                         have hs28 := hu28.size
                         replace hU := hU.trans hu28 (by first | exact (fun _ _ h => h) | exact (fun _ _ h => h.elim) | (intro k hl hk; (try simp only [At, New, Grow, From, No] at hk ⊢); omega) | (intro k hl hk; first | (have := hMut k hk; omega) | (have := hGv k hk; omega) | (have := hGl k hk; omega)))
                         replace hx := hx.upd hu28 (fun k hk hl hS => by first | exact (show False from hS).elim | (simp only [At, New] at hk hS; omega) | (simp only [At] at hS; omega) | (have := hMut k hS; omega) | (have := hGv k hS; omega) | (have := hGl k hS; omega))
                         replace hy := hy.upd hu28 (fun k hk hl hS => by first | exact (show False from hS).elim | (simp only [At, New] at hk hS; omega) | (simp only [At] at hS; omega) | (have := hMut k hS; omega) | (have := hGv k hS; omega) | (have := hGl k hS; omega))
                         replace hb7 := hb7.upd hu28 (by first | exact (fun h => h) | (simp only [At]; omega) | (intro hS; have := hMut _ hS; omega) | (intro hS; have := hGv _ hS; omega) | (intro hS; have := hGl _ hS; omega))
                         replace hb8 := hb8.upd hu28 (by first | exact (fun h => h) | (simp only [At]; omega) | (intro hS; have := hMut _ hS; omega) | (intro hS; have := hGv _ hS; omega) | (intro hS; have := hGl _ hS; omega))
                         replace hrv := hrv.upd hu28 (fun k hk hl hS => by first | exact (show False from hS).elim | (simp only [At, New] at hk hS; omega) | (simp only [At] at hS; omega) | (have := hMut k hS; omega) | (have := hGv k hS; omega) | (have := hGl k hS; omega))
                         replace hrl := hrl.upd hu28 (fun k hk hl hS => by first | exact (show False from hS).elim | (simp only [At, New] at hk hS; omega) | (simp only [At] at hS; omega) | (have := hMut k hS; omega) | (have := hGv k hS; omega) | (have := hGl k hS; omega))
                         replace htl := htl.upd hu28 (fun k hk hl hS => by first | exact (show False from hS).elim | (simp only [At, New] at hk hS; omega) | (simp only [At] at hS; omega) | (have := hMut k hS; omega) | (have := hGv k hS; omega) | (have := hGl k hS; omega))
                         replace hI2 := hI2.upd hu28 (fun k hk hl hS => by first | exact (show False from hS).elim | (simp only [At] at hS; subst hS; rcases hk with hk | hk; have := hMut _ hk; omega; omega))
                         have hS19 := Upd.refl No w28
                         refine WN.calm _ rfl rfl rfl rfl rfl (fun _ => r_move rfl (ev_t rfl)) ?_
                         refine WN.calm _ rfl rfl rfl rfl rfl (fun _ => r_move rfl (ev_t rfl)) ?_
                         refine WN.calm _ rfl rfl rfl rfl rfl (fun _ => r_move rfl (ev_t rfl)) ?_
                         refine WN.calm _ rfl rfl rfl rfl rfl (fun _ => r_move rfl (ev_t rfl)) ?_
                         refine WN.held _ rfl rfl rfl rfl rfl hS19 (fun w' hS => r_loadAgg (vs := [_, _, _]) rfl (ev_t rfl) agg_28 size_28 (Blk.cellsL (hb7.upd hS (fun h => h)))) ?_
                         refine WN.held _ rfl rfl rfl rfl rfl hS19 (fun w' hS => r_loadAgg (vs := [_, _, _]) rfl (ev_t rfl) agg_28 size_28 (Blk.cellsL (hb7.upd hS (fun h => h)))) ?_
                         refine WN.step _ rfl (SO.call (apply_ok hwf _ _ _ _ _ _ X (Nat.le_refl _) hI2 hx) rfl body_18 ⟨(ev_t rfl), (ev_t rfl), trivial⟩ rfl rfl rfl rfl ?_)
                         rintro v w29 ⟨d1, d2, d3, rfl, hp, hu29⟩
                         replace hp := hp.mono (F' := fun k => SM ≤ k) (fun k hk => by simp only [New] at hk; omega)
                         replace hp := hp.bound
                         have hs29 := hu29.size
                         replace hS19 := Upd.transA hS19 hu29
                         replace hU := hU.trans hu29 (by first | exact (fun _ _ h => h) | exact (fun _ _ h => h.elim) | (intro k hl hk; (try simp only [At, New, Grow, From, No] at hk ⊢); omega) | (intro k hl hk; first | (have := hMut k hk; omega) | (have := hGv k hk; omega) | (have := hGl k hk; omega)))
                         replace hx := hx.upd hu29 (fun k hk hl hS => by first | exact (show False from hS).elim | (simp only [At, New] at hk hS; omega) | (simp only [At] at hS; omega) | (have := hMut k hS; omega) | (have := hGv k hS; omega) | (have := hGl k hS; omega))
                         replace hy := hy.upd hu29 (fun k hk hl hS => by first | exact (show False from hS).elim | (simp only [At, New] at hk hS; omega) | (simp only [At] at hS; omega) | (have := hMut k hS; omega) | (have := hGv k hS; omega) | (have := hGl k hS; omega))
                         replace hb7 := hb7.upd hu29 (by first | exact (fun h => h) | (simp only [At]; omega) | (intro hS; have := hMut _ hS; omega) | (intro hS; have := hGv _ hS; omega) | (intro hS; have := hGl _ hS; omega))
                         replace hb8 := hb8.upd hu29 (by first | exact (fun h => h) | (simp only [At]; omega) | (intro hS; have := hMut _ hS; omega) | (intro hS; have := hGv _ hS; omega) | (intro hS; have := hGl _ hS; omega))
                         replace hrv := hrv.upd hu29 (fun k hk hl hS => by first | exact (show False from hS).elim | (simp only [At, New] at hk hS; omega) | (simp only [At] at hS; omega) | (have := hMut k hS; omega) | (have := hGv k hS; omega) | (have := hGl k hS; omega))
                         replace hrl := hrl.upd hu29 (fun k hk hl hS => by first | exact (show False from hS).elim | (simp only [At, New] at hk hS; omega) | (simp only [At] at hS; omega) | (have := hMut k hS; omega) | (have := hGv k hS; omega) | (have := hGl k hS; omega))
                         replace htl := htl.upd hu29 (fun k hk hl hS => by first | exact (show False from hS).elim | (simp only [At, New] at hk hS; omega) | (simp only [At] at hS; omega) | (have := hMut k hS; omega) | (have := hGv k hS; omega) | (have := hGl k hS; omega))
                         replace hI2 := hI2.upd hu29 (fun k hk hl hS => by first | exact (show False from hS).elim | (simp only [At] at hS; subst hS; rcases hk with hk | hk; have := hMut _ hk; omega; omega))
                         refine ⟨hS19, ?_⟩
                         refine WN.step _ rfl (SO.call (put_ok hvl _ _ _ _ _ _ _ _ (Nat.le_refl _) hx hrv hrl htl) rfl body_17 ⟨(ev_t rfl), (ev_t rfl), (ev_t rfl), trivial⟩ rfl rfl rfl rfl ?_)
                         rintro v w30 ⟨f1, f2, f3, rfl, hq2, hu30⟩
                         replace hq2 := hq2.bound
                         have hs30 := hu30.size
                         try replace hS19 := Upd.transA hS19 hu30
                         replace hU := hU.trans hu30 (by first | exact (fun _ _ h => h) | exact (fun _ _ h => h.elim) | (intro k hl hk; (try simp only [At, New, Grow, From, No] at hk ⊢); omega) | (intro k hl hk; first | (have := hMut k hk; omega) | (have := hGv k hk; omega) | (have := hGl k hk; omega)))
                         replace hx := hx.upd hu30 (fun k hk hl hS => by first | exact (show False from hS).elim | (simp only [At, New] at hk hS; omega) | (simp only [At] at hS; omega) | (have := hMut k hS; omega) | (have := hGv k hS; omega) | (have := hGl k hS; omega))
                         replace hy := hy.upd hu30 (fun k hk hl hS => by first | exact (show False from hS).elim | (simp only [At, New] at hk hS; omega) | (simp only [At] at hS; omega) | (have := hMut k hS; omega) | (have := hGv k hS; omega) | (have := hGl k hS; omega))
                         replace hb7 := hb7.upd hu30 (by first | exact (fun h => h) | (simp only [At]; omega) | (intro hS; have := hMut _ hS; omega) | (intro hS; have := hGv _ hS; omega) | (intro hS; have := hGl _ hS; omega))
                         replace hb8 := hb8.upd hu30 (by first | exact (fun h => h) | (simp only [At]; omega) | (intro hS; have := hMut _ hS; omega) | (intro hS; have := hGv _ hS; omega) | (intro hS; have := hGl _ hS; omega))
                         replace hrv := hrv.upd hu30 (fun k hk hl hS => by first | exact (show False from hS).elim | (simp only [At, New] at hk hS; omega) | (simp only [At] at hS; omega) | (have := hMut k hS; omega) | (have := hGv k hS; omega) | (have := hGl k hS; omega))
                         replace hrl := hrl.upd hu30 (fun k hk hl hS => by first | exact (show False from hS).elim | (simp only [At, New] at hk hS; omega) | (simp only [At] at hS; omega) | (have := hMut k hS; omega) | (have := hGv k hS; omega) | (have := hGl k hS; omega))
                         replace htl := htl.upd hu30 (fun k hk hl hS => by first | exact (show False from hS).elim | (simp only [At, New] at hk hS; omega) | (simp only [At] at hS; omega) | (have := hMut k hS; omega) | (have := hGv k hS; omega) | (have := hGl k hS; omega))
                         replace hI2 := hI2.upd hu30 (fun k hk hl hS => by first | exact (show False from hS).elim | (simp only [At] at hS; subst hS; rcases hk with hk | hk; have := hMut _ hk; omega; omega))
                         replace hp := hp.upd hu30 (fun k hk hl hS => by first | exact (show False from hS).elim | (simp only [At, New] at hk hS; omega) | (simp only [At] at hS; omega) | (have := hMut k hS; omega) | (have := hGv k hS; omega) | (have := hGl k hS; omega))
                         refine ⟨trivial, ?_⟩
                         obtain ⟨S9, hS9'⟩ : ∃ S9, S9 = w30.heap.size := ⟨_, rfl⟩
                         have hI3 := hI2.mono (F' := fun k => ¬ Mut p m1 m2 k ∧ k < S9) (fun k hk => ⟨fun hM => by have := hMut k hM; omega, by omega⟩)
                         replace hp := hp.mono (F' := fun k => ¬ Mut p m1 m2 k ∧ k < S9) (fun k hk => ⟨fun hM => by have := hMut k hM; omega, by omega⟩)
                         replace hq2 := hq2.mono (F' := fun k => ¬ Mut p m1 m2 k ∧ k < S9) (fun k hk => ⟨fun hM => by have := hMut k hM; rcases hk.1 with h | h; omega; simp only [New] at h; omega, by omega⟩)
                         refine WN.step _ rfl (SO.call (unify_ok (fun k hk => hk.1) N2 _ σ D xs _ _ _ _ _ _ _ _ true σ2 D2 hun2 (fun k hk => by have := hk.2; omega) hI3 hp hq2) rfl body_12 ⟨(ev_t rfl), (ev_t rfl), (ev_t rfl), trivial⟩ rfl rfl rfl rfl ?_)
                         rintro v w31 ⟨rfl, _, hu31⟩
                         have hs31 := hu31.size
                         try replace hS19 := Upd.transA hS19 hu31
                         replace hU := hU.trans hu31 (by first | exact (fun _ _ h => h) | exact (fun _ _ h => h.elim) | (intro k hl hk; (try simp only [At, New, Grow, From, No] at hk ⊢); omega) | (intro k hl hk; first | (have := hMut k hk; omega) | (have := hGv k hk; omega) | (have := hGl k hk; omega)))
                         refine ⟨trivial, ?_⟩
                         refine WN.calm _ rfl rfl rfl rfl rfl (fun _ => r_assign rfl (ev_t rfl)) ?_
                         refine WN.done ?_
                         refine WX.keep [(6, _)] ⟨rfl, trivial⟩ ?_
                         refine WX.next ?_
                         refine WC.ret ?_
                         refine WX.retE1 rfl rfl ?_
                         exact ⟨rfl, hU⟩
end Go.Proofs.Ytncakfcafkfmfaa
