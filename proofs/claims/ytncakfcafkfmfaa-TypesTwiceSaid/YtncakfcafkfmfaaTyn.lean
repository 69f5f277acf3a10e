/-
  law 06: TypesTwice.
-/
import Derived.Test.YtncakfcafkfmfaaTyl
namespace Go.Proofs.Ytncakfcafkfmfaa
open Go
set_option linter.unusedSimpArgs false
set_option linter.unusedVariables false

set_option maxHeartbeats 8000000 in
theorem typesTwice.walk {w : World} {a1 a2 a3 b1 b2 b3 : Value} {ta tb : Tr} (hta : TR w (fun k => k < w.heap.size) (a1, a2, a3) ta) (htb : TR w (fun k => k < w.heap.size) (b1, b2, b3) tb) :
    Ret Try.prog 8 #[.agg #[a1, a2, a3], .agg #[b1, b2, b3]] w fun v w' => v = .bool true ∧ Upd No w w' := by
  refine enterRet (vs := [_, _]) (N := 79) Try.func8 rfl rfl rfl ?_
  have hU := Upd.refl No w
  refine WC.keep [(0, _), (1, _)] ⟨rfl, rfl, trivial⟩ ?_
  refine WC.seq ?_
  refine WC.region ?_
  refine WL.cons (SO.alloc rfl rfl rfl rfl (r_boxAgg rfl (ev_t rfl)) ?_)
  intro w1 hu1 hB1 hz1
  have hs1 := hu1.size
  replace hU := hU.trans hu1 (by first | exact (fun _ _ h => h) | exact (fun _ _ h => h.elim) | (intro k hl hk; (try simp only [At, New, Grow, From, No] at hk ⊢); omega) | (intro k hl hk; have := hMut k hk; omega))
  replace hta := hta.upd hu1 (fun k hk hl hS => by first | exact (show False from hS).elim | (simp only [At] at hS; omega))
  replace htb := htb.upd hu1 (fun k hk hl hS => by first | exact (show False from hS).elim | (simp only [At] at hS; omega))
  refine WL.cons (SO.alloc rfl rfl rfl rfl (r_boxAgg rfl (ev_t rfl)) ?_)
  intro w2 hu2 hB2 hz2
  have hs2 := hu2.size
  replace hU := hU.trans hu2 (by first | exact (fun _ _ h => h) | exact (fun _ _ h => h.elim) | (intro k hl hk; (try simp only [At, New, Grow, From, No] at hk ⊢); omega) | (intro k hl hk; have := hMut k hk; omega))
  replace hta := hta.upd hu2 (fun k hk hl hS => by first | exact (show False from hS).elim | (simp only [At] at hS; omega))
  replace htb := htb.upd hu2 (fun k hk hl hS => by first | exact (show False from hS).elim | (simp only [At] at hS; omega))
  replace hB1 := hB1.updA hu2
  refine WL.val rfl rfl rfl rfl (r_assign rfl ev_c) ?_
  refine WL.nil ?_
  refine WX.keep [(2, _), (3, _)] ⟨rfl, rfl, trivial⟩ ?_
  refine WX.next ?_
  refine WC.seq ?_
  refine WC.seq ?_
  refine WC.region ?_
  refine WL.val rfl rfl rfl rfl (r_loadAgg (vs := [_, _, _]) rfl (ev_t rfl) agg_28 size_28 (Blk.cellsL hB1)) ?_
  refine WL.cons (SO.call (small_ok 4 _ _ _ _ _ ta hta (by omega)) rfl body_14 ⟨(ev_t rfl), ev_c, trivial⟩ rfl rfl rfl rfl ?_)
  rintro v w3 ⟨rfl, hu3⟩
  have hs3 := hu3.size
  replace hU := hU.trans hu3 (by first | exact (fun _ _ h => h) | exact (fun _ _ h => h.elim) | (intro k hl hk; (try simp only [At, New, Grow, From, No] at hk ⊢); omega) | (intro k hl hk; have := hMut k hk; omega))
  replace hta := hta.upd hu3 (fun k hk hl hS => by first | exact (show False from hS).elim | (simp only [At] at hS; omega))
  replace htb := htb.upd hu3 (fun k hk hl hS => by first | exact (show False from hS).elim | (simp only [At] at hS; omega))
  replace hB1 := hB1.updA hu3
  replace hB2 := hB2.updA hu3
  refine WL.val rfl rfl rfl rfl (r_not rfl (ev_t rfl)) ?_
  refine WL.val rfl rfl rfl rfl (r_move rfl (ev_t rfl)) ?_
  refine WL.cases 12 rfl (fun hb1_3 => ?_) (fun hb1_3 => ?_)
  · try (exfalso; first | (simp at hb1_3; done) | (simp only [decide_eq_true_eq, decide_eq_false_iff_not, Bool.not_eq_true', Bool.not_eq_false', Bool.not_eq_true, Bool.not_eq_false] at hb1_3; omega) | omega)
    all_goals
     try simp only [decide_eq_true_eq, decide_eq_false_iff_not, Bool.not_eq_true', Bool.not_eq_false', Bool.not_eq_true, Bool.not_eq_false, Option.isNone_none, Option.isNone_some, Option.isSome_none, Option.isSome_some, ne_eq, Decidable.not_not] at hb1_3
     refine WL.skip rfl rfl rfl ?_
     refine WL.skip rfl rfl rfl ?_
     refine WL.skip rfl rfl rfl ?_
     refine WL.val rfl rfl rfl rfl (r_pickT rfl (ev_t rfl) ev_c) ?_
     refine WL.val rfl rfl rfl rfl (r_move rfl (ev_t rfl)) ?_
     refine WL.skip rfl rfl rfl ?_
     refine WL.skip rfl rfl rfl ?_
     refine WL.val rfl rfl rfl rfl (r_pickT rfl (ev_t rfl) ev_c) ?_
     refine WL.nil ?_
     refine WX.keep [(2, _), (3, _), (20, _)] ⟨rfl, rfl, rfl, trivial⟩ ?_
     refine WX.next ?_
     refine WC.cond_true rfl (ev_t rfl) ?_
     refine WC.seq ?_
     refine WC.region ?_
     refine WL.cons (SO.call (awake_ok) rfl body_10 trivial rfl rfl rfl rfl ?_)
     rintro v w4 ⟨rfl, hu4⟩
     have hs4 := hu4.size
     replace hU := hU.trans hu4 (by first | exact (fun _ _ h => h) | exact (fun _ _ h => h.elim) | (intro k hl hk; (try simp only [At, New, Grow, From, No] at hk ⊢); omega) | (intro k hl hk; have := hMut k hk; omega))
     replace hta := hta.upd hu4 (fun k hk hl hS => by first | exact (show False from hS).elim | (simp only [At] at hS; omega))
     replace htb := htb.upd hu4 (fun k hk hl hS => by first | exact (show False from hS).elim | (simp only [At] at hS; omega))
     replace hB1 := hB1.updA hu4
     replace hB2 := hB2.updA hu4
     refine WL.val rfl rfl rfl rfl (r_assign rfl (ev_t rfl)) ?_
     refine WL.nil ?_
     refine WX.keep [(4, _)] ⟨rfl, trivial⟩ ?_
     refine WX.next ?_
     refine WC.ret ?_
     refine WX.thenRet ?_
     refine WX.retE1 rfl rfl ?_
     exact ⟨rfl, hU⟩
  · try (exfalso; first | (simp at hb1_3; done) | (simp only [decide_eq_true_eq, decide_eq_false_iff_not, Bool.not_eq_true', Bool.not_eq_false', Bool.not_eq_true, Bool.not_eq_false] at hb1_3; omega) | omega)
    all_goals
     try simp only [decide_eq_true_eq, decide_eq_false_iff_not, Bool.not_eq_true', Bool.not_eq_false', Bool.not_eq_true, Bool.not_eq_false, Option.isNone_none, Option.isNone_some, Option.isSome_none, Option.isSome_some, ne_eq, Decidable.not_not] at hb1_3
     refine WL.val rfl rfl rfl rfl (r_loadAgg (vs := [_, _, _]) rfl (ev_t rfl) agg_28 size_28 (Blk.cellsL hB2)) ?_
     refine WL.cons (SO.call (small_ok 4 _ _ _ _ _ tb htb (by omega)) rfl body_14 ⟨(ev_t rfl), ev_c, trivial⟩ rfl rfl rfl rfl ?_)
     rintro v w5 ⟨rfl, hu5⟩
     have hs5 := hu5.size
     replace hU := hU.trans hu5 (by first | exact (fun _ _ h => h) | exact (fun _ _ h => h.elim) | (intro k hl hk; (try simp only [At, New, Grow, From, No] at hk ⊢); omega) | (intro k hl hk; have := hMut k hk; omega))
     replace hta := hta.upd hu5 (fun k hk hl hS => by first | exact (show False from hS).elim | (simp only [At] at hS; omega))
     replace htb := htb.upd hu5 (fun k hk hl hS => by first | exact (show False from hS).elim | (simp only [At] at hS; omega))
     replace hB1 := hB1.updA hu5
     replace hB2 := hB2.updA hu5
     refine WL.val rfl rfl rfl rfl (r_not rfl (ev_t rfl)) ?_
     refine WL.val rfl rfl rfl rfl (r_pickF rfl (ev_t rfl) (ev_t rfl)) ?_
     refine WL.val rfl rfl rfl rfl (r_move rfl (ev_t rfl)) ?_
     refine WL.cases 17 rfl (fun hb1_8 => ?_) (fun hb1_8 => ?_)
     · try (exfalso; first | (simp at hb1_8; done) | (simp only [decide_eq_true_eq, decide_eq_false_iff_not, Bool.not_eq_true', Bool.not_eq_false', Bool.not_eq_true, Bool.not_eq_false] at hb1_8; omega) | omega)
       all_goals
        try simp only [decide_eq_true_eq, decide_eq_false_iff_not, Bool.not_eq_true', Bool.not_eq_false', Bool.not_eq_true, Bool.not_eq_false, Option.isNone_none, Option.isNone_some, Option.isSome_none, Option.isSome_some, ne_eq, Decidable.not_not] at hb1_8
        refine WL.skip rfl rfl rfl ?_
        refine WL.skip rfl rfl rfl ?_
        refine WL.val rfl rfl rfl rfl (r_pickT rfl (ev_t rfl) ev_c) ?_
        refine WL.nil ?_
        refine WX.keep [(2, _), (3, _), (20, _)] ⟨rfl, rfl, rfl, trivial⟩ ?_
        refine WX.next ?_
        refine WC.cond_true rfl (ev_t rfl) ?_
        refine WC.seq ?_
        refine WC.region ?_
        refine WL.cons (SO.call (awake_ok) rfl body_10 trivial rfl rfl rfl rfl ?_)
        rintro v w6 ⟨rfl, hu6⟩
        have hs6 := hu6.size
        replace hU := hU.trans hu6 (by first | exact (fun _ _ h => h) | exact (fun _ _ h => h.elim) | (intro k hl hk; (try simp only [At, New, Grow, From, No] at hk ⊢); omega) | (intro k hl hk; have := hMut k hk; omega))
        replace hta := hta.upd hu6 (fun k hk hl hS => by first | exact (show False from hS).elim | (simp only [At] at hS; omega))
        replace htb := htb.upd hu6 (fun k hk hl hS => by first | exact (show False from hS).elim | (simp only [At] at hS; omega))
        replace hB1 := hB1.updA hu6
        replace hB2 := hB2.updA hu6
        refine WL.val rfl rfl rfl rfl (r_assign rfl (ev_t rfl)) ?_
        refine WL.nil ?_
        refine WX.keep [(4, _)] ⟨rfl, trivial⟩ ?_
        refine WX.next ?_
        refine WC.ret ?_
        refine WX.thenRet ?_
        refine WX.retE1 rfl rfl ?_
        exact ⟨rfl, hU⟩
     · try (exfalso; first | (simp at hb1_8; done) | (simp only [decide_eq_true_eq, decide_eq_false_iff_not, Bool.not_eq_true', Bool.not_eq_false', Bool.not_eq_true, Bool.not_eq_false] at hb1_8; omega) | omega)
       all_goals
        try simp only [decide_eq_true_eq, decide_eq_false_iff_not, Bool.not_eq_true', Bool.not_eq_false', Bool.not_eq_true, Bool.not_eq_false, Option.isNone_none, Option.isNone_some, Option.isSome_none, Option.isSome_some, ne_eq, Decidable.not_not] at hb1_8
        refine WL.cons (SO.call (awake_ok) rfl body_10 trivial rfl rfl rfl rfl ?_)
        rintro v w7 ⟨rfl, hu7⟩
        have hs7 := hu7.size
        replace hU := hU.trans hu7 (by first | exact (fun _ _ h => h) | exact (fun _ _ h => h.elim) | (intro k hl hk; (try simp only [At, New, Grow, From, No] at hk ⊢); omega) | (intro k hl hk; have := hMut k hk; omega))
        replace hta := hta.upd hu7 (fun k hk hl hS => by first | exact (show False from hS).elim | (simp only [At] at hS; omega))
        replace htb := htb.upd hu7 (fun k hk hl hS => by first | exact (show False from hS).elim | (simp only [At] at hS; omega))
        replace hB1 := hB1.updA hu7
        replace hB2 := hB2.updA hu7
        refine WL.val rfl rfl rfl rfl (r_not rfl (ev_t rfl)) ?_
        refine WL.val rfl rfl rfl rfl (r_pickF rfl (ev_t rfl) (ev_t rfl)) ?_
        refine WL.nil ?_
        refine WX.keep [(2, _), (3, _), (20, _)] ⟨rfl, rfl, rfl, trivial⟩ ?_
        refine WX.next ?_
        refine WC.cond rfl (ev_t rfl) (fun hc1 => ?_) (fun hc1 => ?_)
        · try (exfalso; first | (simp at hc1; done) | (simp only [decide_eq_true_eq, decide_eq_false_iff_not, Bool.not_eq_true', Bool.not_eq_false', Bool.not_eq_true, Bool.not_eq_false] at hc1; omega) | omega)
          all_goals
           try simp only [decide_eq_true_eq, decide_eq_false_iff_not, Bool.not_eq_true', Bool.not_eq_false', Bool.not_eq_true, Bool.not_eq_false, Option.isNone_none, Option.isNone_some, Option.isSome_none, Option.isSome_some, ne_eq, Decidable.not_not] at hc1
           refine WC.seq ?_
           refine WC.region ?_
           refine WL.cons (SO.call (awake_ok) rfl body_10 trivial rfl rfl rfl rfl ?_)
           rintro v w8 ⟨rfl, hu8⟩
           have hs8 := hu8.size
           replace hU := hU.trans hu8 (by first | exact (fun _ _ h => h) | exact (fun _ _ h => h.elim) | (intro k hl hk; (try simp only [At, New, Grow, From, No] at hk ⊢); omega) | (intro k hl hk; have := hMut k hk; omega))
           replace hta := hta.upd hu8 (fun k hk hl hS => by first | exact (show False from hS).elim | (simp only [At] at hS; omega))
           replace htb := htb.upd hu8 (fun k hk hl hS => by first | exact (show False from hS).elim | (simp only [At] at hS; omega))
           replace hB1 := hB1.updA hu8
           replace hB2 := hB2.updA hu8
           refine WL.val rfl rfl rfl rfl (r_assign rfl (ev_t rfl)) ?_
           refine WL.nil ?_
           refine WX.keep [(4, _)] ⟨rfl, trivial⟩ ?_
           refine WX.next ?_
           refine WC.ret ?_
           refine WX.thenRet ?_
           refine WX.retE1 rfl rfl ?_
           exact ⟨rfl, hU⟩
        · try (exfalso; first | (simp at hc1; done) | (simp only [decide_eq_true_eq, decide_eq_false_iff_not, Bool.not_eq_true', Bool.not_eq_false', Bool.not_eq_true, Bool.not_eq_false] at hc1; omega) | omega)
          all_goals
           try simp only [decide_eq_true_eq, decide_eq_false_iff_not, Bool.not_eq_true', Bool.not_eq_false', Bool.not_eq_true, Bool.not_eq_false, Option.isNone_none, Option.isNone_some, Option.isSome_none, Option.isSome_some, ne_eq, Decidable.not_not] at hc1
           have hsa : smallR 4 ta = true := by simpa using hb1_3
           have hsb : smallR 4 tb = true := by simp_all
           have hxa := clean_tv hsa hta
           have hxb := clean_tv hsb htb
           have hva := clean_vars hsa
           have hvb := clean_vars hsb
           refine WC.skip ?_
           refine WX.next ?_
           refine WC.seq ?_
           refine WC.region ?_
           refine WL.val rfl rfl rfl rfl (r_loadAgg (vs := [_, _, _]) rfl (ev_t rfl) agg_28 size_28 (Blk.cellsL hB1)) ?_
           refine WL.cons (SO.call (apart_ok (by_ := 1) (by omega) _ _ _ _ _ _ _ (Nat.le_refl _) hxa (fun x hx => by have := hva x hx; omega)) rfl body_15 ⟨(ev_t rfl), ev_c, trivial⟩ rfl rfl rfl rfl ?_)
           rintro v w9 ⟨c1, c2, c3', rfl, hx, hu9⟩
           obtain ⟨mx, Ax, kx, xkx, rfl, rfl, rfl, _⟩ := hx.open
           have hs9 := hu9.size
           replace hU := hU.trans hu9 (by first | exact (fun _ _ h => h) | exact (fun _ _ h => h.elim) | (intro k hl hk; (try simp only [At, New, Grow, From, No] at hk ⊢); omega) | (intro k hl hk; have := hMut k hk; omega))
           replace hB1 := hB1.updA hu9
           replace hB2 := hB2.updA hu9
           replace hxa := hxa.upd hu9 (fun k hk hl hS => by first | exact (show False from hS).elim | (simp only [At] at hS; omega))
           replace hxb := hxb.upd hu9 (fun k hk hl hS => by first | exact (show False from hS).elim | (simp only [At] at hS; omega))
           refine WL.cons (SO.alloc rfl rfl rfl rfl (r_alloc rfl zero_28) ?_)
           intro w10 hu10 hB10 hz10
           have hs10 := hu10.size
           replace hU := hU.trans hu10 (by first | exact (fun _ _ h => h) | exact (fun _ _ h => h.elim) | (intro k hl hk; (try simp only [At, New, Grow, From, No] at hk ⊢); omega) | (intro k hl hk; have := hMut k hk; omega))
           replace hB1 := hB1.updA hu10
           replace hB2 := hB2.updA hu10
           replace hxa := hxa.upd hu10 (fun k hk hl hS => by first | exact (show False from hS).elim | (simp only [At] at hS; omega))
           replace hxb := hxb.upd hu10 (fun k hk hl hS => by first | exact (show False from hS).elim | (simp only [At] at hS; omega))
           replace hx := hx.upd hu10 (fun k hk hl hS => by first | exact (show False from hS).elim | (simp only [At, New] at hk hS; omega) | (simp only [At] at hS; omega) | (have := hMut k hS; omega) | exact hk.1 hS)
           refine WL.cons (SO.storeAll (us := [_, _, _]) rfl (ev_t rfl) (ev_t rfl) size_28 hB10 rfl rfl rfl rfl rfl ?_)
           intro w11 hu11 hB10 hz11
           have hs11 := hu11.size
           replace hU := hU.trans hu11 (by first | exact (fun _ _ h => h) | exact (fun _ _ h => h.elim) | (intro k hl hk; (try simp only [At, New, Grow, From, No] at hk ⊢); omega) | (intro k hl hk; have := hMut k hk; omega))
           replace hB1 := hB1.updA hu11
           replace hB2 := hB2.updA hu11
           replace hxa := hxa.upd hu11 (fun k hk hl hS => by first | exact (show False from hS).elim | (simp only [At] at hS; omega))
           replace hxb := hxb.upd hu11 (fun k hk hl hS => by first | exact (show False from hS).elim | (simp only [At] at hS; omega))
           replace hx := hx.upd hu11 (fun k hk hl hS => by first | exact (show False from hS).elim | (simp only [At, New] at hk hS; omega) | (simp only [At] at hS; omega) | (have := hMut k hS; omega) | exact hk.1 hS)
           refine WL.nil ?_
           refine WX.keep [(3, _), (5, _)] ⟨rfl, rfl, trivial⟩ ?_
           refine WX.next ?_
           refine WC.seq ?_
           refine WC.region ?_
           have hb5 := hB10
           obtain ⟨X, hX⟩ : ∃ X, ext (apS 1) (cleanR 4 ta) = X := ⟨_, rfl⟩
           rw [hX] at hx hb5
           have hvX : ∀ y ∈ vars X, y ∈ upto 20 := fun y hy => by rw [← hX] at hy; have := ap8 hva y hy; rw [mem_upto]; omega
           refine WL.val rfl rfl rfl rfl (r_loadAgg (vs := [_, _, _]) rfl (ev_t rfl) agg_28 size_28 (Blk.cellsL hB2)) ?_
           refine WL.cons (SO.call (apart_ok (by_ := 1) (by omega) _ _ _ _ _ _ _ (Nat.le_refl _) hxb (fun x hx => by have := hvb x hx; omega)) rfl body_15 ⟨(ev_t rfl), ev_c, trivial⟩ rfl rfl rfl rfl ?_)
           rintro v w12 ⟨c4, c5, c6, rfl, hy, hu12⟩
           obtain ⟨my, Ay, ky, xky, rfl, rfl, rfl, _⟩ := hy.open
           have hs12 := hu12.size
           replace hU := hU.trans hu12 (by first | exact (fun _ _ h => h) | exact (fun _ _ h => h.elim) | (intro k hl hk; (try simp only [At, New, Grow, From, No] at hk ⊢); omega) | (intro k hl hk; have := hMut k hk; omega))
           replace hB1 := hB1.updA hu12
           replace hB2 := hB2.updA hu12
           replace hxa := hxa.upd hu12 (fun k hk hl hS => by first | exact (show False from hS).elim | (simp only [At] at hS; omega))
           replace hxb := hxb.upd hu12 (fun k hk hl hS => by first | exact (show False from hS).elim | (simp only [At] at hS; omega))
           replace hx := hx.upd hu12 (fun k hk hl hS => by first | exact (show False from hS).elim | (simp only [At, New] at hk hS; omega) | (simp only [At] at hS; omega) | (have := hMut k hS; omega) | exact hk.1 hS)
           replace hb5 := hb5.upd hu12 (by first | exact (fun h => h) | (simp only [At]; omega) | (intro hS; have := hMut _ hS; omega))
           refine WL.cons (SO.alloc rfl rfl rfl rfl (r_alloc rfl zero_28) ?_)
           intro w13 hu13 hB13 hz13
           have hs13 := hu13.size
           replace hU := hU.trans hu13 (by first | exact (fun _ _ h => h) | exact (fun _ _ h => h.elim) | (intro k hl hk; (try simp only [At, New, Grow, From, No] at hk ⊢); omega) | (intro k hl hk; have := hMut k hk; omega))
           replace hB1 := hB1.updA hu13
           replace hB2 := hB2.updA hu13
           replace hx := hx.upd hu13 (fun k hk hl hS => by first | exact (show False from hS).elim | (simp only [At, New] at hk hS; omega) | (simp only [At] at hS; omega) | (have := hMut k hS; omega) | exact hk.1 hS)
           replace hb5 := hb5.upd hu13 (by first | exact (fun h => h) | (simp only [At]; omega) | (intro hS; have := hMut _ hS; omega))
           replace hy := hy.upd hu13 (fun k hk hl hS => by first | exact (show False from hS).elim | (simp only [At, New] at hk hS; omega) | (simp only [At] at hS; omega) | (have := hMut k hS; omega) | exact hk.1 hS)
           refine WL.cons (SO.storeAll (us := [_, _, _]) rfl (ev_t rfl) (ev_t rfl) size_28 hB13 rfl rfl rfl rfl rfl ?_)
           intro w14 hu14 hB13 hz14
           have hs14 := hu14.size
           replace hU := hU.trans hu14 (by first | exact (fun _ _ h => h) | exact (fun _ _ h => h.elim) | (intro k hl hk; (try simp only [At, New, Grow, From, No] at hk ⊢); omega) | (intro k hl hk; have := hMut k hk; omega))
           replace hB1 := hB1.updA hu14
           replace hB2 := hB2.updA hu14
           replace hx := hx.upd hu14 (fun k hk hl hS => by first | exact (show False from hS).elim | (simp only [At, New] at hk hS; omega) | (simp only [At] at hS; omega) | (have := hMut k hS; omega) | exact hk.1 hS)
           replace hb5 := hb5.upd hu14 (by first | exact (fun h => h) | (simp only [At]; omega) | (intro hS; have := hMut _ hS; omega))
           replace hy := hy.upd hu14 (fun k hk hl hS => by first | exact (show False from hS).elim | (simp only [At, New] at hk hS; omega) | (simp only [At] at hS; omega) | (have := hMut k hS; omega) | exact hk.1 hS)
           refine WL.nil ?_
           refine WX.keep [(5, _), (6, _)] ⟨rfl, rfl, trivial⟩ ?_
           refine WX.next ?_
           refine WC.seq ?_
           refine WC.region ?_
           have hb6 := hB13
           obtain ⟨Y, hY⟩ : ∃ Y, ext (apS 1) (cleanR 4 tb) = Y := ⟨_, rfl⟩
           rw [hY] at hy hb6
           have hvY : ∀ y ∈ vars Y, y ∈ upto 20 := fun y hy => by rw [← hY] at hy; have := ap8 hvb y hy; rw [mem_upto]; omega
           have hl5 := hb5.lt
           have hl6 := hb6.lt
           obtain ⟨SN, hSN⟩ : ∃ SN, SN = w14.heap.size := ⟨_, rfl⟩
           replace hx := hx.mono (F' := fun k => k < SN) (fun k hk => by simp only [New] at hk; omega)
           replace hy := hy.mono (F' := fun k => k < SN) (fun k hk => by simp only [New] at hk; omega)
           refine WL.cons (SO.call (tnew_ok (F := fun _ => False)) rfl body_11 ⟨ev_c, trivial⟩ rfl rfl rfl rfl ?_)
           rintro v w15 ⟨p, m1, m2, rfl, hI, hMut, hu15⟩
           obtain ⟨hlp, hl1, hl2⟩ := hI.lt
           have hs15 := hu15.size
           replace hU := hU.trans hu15 (by first | exact (fun _ _ h => h) | exact (fun _ _ h => h.elim) | (intro k hl hk; (try simp only [At, New, Grow, From, No] at hk ⊢); omega) | (intro k hl hk; have := hMut k hk; omega))
           replace hx := hx.upd hu15 (fun k hk hl hS => by first | exact (show False from hS).elim | (simp only [At, New] at hk hS; omega) | (simp only [At] at hS; omega) | (have := hMut k hS; omega) | exact hk.1 hS)
           replace hb5 := hb5.upd hu15 (by first | exact (fun h => h) | (simp only [At]; omega) | (intro hS; have := hMut _ hS; omega))
           replace hy := hy.upd hu15 (fun k hk hl hS => by first | exact (show False from hS).elim | (simp only [At, New] at hk hS; omega) | (simp only [At] at hS; omega) | (have := hMut k hS; omega) | exact hk.1 hS)
           replace hb6 := hb6.upd hu15 (by first | exact (fun h => h) | (simp only [At]; omega) | (intro hS; have := hMut _ hS; omega))
           obtain ⟨SM, hSM⟩ : ∃ SM, SM = w15.heap.size := ⟨_, rfl⟩
           replace hMut : ∀ k, Mut p m1 m2 k → SN ≤ k ∧ k < SM := fun k hk => by have := hMut k hk; simp only [New] at this; omega
           have hI9 : IsS w15 (fun k => k < SN) p m1 m2 [] [] 100 [] := hI.nilF
           obtain ⟨r, σ, D, N, hun, hg, _, hok, _⟩ := (Fine.nil (upto 20)).un (by decide) hvX hvY
           refine WL.val rfl rfl rfl rfl (r_assign rfl (ev_t rfl)) ?_
           refine WL.nil ?_
           refine WX.keep [(5, _), (6, _), (7, _)] ⟨rfl, rfl, rfl, trivial⟩ ?_
           refine WX.next ?_
           refine WC.seq ?_
           refine WC.seq ?_
           refine WC.region ?_
           refine WL.val rfl rfl rfl rfl (r_move rfl (ev_t rfl)) ?_
           refine WL.val rfl rfl rfl rfl (r_loadAgg (vs := [_, _, _]) rfl (ev_t rfl) agg_28 size_28 (Blk.cellsL hb5)) ?_
           refine WL.val rfl rfl rfl rfl (r_loadAgg (vs := [_, _, _]) rfl (ev_t rfl) agg_28 size_28 (Blk.cellsL hb6)) ?_
           refine WL.cons (SO.call (unify_ok (fun k hk hM => by have := hMut k hM; omega) N _ [] [] [] _ _ _ _ _ _ _ _ r σ D hun (fun k hk => by omega) hI9 hx hy) rfl body_12 ⟨(ev_t rfl), (ev_t rfl), (ev_t rfl), trivial⟩ rfl rfl rfl rfl ?_)
           rintro v w16 ⟨rfl, ⟨xs, hI2⟩, hu16⟩
           clear hI9
           have hs16 := hu16.size
           replace hU := hU.trans hu16 (by first | exact (fun _ _ h => h) | exact (fun _ _ h => h.elim) | (intro k hl hk; (try simp only [At, New, Grow, From, No] at hk ⊢); omega) | (intro k hl hk; have := hMut k hk; omega))
           replace hx := hx.upd hu16 (fun k hk hl hS => by first | exact (show False from hS).elim | (simp only [At, New] at hk hS; omega) | (simp only [At] at hS; omega) | (have := hMut k hS; omega) | exact hk.1 hS)
           replace hb5 := hb5.upd hu16 (by first | exact (fun h => h) | (simp only [At]; omega) | (intro hS; have := hMut _ hS; omega))
           replace hy := hy.upd hu16 (fun k hk hl hS => by first | exact (show False from hS).elim | (simp only [At, New] at hk hS; omega) | (simp only [At] at hS; omega) | (have := hMut k hS; omega) | exact hk.1 hS)
           replace hb6 := hb6.upd hu16 (by first | exact (fun h => h) | (simp only [At]; omega) | (intro hS; have := hMut _ hS; omega))
           refine WL.val rfl rfl rfl rfl (r_not rfl (ev_t rfl)) ?_
           refine WL.val rfl rfl rfl rfl (r_move rfl (ev_t rfl)) ?_
           refine WL.cases 32 rfl (fun hb6_5 => ?_) (fun hb6_5 => ?_)
           · try (exfalso; first | (simp at hb6_5; done) | (simp only [decide_eq_true_eq, decide_eq_false_iff_not, Bool.not_eq_true', Bool.not_eq_false', Bool.not_eq_true, Bool.not_eq_false] at hb6_5; omega) | omega)
             all_goals
              try simp only [decide_eq_true_eq, decide_eq_false_iff_not, Bool.not_eq_true', Bool.not_eq_false', Bool.not_eq_true, Bool.not_eq_false, Option.isNone_none, Option.isNone_some, Option.isSome_none, Option.isSome_some, ne_eq, Decidable.not_not] at hb6_5
              refine WL.skip rfl rfl rfl ?_
              refine WL.skip rfl rfl rfl ?_
              refine WL.skip rfl rfl rfl ?_
              refine WL.skip rfl rfl rfl ?_
              refine WL.val rfl rfl rfl rfl (r_pickT rfl (ev_t rfl) ev_c) ?_
              refine WL.nil ?_
              refine WX.keep [(5, _), (6, _), (7, _), (37, _)] ⟨rfl, rfl, rfl, rfl, trivial⟩ ?_
              refine WX.next ?_
              refine WC.cond_true rfl (ev_t rfl) ?_
              refine WC.seq ?_
              refine WC.region ?_
              refine WL.val rfl rfl rfl rfl (r_assign rfl ev_c) ?_
              refine WL.nil ?_
              refine WX.keep [(4, _)] ⟨rfl, trivial⟩ ?_
              refine WX.next ?_
              refine WC.ret ?_
              refine WX.thenRet ?_
              refine WX.retE1 rfl rfl ?_
              exact ⟨rfl, hU⟩
           · try (exfalso; first | (simp at hb6_5; done) | (simp only [decide_eq_true_eq, decide_eq_false_iff_not, Bool.not_eq_true', Bool.not_eq_false', Bool.not_eq_true, Bool.not_eq_false] at hb6_5; omega) | omega)
             all_goals
              try simp only [decide_eq_true_eq, decide_eq_false_iff_not, Bool.not_eq_true', Bool.not_eq_false', Bool.not_eq_true, Bool.not_eq_false, Option.isNone_none, Option.isNone_some, Option.isSome_none, Option.isSome_some, ne_eq, Decidable.not_not] at hb6_5
              obtain rfl : r = true := by simpa using hb6_5
              obtain ⟨hF, hxy⟩ := hok rfl
              refine WL.val rfl rfl rfl rfl (r_move rfl (ev_t rfl)) ?_
              refine WL.val rfl rfl rfl rfl (r_loadAgg (vs := [_, _, _]) rfl (ev_t rfl) agg_28 size_28 (Blk.cellsL hb5)) ?_
              refine WL.cons (SO.call (tsize_ok hF.good.wf _ _ _ _ _ _ X 1000 (Nat.le_refl _) hI2 hx (by omega) (by omega)) rfl body_19 ⟨(ev_t rfl), (ev_t rfl), ev_c, trivial⟩ rfl rfl rfl rfl ?_)
              rintro v w17 ⟨rfl, hu17⟩
              have hs17 := hu17.size
              replace hU := hU.trans hu17 (by first | exact (fun _ _ h => h) | exact (fun _ _ h => h.elim) | (intro k hl hk; (try simp only [At, New, Grow, From, No] at hk ⊢); omega) | (intro k hl hk; have := hMut k hk; omega))
              replace hx := hx.upd hu17 (fun k hk hl hS => by first | exact (show False from hS).elim | (simp only [At, New] at hk hS; omega) | (simp only [At] at hS; omega) | (have := hMut k hS; omega) | exact hk.1 hS)
              replace hb5 := hb5.upd hu17 (by first | exact (fun h => h) | (simp only [At]; omega) | (intro hS; have := hMut _ hS; omega))
              replace hy := hy.upd hu17 (fun k hk hl hS => by first | exact (show False from hS).elim | (simp only [At, New] at hk hS; omega) | (simp only [At] at hS; omega) | (have := hMut k hS; omega) | exact hk.1 hS)
              replace hb6 := hb6.upd hu17 (by first | exact (fun h => h) | (simp only [At]; omega) | (intro hS; have := hMut _ hS; omega))
              replace hI2 := hI2.upd hu17 (fun k hk hl hS => by first | exact (show False from hS).elim | (simp only [At] at hS; subst hS; rcases hk with hk | hk; have := hMut _ hk; omega; omega))
              refine WL.val rfl rfl rfl rfl (r_geq rfl (ev_t rfl) ev_c) ?_
              refine WL.val rfl rfl rfl rfl (r_pickF rfl (ev_t rfl) (ev_t rfl)) ?_
              refine WL.nil ?_
              refine WX.keep [(5, _), (6, _), (7, _), (37, _)] ⟨rfl, rfl, rfl, rfl, trivial⟩ ?_
              refine WX.next ?_
              refine WC.cond rfl (ev_t rfl) (fun hc6 => ?_) (fun hc6 => ?_)
              · try (exfalso; first | (simp at hc6; done) | (simp only [decide_eq_true_eq, decide_eq_false_iff_not, Bool.not_eq_true', Bool.not_eq_false', Bool.not_eq_true, Bool.not_eq_false] at hc6; omega) | omega)
                all_goals
                 try simp only [decide_eq_true_eq, decide_eq_false_iff_not, Bool.not_eq_true', Bool.not_eq_false', Bool.not_eq_true, Bool.not_eq_false, Option.isNone_none, Option.isNone_some, Option.isSome_none, Option.isSome_some, ne_eq, Decidable.not_not] at hc6
                 refine WC.seq ?_
                 refine WC.region ?_
                 refine WL.val rfl rfl rfl rfl (r_assign rfl ev_c) ?_
                 refine WL.nil ?_
                 refine WX.keep [(4, _)] ⟨rfl, trivial⟩ ?_
                 refine WX.next ?_
                 refine WC.ret ?_
                 refine WX.thenRet ?_
                 refine WX.retE1 rfl rfl ?_
                 exact ⟨rfl, hU⟩
              · try (exfalso; first | (simp at hc6; done) | (simp only [decide_eq_true_eq, decide_eq_false_iff_not, Bool.not_eq_true', Bool.not_eq_false', Bool.not_eq_true, Bool.not_eq_false] at hc6; omega) | omega)
                all_goals
                 try simp only [decide_eq_true_eq, decide_eq_false_iff_not, Bool.not_eq_true', Bool.not_eq_false', Bool.not_eq_true, Bool.not_eq_false, Option.isNone_none, Option.isNone_some, Option.isSome_none, Option.isSome_some, ne_eq, Decidable.not_not] at hc6
                 refine WC.skip ?_
                 refine WX.next ?_
                 refine WC.seq ?_
                 refine WC.region ?_
                 refine WL.val rfl rfl rfl rfl (r_move rfl (ev_t rfl)) ?_
                 refine WL.val rfl rfl rfl rfl (r_loadAgg (vs := [_, _, _]) rfl (ev_t rfl) agg_28 size_28 (Blk.cellsL hb5)) ?_
                 refine WL.cons (SO.call (apply_ok hF.good.wf _ _ _ _ _ _ X (Nat.le_refl _) hI2 hx) rfl body_18 ⟨(ev_t rfl), (ev_t rfl), trivial⟩ rfl rfl rfl rfl ?_)
                 rintro v w18 ⟨d1, d2, d3, rfl, hp, hu18⟩
                 obtain ⟨mp, Ap, kp, xkp, rfl, rfl, rfl, _⟩ := hp.open
                 replace hp := hp.mono (F' := fun k => SM ≤ k) (fun k hk => by simp only [New] at hk; omega)
                 replace hp := hp.bound
                 have hs18 := hu18.size
                 replace hU := hU.trans hu18 (by first | exact (fun _ _ h => h) | exact (fun _ _ h => h.elim) | (intro k hl hk; (try simp only [At, New, Grow, From, No] at hk ⊢); omega) | (intro k hl hk; have := hMut k hk; omega))
                 replace hx := hx.upd hu18 (fun k hk hl hS => by first | exact (show False from hS).elim | (simp only [At, New] at hk hS; omega) | (simp only [At] at hS; omega) | (have := hMut k hS; omega) | exact hk.1 hS)
                 replace hb5 := hb5.upd hu18 (by first | exact (fun h => h) | (simp only [At]; omega) | (intro hS; have := hMut _ hS; omega))
                 replace hy := hy.upd hu18 (fun k hk hl hS => by first | exact (show False from hS).elim | (simp only [At, New] at hk hS; omega) | (simp only [At] at hS; omega) | (have := hMut k hS; omega) | exact hk.1 hS)
                 replace hb6 := hb6.upd hu18 (by first | exact (fun h => h) | (simp only [At]; omega) | (intro hS; have := hMut _ hS; omega))
                 replace hI2 := hI2.upd hu18 (fun k hk hl hS => by first | exact (show False from hS).elim | (simp only [At] at hS; subst hS; rcases hk with hk | hk; have := hMut _ hk; omega; omega))
                 refine WL.cons (SO.alloc rfl rfl rfl rfl (r_alloc rfl zero_28) ?_)
                 intro w19 hu19 hB19 hz19
                 have hs19 := hu19.size
                 replace hU := hU.trans hu19 (by first | exact (fun _ _ h => h) | exact (fun _ _ h => h.elim) | (intro k hl hk; (try simp only [At, New, Grow, From, No] at hk ⊢); omega) | (intro k hl hk; have := hMut k hk; omega))
                 replace hx := hx.upd hu19 (fun k hk hl hS => by first | exact (show False from hS).elim | (simp only [At, New] at hk hS; omega) | (simp only [At] at hS; omega) | (have := hMut k hS; omega) | exact hk.1 hS)
                 replace hb5 := hb5.upd hu19 (by first | exact (fun h => h) | (simp only [At]; omega) | (intro hS; have := hMut _ hS; omega))
                 replace hy := hy.upd hu19 (fun k hk hl hS => by first | exact (show False from hS).elim | (simp only [At, New] at hk hS; omega) | (simp only [At] at hS; omega) | (have := hMut k hS; omega) | exact hk.1 hS)
                 replace hb6 := hb6.upd hu19 (by first | exact (fun h => h) | (simp only [At]; omega) | (intro hS; have := hMut _ hS; omega))
                 replace hI2 := hI2.upd hu19 (fun k hk hl hS => by first | exact (show False from hS).elim | (simp only [At] at hS; subst hS; rcases hk with hk | hk; have := hMut _ hk; omega; omega))
                 replace hp := hp.upd hu19 (fun k hk hl hS => by first | exact (show False from hS).elim | (simp only [At, New] at hk hS; omega) | (simp only [At] at hS; omega) | (have := hMut k hS; omega) | exact hk.1 hS)
                 refine WL.cons (SO.storeAll (us := [_, _, _]) rfl (ev_t rfl) (ev_t rfl) size_28 hB19 rfl rfl rfl rfl rfl ?_)
                 intro w20 hu20 hB19 hz20
                 have hs20 := hu20.size
                 replace hU := hU.trans hu20 (by first | exact (fun _ _ h => h) | exact (fun _ _ h => h.elim) | (intro k hl hk; (try simp only [At, New, Grow, From, No] at hk ⊢); omega) | (intro k hl hk; have := hMut k hk; omega))
                 replace hx := hx.upd hu20 (fun k hk hl hS => by first | exact (show False from hS).elim | (simp only [At, New] at hk hS; omega) | (simp only [At] at hS; omega) | (have := hMut k hS; omega) | exact hk.1 hS)
                 replace hb5 := hb5.upd hu20 (by first | exact (fun h => h) | (simp only [At]; omega) | (intro hS; have := hMut _ hS; omega))
                 replace hy := hy.upd hu20 (fun k hk hl hS => by first | exact (show False from hS).elim | (simp only [At, New] at hk hS; omega) | (simp only [At] at hS; omega) | (have := hMut k hS; omega) | exact hk.1 hS)
                 replace hb6 := hb6.upd hu20 (by first | exact (fun h => h) | (simp only [At]; omega) | (intro hS; have := hMut _ hS; omega))
                 replace hI2 := hI2.upd hu20 (fun k hk hl hS => by first | exact (show False from hS).elim | (simp only [At] at hS; subst hS; rcases hk with hk | hk; have := hMut _ hk; omega; omega))
                 replace hp := hp.upd hu20 (fun k hk hl hS => by first | exact (show False from hS).elim | (simp only [At, New] at hk hS; omega) | (simp only [At] at hS; omega) | (have := hMut k hS; omega) | exact hk.1 hS)
                 refine WL.nil ?_
                 refine WX.keep [(5, _), (6, _), (7, _), (8, _)] ⟨rfl, rfl, rfl, rfl, trivial⟩ ?_
                 refine WX.next ?_
                 refine WC.seq ?_
                 have hb8 := hB19
                 obtain ⟨S9, hS9'⟩ : ∃ S9, S9 = w20.heap.size := ⟨_, rfl⟩
                 have hI3 := hI2.mono (F' := fun k => ¬ Mut p m1 m2 k ∧ k < S9) (fun k hk => ⟨fun hM => by have := hMut k hM; omega, by omega⟩)
                 replace hx := hx.mono (F' := fun k => ¬ Mut p m1 m2 k ∧ k < S9) (fun k hk => ⟨fun hM => by have := hMut k hM; omega, by omega⟩)
                 replace hy := hy.mono (F' := fun k => ¬ Mut p m1 m2 k ∧ k < S9) (fun k hk => ⟨fun hM => by have := hMut k hM; omega, by omega⟩)
                 replace hp := hp.mono (F' := fun k => ¬ Mut p m1 m2 k ∧ k < S9) (fun k hk => ⟨fun hM => by have := hMut k hM; omega, by omega⟩)
                 have hvP := hF.good.vars hvX
                 obtain ⟨D2, N2, hun2, hF2⟩ := hF.again (by decide) hvY hvX hxy.symm
                 obtain ⟨D3, N3, hun3, hF3⟩ := hF2.again (by decide) hvP hvY (by rw [hF.good.wf.idem, hxy])
                 refine WC.draws' (fun u0_ u1_ => Upd (fun k => SN ≤ k ∧ k < SM) u0_ u1_) (fun j => [0, 0, 1, 1, 0, 0, 0, 1, 1, 0, 0, 0, 0, 1, 0, 1, 0, 0, 0, 0, 1, 0, 1, 0, 0, 0, 0, 1, 0, 1, 0, 0, 0, 0, 1, 1, 1, 0, 0].getD j 0) (.calm 0 (.held 1 (.one 2 (.one 3 (.calm 4 (.calm 5 (.held 6 (.one 7 (.one 8 (.calm 9 (.calm 10 (.calm 11 (.held 12 (.held 14 (.one 13 (.one 15 (.calm 16 (.calm 17 (.calm 18 (.held 19 (.held 21 (.one 20 (.one 22 (.calm 23 (.calm 24 (.calm 25 (.held 26 (.held 28 (.one 27 (.one 29 (.calm 30 (.calm 31 (.calm 33 (.held 32 (.one 34 (.one 35 (.one 36 (.calm 37 (.calm 38 (.done)))))))))))))))))))))))))))))))))))))))) mixed (by kernel_rfl) (by repeat (first | with_reducible exact Deaf.body | with_reducible apply Deaf.then | with_reducible apply Deaf.block)) ?_
                 intro w21 hu21
                 have hz21 := congrArg Array.size hu21.2.2.2
                 replace hu21 := Upd.of_draw hu21
                 have hs21 := hu21.size
                 replace hU := hU.trans hu21 (by first | exact (fun _ _ h => h) | exact (fun _ _ h => h.elim) | (intro k hl hk; (try simp only [At, New, Grow, From, No] at hk ⊢); omega) | (intro k hl hk; have := hMut k hk; omega))
                 replace hx := hx.upd hu21 (fun k hk hl hS => by first | exact (show False from hS).elim | (simp only [At, New] at hk hS; omega) | (simp only [At] at hS; omega) | (have := hMut k hS; omega) | exact hk.1 hS)
                 replace hb5 := hb5.upd hu21 (by first | exact (fun h => h) | (simp only [At]; omega) | (intro hS; have := hMut _ hS; omega))
                 replace hy := hy.upd hu21 (fun k hk hl hS => by first | exact (show False from hS).elim | (simp only [At, New] at hk hS; omega) | (simp only [At] at hS; omega) | (have := hMut k hS; omega) | exact hk.1 hS)
                 replace hb6 := hb6.upd hu21 (by first | exact (fun h => h) | (simp only [At]; omega) | (intro hS; have := hMut _ hS; omega))
                 replace hp := hp.upd hu21 (fun k hk hl hS => by first | exact (show False from hS).elim | (simp only [At, New] at hk hS; omega) | (simp only [At] at hS; omega) | (have := hMut k hS; omega) | exact hk.1 hS)
                 replace hI3 := hI3.upd hu21 (fun k hk hl hS => by first | exact (show False from hS).elim | (simp only [At] at hS; subst hS; rcases hk with hk | hk; have := hMut _ hk; omega; have := hk.2; omega))
                 replace hb8 := hb8.upd hu21 (by first | exact (fun h => h) | (simp only [At]; omega) | (intro hS; have := hMut _ hS; omega))
                 have hS9 := Upd.refl (fun k => SN ≤ k ∧ k < SM) w21
                 have hz5 := hb5
                 have hz6 := hb6
                 have hz8 := hb8
                 refine WN.calm _ rfl rfl rfl rfl rfl (fun _ => r_move rfl (ev_t rfl)) ?_
                 first | refine WN.held _ rfl rfl rfl rfl rfl hS9 (fun w' hS => r_loadAgg (vs := [_, _, _]) rfl (ev_t rfl) agg_28 size_28 (Blk.cellsL (hz6.upd hS (fun h => by have h : SN ≤ _ ∧ _ := h; omega)))) ?_ | refine WN.held _ rfl rfl rfl rfl rfl hS9 (fun w' hS => r_loadAgg (vs := [_, _, _]) rfl (ev_t rfl) agg_28 size_28 (Blk.cellsL hb6)) ?_
                 first | refine WN.step _ rfl (SO.val rfl rfl rfl rfl (r_loadAgg (vs := [_, _, _]) rfl (ev_t rfl) agg_28 size_28 (Blk.cellsL (hz5.upd hS (fun h => by have h : SN ≤ _ ∧ _ := h; omega)))) ?_) | refine WN.step _ rfl (SO.val rfl rfl rfl rfl (r_loadAgg (vs := [_, _, _]) rfl (ev_t rfl) agg_28 size_28 (Blk.cellsL hb5)) ?_)
                 refine ⟨hS9, ?_⟩
                 refine WN.step _ rfl (SO.call (unify_ok (fun k hk => hk.1) N2 _ σ D xs _ _ _ _ _ _ _ _ true σ D2 hun2 (fun k hk => by have := hk.2; omega) hI3 hy hx) rfl body_12 ⟨(ev_t rfl), (ev_t rfl), (ev_t rfl), trivial⟩ rfl rfl rfl rfl ?_)
                 rintro v w22 ⟨rfl, ⟨xs2, hI4⟩, hu22⟩
                 have hs22 := hu22.size
                 replace hS9 := Upd.trans hS9 hu22 (by intro k hl hk; first | exact (show False from hk).elim | exact hMut k hk | (simp only [At, New, Grow, From] at hk; omega))
                 replace hU := hU.trans hu22 (by first | exact (fun _ _ h => h) | exact (fun _ _ h => h.elim) | (intro k hl hk; (try simp only [At, New, Grow, From, No] at hk ⊢); omega) | (intro k hl hk; have := hMut k hk; omega))
                 replace hx := hx.upd hu22 (fun k hk hl hS => by first | exact (show False from hS).elim | (simp only [At, New] at hk hS; omega) | (simp only [At] at hS; omega) | (have := hMut k hS; omega) | exact hk.1 hS)
                 replace hb5 := hb5.upd hu22 (by first | exact (fun h => h) | (simp only [At]; omega) | (intro hS; have := hMut _ hS; omega))
                 replace hy := hy.upd hu22 (fun k hk hl hS => by first | exact (show False from hS).elim | (simp only [At, New] at hk hS; omega) | (simp only [At] at hS; omega) | (have := hMut k hS; omega) | exact hk.1 hS)
                 replace hb6 := hb6.upd hu22 (by first | exact (fun h => h) | (simp only [At]; omega) | (intro hS; have := hMut _ hS; omega))
                 replace hp := hp.upd hu22 (fun k hk hl hS => by first | exact (show False from hS).elim | (simp only [At, New] at hk hS; omega) | (simp only [At] at hS; omega) | (have := hMut k hS; omega) | exact hk.1 hS)
                 replace hb8 := hb8.upd hu22 (by first | exact (fun h => h) | (simp only [At]; omega) | (intro hS; have := hMut _ hS; omega))
                 refine ⟨hS9, ?_⟩
                 refine WN.calm _ rfl rfl rfl rfl rfl (fun _ => r_move rfl (ev_t rfl)) ?_
                 refine WN.cases 45 rfl (fun hb9_4 => ?_) (fun hb9_4 => ?_)
                 · try (exfalso; first | (simp at hb9_4; done) | (simp only [decide_eq_true_eq, decide_eq_false_iff_not, Bool.not_eq_true', Bool.not_eq_false', Bool.not_eq_true, Bool.not_eq_false] at hb9_4; omega) | omega)
                   all_goals
                    try simp only [decide_eq_true_eq, decide_eq_false_iff_not, Bool.not_eq_true', Bool.not_eq_false', Bool.not_eq_true, Bool.not_eq_false, Option.isNone_none, Option.isNone_some, Option.isSome_none, Option.isSome_some, ne_eq, Decidable.not_not] at hb9_4
                    refine WN.calm _ rfl rfl rfl rfl rfl (fun _ => r_move rfl (ev_t rfl)) ?_
                    first | refine WN.held _ rfl rfl rfl rfl rfl hS9 (fun w' hS => r_loadAgg (vs := [_, _, _]) rfl (ev_t rfl) agg_28 size_28 (Blk.cellsL (hz8.upd hS (fun h => by have h : SN ≤ _ ∧ _ := h; omega)))) ?_ | refine WN.held _ rfl rfl rfl rfl rfl hS9 (fun w' hS => r_loadAgg (vs := [_, _, _]) rfl (ev_t rfl) agg_28 size_28 (Blk.cellsL hb8)) ?_
                    first | refine WN.step _ rfl (SO.val rfl rfl rfl rfl (r_loadAgg (vs := [_, _, _]) rfl (ev_t rfl) agg_28 size_28 (Blk.cellsL (hz6.upd hS (fun h => by have h : SN ≤ _ ∧ _ := h; omega)))) ?_) | refine WN.step _ rfl (SO.val rfl rfl rfl rfl (r_loadAgg (vs := [_, _, _]) rfl (ev_t rfl) agg_28 size_28 (Blk.cellsL hb6)) ?_)
                    refine ⟨hS9, ?_⟩
                    refine WN.step _ rfl (SO.call (unify_ok (fun k hk => hk.1) N3 _ σ D2 xs2 _ _ _ _ _ _ _ _ true σ D3 hun3 (fun k hk => by have := hk.2; omega) hI4 hp hy) rfl body_12 ⟨(ev_t rfl), (ev_t rfl), (ev_t rfl), trivial⟩ rfl rfl rfl rfl ?_)
                    rintro v w23 ⟨rfl, ⟨xs3, hI5⟩, hu23⟩
                    have hs23 := hu23.size
                    replace hS9 := Upd.trans hS9 hu23 (by intro k hl hk; first | exact (show False from hk).elim | exact hMut k hk | (simp only [At, New, Grow, From] at hk; omega))
                    replace hU := hU.trans hu23 (by first | exact (fun _ _ h => h) | exact (fun _ _ h => h.elim) | (intro k hl hk; (try simp only [At, New, Grow, From, No] at hk ⊢); omega) | (intro k hl hk; have := hMut k hk; omega))
                    replace hx := hx.upd hu23 (fun k hk hl hS => by first | exact (show False from hS).elim | (simp only [At, New] at hk hS; omega) | (simp only [At] at hS; omega) | (have := hMut k hS; omega) | exact hk.1 hS)
                    replace hb5 := hb5.upd hu23 (by first | exact (fun h => h) | (simp only [At]; omega) | (intro hS; have := hMut _ hS; omega))
                    replace hy := hy.upd hu23 (fun k hk hl hS => by first | exact (show False from hS).elim | (simp only [At, New] at hk hS; omega) | (simp only [At] at hS; omega) | (have := hMut k hS; omega) | exact hk.1 hS)
                    replace hb6 := hb6.upd hu23 (by first | exact (fun h => h) | (simp only [At]; omega) | (intro hS; have := hMut _ hS; omega))
                    replace hp := hp.upd hu23 (fun k hk hl hS => by first | exact (show False from hS).elim | (simp only [At, New] at hk hS; omega) | (simp only [At] at hS; omega) | (have := hMut k hS; omega) | exact hk.1 hS)
                    replace hb8 := hb8.upd hu23 (by first | exact (fun h => h) | (simp only [At]; omega) | (intro hS; have := hMut _ hS; omega))
                    refine ⟨hS9, ?_⟩
                    refine WN.calm _ rfl rfl rfl rfl rfl (fun _ => r_pickT rfl (ev_t rfl) (ev_t rfl)) ?_
                    refine WN.calm _ rfl rfl rfl rfl rfl (fun _ => r_move rfl (ev_t rfl)) ?_
                    refine WN.cases 51 rfl (fun hb9_10 => ?_) (fun hb9_10 => ?_)
                    · try (exfalso; first | (simp at hb9_10; done) | (simp only [decide_eq_true_eq, decide_eq_false_iff_not, Bool.not_eq_true', Bool.not_eq_false', Bool.not_eq_true, Bool.not_eq_false] at hb9_10; omega) | omega)
                      all_goals
                       try simp only [decide_eq_true_eq, decide_eq_false_iff_not, Bool.not_eq_true', Bool.not_eq_false', Bool.not_eq_true, Bool.not_eq_false, Option.isNone_none, Option.isNone_some, Option.isSome_none, Option.isSome_some, ne_eq, Decidable.not_not] at hb9_10
                       refine WN.calm _ rfl rfl rfl rfl rfl (fun _ => r_move rfl (ev_t rfl)) ?_
                       first | refine WN.held _ rfl rfl rfl rfl rfl hS9 (fun w' hS => r_loadAgg (vs := [_, _, _]) rfl (ev_t rfl) agg_28 size_28 (Blk.cellsL (hz5.upd hS (fun h => by have h : SN ≤ _ ∧ _ := h; omega)))) ?_ | refine WN.held _ rfl rfl rfl rfl rfl hS9 (fun w' hS => r_loadAgg (vs := [_, _, _]) rfl (ev_t rfl) agg_28 size_28 (Blk.cellsL hb5)) ?_
                       first | refine WN.held _ rfl rfl rfl rfl rfl hS9 (fun w' hS => r_loadAgg (vs := [_, _, _]) rfl (ev_t rfl) agg_28 size_28 (Blk.cellsL (hz8.upd hS (fun h => by have h : SN ≤ _ ∧ _ := h; omega)))) ?_ | refine WN.held _ rfl rfl rfl rfl rfl hS9 (fun w' hS => r_loadAgg (vs := [_, _, _]) rfl (ev_t rfl) agg_28 size_28 (Blk.cellsL hb8)) ?_
                       refine WN.step _ rfl (SO.call (apply_ok hF.good.wf _ _ _ _ _ _ X (Nat.le_refl _) hI5 hx) rfl body_18 ⟨(ev_t rfl), (ev_t rfl), trivial⟩ rfl rfl rfl rfl ?_)
                       rintro v w24 ⟨e1, e2, e3, rfl, hq, hu24⟩
                       have hs24 := hu24.size
                       replace hS9 := Upd.trans hS9 hu24 (by intro k hl hk; first | exact (show False from hk).elim | exact hMut k hk | (simp only [At, New, Grow, From] at hk; omega))
                       replace hU := hU.trans hu24 (by first | exact (fun _ _ h => h) | exact (fun _ _ h => h.elim) | (intro k hl hk; (try simp only [At, New, Grow, From, No] at hk ⊢); omega) | (intro k hl hk; have := hMut k hk; omega))
                       replace hx := hx.upd hu24 (fun k hk hl hS => by first | exact (show False from hS).elim | (simp only [At, New] at hk hS; omega) | (simp only [At] at hS; omega) | (have := hMut k hS; omega) | exact hk.1 hS)
                       replace hb5 := hb5.upd hu24 (by first | exact (fun h => h) | (simp only [At]; omega) | (intro hS; have := hMut _ hS; omega))
                       replace hy := hy.upd hu24 (fun k hk hl hS => by first | exact (show False from hS).elim | (simp only [At, New] at hk hS; omega) | (simp only [At] at hS; omega) | (have := hMut k hS; omega) | exact hk.1 hS)
                       replace hb6 := hb6.upd hu24 (by first | exact (fun h => h) | (simp only [At]; omega) | (intro hS; have := hMut _ hS; omega))
                       replace hp := hp.upd hu24 (fun k hk hl hS => by first | exact (show False from hS).elim | (simp only [At, New] at hk hS; omega) | (simp only [At] at hS; omega) | (have := hMut k hS; omega) | exact hk.1 hS)
                       replace hb8 := hb8.upd hu24 (by first | exact (fun h => h) | (simp only [At]; omega) | (intro hS; have := hMut _ hS; omega))
                       replace hI5 := hI5.upd hu24 (fun k hk hl hS => by first | exact (show False from hS).elim | (simp only [At] at hS; subst hS; rcases hk with hk | hk; have := hMut _ hk; omega; have := hk.2; omega))
                       refine ⟨hS9, ?_⟩
                       refine WN.step _ rfl (SO.call (tsame_ok _ (fun _ => True) _ _ _ _ _ _ _ _ _ (Nat.le_refl _) (hq.mono fun _ _ => trivial) (hp.mono fun _ _ => trivial)) rfl body_25 ⟨(ev_t rfl), (ev_t rfl), trivial⟩ rfl rfl rfl rfl ?_)
                       rintro v w25 ⟨bb, rfl, hbb, hu25⟩
                       obtain rfl := hbb.2 rfl
                       clear hq
                       have hs25 := hu25.size
                       replace hS9 := Upd.trans hS9 hu25 (by intro k hl hk; first | exact (show False from hk).elim | exact hMut k hk | (simp only [At, New, Grow, From] at hk; omega))
                       replace hU := hU.trans hu25 (by first | exact (fun _ _ h => h) | exact (fun _ _ h => h.elim) | (intro k hl hk; (try simp only [At, New, Grow, From, No] at hk ⊢); omega) | (intro k hl hk; have := hMut k hk; omega))
                       replace hx := hx.upd hu25 (fun k hk hl hS => by first | exact (show False from hS).elim | (simp only [At, New] at hk hS; omega) | (simp only [At] at hS; omega) | (have := hMut k hS; omega) | exact hk.1 hS)
                       replace hb5 := hb5.upd hu25 (by first | exact (fun h => h) | (simp only [At]; omega) | (intro hS; have := hMut _ hS; omega))
                       replace hy := hy.upd hu25 (fun k hk hl hS => by first | exact (show False from hS).elim | (simp only [At, New] at hk hS; omega) | (simp only [At] at hS; omega) | (have := hMut k hS; omega) | exact hk.1 hS)
                       replace hb6 := hb6.upd hu25 (by first | exact (fun h => h) | (simp only [At]; omega) | (intro hS; have := hMut _ hS; omega))
                       replace hp := hp.upd hu25 (fun k hk hl hS => by first | exact (show False from hS).elim | (simp only [At, New] at hk hS; omega) | (simp only [At] at hS; omega) | (have := hMut k hS; omega) | exact hk.1 hS)
                       replace hb8 := hb8.upd hu25 (by first | exact (fun h => h) | (simp only [At]; omega) | (intro hS; have := hMut _ hS; omega))
                       replace hI5 := hI5.upd hu25 (fun k hk hl hS => by first | exact (show False from hS).elim | (simp only [At] at hS; subst hS; rcases hk with hk | hk; have := hMut _ hk; omega; have := hk.2; omega))
                       refine ⟨hS9, ?_⟩
                       refine WN.calm _ rfl rfl rfl rfl rfl (fun _ => r_pickT rfl (ev_t rfl) (ev_t rfl)) ?_
                       refine WN.calm _ rfl rfl rfl rfl rfl (fun _ => r_move rfl (ev_t rfl)) ?_
                       refine WN.cases 58 rfl (fun hb9_17 => ?_) (fun hb9_17 => ?_)
                       · try (exfalso; first | (simp at hb9_17; done) | (simp only [decide_eq_true_eq, decide_eq_false_iff_not, Bool.not_eq_true', Bool.not_eq_false', Bool.not_eq_true, Bool.not_eq_false] at hb9_17; omega) | omega)
                         all_goals
                          try simp only [decide_eq_true_eq, decide_eq_false_iff_not, Bool.not_eq_true', Bool.not_eq_false', Bool.not_eq_true, Bool.not_eq_false, Option.isNone_none, Option.isNone_some, Option.isSome_none, Option.isSome_some, ne_eq, Decidable.not_not] at hb9_17
                          refine WN.calm _ rfl rfl rfl rfl rfl (fun _ => r_move rfl (ev_t rfl)) ?_
                          first | refine WN.held _ rfl rfl rfl rfl rfl hS9 (fun w' hS => r_loadAgg (vs := [_, _, _]) rfl (ev_t rfl) agg_28 size_28 (Blk.cellsL (hz8.upd hS (fun h => by have h : SN ≤ _ ∧ _ := h; omega)))) ?_ | refine WN.held _ rfl rfl rfl rfl rfl hS9 (fun w' hS => r_loadAgg (vs := [_, _, _]) rfl (ev_t rfl) agg_28 size_28 (Blk.cellsL hb8)) ?_
                          first | refine WN.held _ rfl rfl rfl rfl rfl hS9 (fun w' hS => r_loadAgg (vs := [_, _, _]) rfl (ev_t rfl) agg_28 size_28 (Blk.cellsL (hz8.upd hS (fun h => by have h : SN ≤ _ ∧ _ := h; omega)))) ?_ | refine WN.held _ rfl rfl rfl rfl rfl hS9 (fun w' hS => r_loadAgg (vs := [_, _, _]) rfl (ev_t rfl) agg_28 size_28 (Blk.cellsL hb8)) ?_
                          refine WN.step _ rfl (SO.call (apply_ok hF.good.wf _ _ _ _ _ _ _ (Nat.le_refl _) hI5 hp) rfl body_18 ⟨(ev_t rfl), (ev_t rfl), trivial⟩ rfl rfl rfl rfl ?_)
                          rintro v w26 ⟨e1, e2, e3, rfl, hq, hu26⟩
                          rw [hF.good.wf.idem] at hq
                          have hs26 := hu26.size
                          replace hS9 := Upd.trans hS9 hu26 (by intro k hl hk; first | exact (show False from hk).elim | exact hMut k hk | (simp only [At, New, Grow, From] at hk; omega))
                          replace hU := hU.trans hu26 (by first | exact (fun _ _ h => h) | exact (fun _ _ h => h.elim) | (intro k hl hk; (try simp only [At, New, Grow, From, No] at hk ⊢); omega) | (intro k hl hk; have := hMut k hk; omega))
                          replace hx := hx.upd hu26 (fun k hk hl hS => by first | exact (show False from hS).elim | (simp only [At, New] at hk hS; omega) | (simp only [At] at hS; omega) | (have := hMut k hS; omega) | exact hk.1 hS)
                          replace hb5 := hb5.upd hu26 (by first | exact (fun h => h) | (simp only [At]; omega) | (intro hS; have := hMut _ hS; omega))
                          replace hy := hy.upd hu26 (fun k hk hl hS => by first | exact (show False from hS).elim | (simp only [At, New] at hk hS; omega) | (simp only [At] at hS; omega) | (have := hMut k hS; omega) | exact hk.1 hS)
                          replace hb6 := hb6.upd hu26 (by first | exact (fun h => h) | (simp only [At]; omega) | (intro hS; have := hMut _ hS; omega))
                          replace hp := hp.upd hu26 (fun k hk hl hS => by first | exact (show False from hS).elim | (simp only [At, New] at hk hS; omega) | (simp only [At] at hS; omega) | (have := hMut k hS; omega) | exact hk.1 hS)
                          replace hb8 := hb8.upd hu26 (by first | exact (fun h => h) | (simp only [At]; omega) | (intro hS; have := hMut _ hS; omega))
                          replace hI5 := hI5.upd hu26 (fun k hk hl hS => by first | exact (show False from hS).elim | (simp only [At] at hS; subst hS; rcases hk with hk | hk; have := hMut _ hk; omega; have := hk.2; omega))
                          refine ⟨hS9, ?_⟩
                          refine WN.step _ rfl (SO.call (tsame_ok _ (fun _ => True) _ _ _ _ _ _ _ _ _ (Nat.le_refl _) (hq.mono fun _ _ => trivial) (hp.mono fun _ _ => trivial)) rfl body_25 ⟨(ev_t rfl), (ev_t rfl), trivial⟩ rfl rfl rfl rfl ?_)
                          rintro v w27 ⟨bb, rfl, hbb, hu27⟩
                          obtain rfl := hbb.2 rfl
                          clear hq
                          have hs27 := hu27.size
                          replace hS9 := Upd.trans hS9 hu27 (by intro k hl hk; first | exact (show False from hk).elim | exact hMut k hk | (simp only [At, New, Grow, From] at hk; omega))
                          replace hU := hU.trans hu27 (by first | exact (fun _ _ h => h) | exact (fun _ _ h => h.elim) | (intro k hl hk; (try simp only [At, New, Grow, From, No] at hk ⊢); omega) | (intro k hl hk; have := hMut k hk; omega))
                          replace hx := hx.upd hu27 (fun k hk hl hS => by first | exact (show False from hS).elim | (simp only [At, New] at hk hS; omega) | (simp only [At] at hS; omega) | (have := hMut k hS; omega) | exact hk.1 hS)
                          replace hb5 := hb5.upd hu27 (by first | exact (fun h => h) | (simp only [At]; omega) | (intro hS; have := hMut _ hS; omega))
                          replace hy := hy.upd hu27 (fun k hk hl hS => by first | exact (show False from hS).elim | (simp only [At, New] at hk hS; omega) | (simp only [At] at hS; omega) | (have := hMut k hS; omega) | exact hk.1 hS)
                          replace hb6 := hb6.upd hu27 (by first | exact (fun h => h) | (simp only [At]; omega) | (intro hS; have := hMut _ hS; omega))
                          replace hp := hp.upd hu27 (fun k hk hl hS => by first | exact (show False from hS).elim | (simp only [At, New] at hk hS; omega) | (simp only [At] at hS; omega) | (have := hMut k hS; omega) | exact hk.1 hS)
                          replace hb8 := hb8.upd hu27 (by first | exact (fun h => h) | (simp only [At]; omega) | (intro hS; have := hMut _ hS; omega))
                          replace hI5 := hI5.upd hu27 (fun k hk hl hS => by first | exact (show False from hS).elim | (simp only [At] at hS; subst hS; rcases hk with hk | hk; have := hMut _ hk; omega; have := hk.2; omega))
                          refine ⟨hS9, ?_⟩
                          refine WN.calm _ rfl rfl rfl rfl rfl (fun _ => r_pickT rfl (ev_t rfl) (ev_t rfl)) ?_
                          refine WN.calm _ rfl rfl rfl rfl rfl (fun _ => r_move rfl (ev_t rfl)) ?_
                          refine WN.cases 65 rfl (fun hb9_24 => ?_) (fun hb9_24 => ?_)
                          · try (exfalso; first | (simp at hb9_24; done) | (simp only [decide_eq_true_eq, decide_eq_false_iff_not, Bool.not_eq_true', Bool.not_eq_false', Bool.not_eq_true, Bool.not_eq_false] at hb9_24; omega) | omega)
                            all_goals
                             try simp only [decide_eq_true_eq, decide_eq_false_iff_not, Bool.not_eq_true', Bool.not_eq_false', Bool.not_eq_true, Bool.not_eq_false, Option.isNone_none, Option.isNone_some, Option.isSome_none, Option.isSome_some, ne_eq, Decidable.not_not] at hb9_24
                             refine WN.calm _ rfl rfl rfl rfl rfl (fun _ => r_move rfl (ev_t rfl)) ?_
                             first | refine WN.held _ rfl rfl rfl rfl rfl hS9 (fun w' hS => r_loadAgg (vs := [_, _, _]) rfl (ev_t rfl) agg_28 size_28 (Blk.cellsL (hz6.upd hS (fun h => by have h : SN ≤ _ ∧ _ := h; omega)))) ?_ | refine WN.held _ rfl rfl rfl rfl rfl hS9 (fun w' hS => r_loadAgg (vs := [_, _, _]) rfl (ev_t rfl) agg_28 size_28 (Blk.cellsL hb6)) ?_
                             first | refine WN.held _ rfl rfl rfl rfl rfl hS9 (fun w' hS => r_loadAgg (vs := [_, _, _]) rfl (ev_t rfl) agg_28 size_28 (Blk.cellsL (hz8.upd hS (fun h => by have h : SN ≤ _ ∧ _ := h; omega)))) ?_ | refine WN.held _ rfl rfl rfl rfl rfl hS9 (fun w' hS => r_loadAgg (vs := [_, _, _]) rfl (ev_t rfl) agg_28 size_28 (Blk.cellsL hb8)) ?_
                             refine WN.step _ rfl (SO.call (apply_ok hF.good.wf _ _ _ _ _ _ Y (Nat.le_refl _) hI5 hy) rfl body_18 ⟨(ev_t rfl), (ev_t rfl), trivial⟩ rfl rfl rfl rfl ?_)
                             rintro v w28 ⟨e1, e2, e3, rfl, hq, hu28⟩
                             rw [← hxy] at hq
                             have hs28 := hu28.size
                             replace hS9 := Upd.trans hS9 hu28 (by intro k hl hk; first | exact (show False from hk).elim | exact hMut k hk | (simp only [At, New, Grow, From] at hk; omega))
                             replace hU := hU.trans hu28 (by first | exact (fun _ _ h => h) | exact (fun _ _ h => h.elim) | (intro k hl hk; (try simp only [At, New, Grow, From, No] at hk ⊢); omega) | (intro k hl hk; have := hMut k hk; omega))
                             replace hx := hx.upd hu28 (fun k hk hl hS => by first | exact (show False from hS).elim | (simp only [At, New] at hk hS; omega) | (simp only [At] at hS; omega) | (have := hMut k hS; omega) | exact hk.1 hS)
                             replace hb5 := hb5.upd hu28 (by first | exact (fun h => h) | (simp only [At]; omega) | (intro hS; have := hMut _ hS; omega))
                             replace hy := hy.upd hu28 (fun k hk hl hS => by first | exact (show False from hS).elim | (simp only [At, New] at hk hS; omega) | (simp only [At] at hS; omega) | (have := hMut k hS; omega) | exact hk.1 hS)
                             replace hb6 := hb6.upd hu28 (by first | exact (fun h => h) | (simp only [At]; omega) | (intro hS; have := hMut _ hS; omega))
                             replace hp := hp.upd hu28 (fun k hk hl hS => by first | exact (show False from hS).elim | (simp only [At, New] at hk hS; omega) | (simp only [At] at hS; omega) | (have := hMut k hS; omega) | exact hk.1 hS)
                             replace hb8 := hb8.upd hu28 (by first | exact (fun h => h) | (simp only [At]; omega) | (intro hS; have := hMut _ hS; omega))
                             replace hI5 := hI5.upd hu28 (fun k hk hl hS => by first | exact (show False from hS).elim | (simp only [At] at hS; subst hS; rcases hk with hk | hk; have := hMut _ hk; omega; have := hk.2; omega))
                             refine ⟨hS9, ?_⟩
                             refine WN.step _ rfl (SO.call (tsame_ok _ (fun _ => True) _ _ _ _ _ _ _ _ _ (Nat.le_refl _) (hq.mono fun _ _ => trivial) (hp.mono fun _ _ => trivial)) rfl body_25 ⟨(ev_t rfl), (ev_t rfl), trivial⟩ rfl rfl rfl rfl ?_)
                             rintro v w29 ⟨bb, rfl, hbb, hu29⟩
                             obtain rfl := hbb.2 rfl
                             clear hq
                             have hs29 := hu29.size
                             replace hS9 := Upd.trans hS9 hu29 (by intro k hl hk; first | exact (show False from hk).elim | exact hMut k hk | (simp only [At, New, Grow, From] at hk; omega))
                             replace hU := hU.trans hu29 (by first | exact (fun _ _ h => h) | exact (fun _ _ h => h.elim) | (intro k hl hk; (try simp only [At, New, Grow, From, No] at hk ⊢); omega) | (intro k hl hk; have := hMut k hk; omega))
                             replace hx := hx.upd hu29 (fun k hk hl hS => by first | exact (show False from hS).elim | (simp only [At, New] at hk hS; omega) | (simp only [At] at hS; omega) | (have := hMut k hS; omega) | exact hk.1 hS)
                             replace hb5 := hb5.upd hu29 (by first | exact (fun h => h) | (simp only [At]; omega) | (intro hS; have := hMut _ hS; omega))
                             replace hy := hy.upd hu29 (fun k hk hl hS => by first | exact (show False from hS).elim | (simp only [At, New] at hk hS; omega) | (simp only [At] at hS; omega) | (have := hMut k hS; omega) | exact hk.1 hS)
                             replace hb6 := hb6.upd hu29 (by first | exact (fun h => h) | (simp only [At]; omega) | (intro hS; have := hMut _ hS; omega))
                             replace hp := hp.upd hu29 (fun k hk hl hS => by first | exact (show False from hS).elim | (simp only [At, New] at hk hS; omega) | (simp only [At] at hS; omega) | (have := hMut k hS; omega) | exact hk.1 hS)
                             replace hb8 := hb8.upd hu29 (by first | exact (fun h => h) | (simp only [At]; omega) | (intro hS; have := hMut _ hS; omega))
                             replace hI5 := hI5.upd hu29 (fun k hk hl hS => by first | exact (show False from hS).elim | (simp only [At] at hS; subst hS; rcases hk with hk | hk; have := hMut _ hk; omega; have := hk.2; omega))
                             refine ⟨hS9, ?_⟩
                             refine WN.calm _ rfl rfl rfl rfl rfl (fun _ => r_pickT rfl (ev_t rfl) (ev_t rfl)) ?_
                             refine WN.calm _ rfl rfl rfl rfl rfl (fun _ => r_move rfl (ev_t rfl)) ?_
                             refine WN.cases 72 rfl (fun hb9_31 => ?_) (fun hb9_31 => ?_)
                             · try (exfalso; first | (simp at hb9_31; done) | (simp only [decide_eq_true_eq, decide_eq_false_iff_not, Bool.not_eq_true', Bool.not_eq_false', Bool.not_eq_true, Bool.not_eq_false] at hb9_31; omega) | omega)
                               all_goals
                                try simp only [decide_eq_true_eq, decide_eq_false_iff_not, Bool.not_eq_true', Bool.not_eq_false', Bool.not_eq_true, Bool.not_eq_false, Option.isNone_none, Option.isNone_some, Option.isSome_none, Option.isSome_some, ne_eq, Decidable.not_not] at hb9_31
                                refine WN.calm _ rfl rfl rfl rfl rfl (fun _ => r_move rfl (ev_t rfl)) ?_
                                first | refine WN.held _ rfl rfl rfl rfl rfl hS9 (fun w' hS => r_loadAgg (vs := [_, _, _]) rfl (ev_t rfl) agg_28 size_28 (Blk.cellsL (hz8.upd hS (fun h => by have h : SN ≤ _ ∧ _ := h; omega)))) ?_ | refine WN.held _ rfl rfl rfl rfl rfl hS9 (fun w' hS => r_loadAgg (vs := [_, _, _]) rfl (ev_t rfl) agg_28 size_28 (Blk.cellsL hb8)) ?_
                                first | refine WN.step _ rfl (SO.val rfl rfl rfl rfl (r_loadAgg (vs := [_, _, _]) rfl (ev_t rfl) agg_28 size_28 (Blk.cellsL (hz5.upd hS (fun h => by have h : SN ≤ _ ∧ _ := h; omega)))) ?_) | refine WN.step _ rfl (SO.val rfl rfl rfl rfl (r_loadAgg (vs := [_, _, _]) rfl (ev_t rfl) agg_28 size_28 (Blk.cellsL hb5)) ?_)
                                refine ⟨hS9, ?_⟩
                                refine WN.step _ rfl (SO.call (apply_ok hF.good.wf _ _ _ _ _ _ X (Nat.le_refl _) hI5 hx) rfl body_18 ⟨(ev_t rfl), (ev_t rfl), trivial⟩ rfl rfl rfl rfl ?_)
                                rintro v w30 ⟨e1, e2, e3, rfl, hq, hu30⟩
                                have hs30 := hu30.size
                                replace hS9 := Upd.trans hS9 hu30 (by intro k hl hk; first | exact (show False from hk).elim | exact hMut k hk | (simp only [At, New, Grow, From] at hk; omega))
                                replace hU := hU.trans hu30 (by first | exact (fun _ _ h => h) | exact (fun _ _ h => h.elim) | (intro k hl hk; (try simp only [At, New, Grow, From, No] at hk ⊢); omega) | (intro k hl hk; have := hMut k hk; omega))
                                replace hx := hx.upd hu30 (fun k hk hl hS => by first | exact (show False from hS).elim | (simp only [At, New] at hk hS; omega) | (simp only [At] at hS; omega) | (have := hMut k hS; omega) | exact hk.1 hS)
                                replace hb5 := hb5.upd hu30 (by first | exact (fun h => h) | (simp only [At]; omega) | (intro hS; have := hMut _ hS; omega))
                                replace hy := hy.upd hu30 (fun k hk hl hS => by first | exact (show False from hS).elim | (simp only [At, New] at hk hS; omega) | (simp only [At] at hS; omega) | (have := hMut k hS; omega) | exact hk.1 hS)
                                replace hb6 := hb6.upd hu30 (by first | exact (fun h => h) | (simp only [At]; omega) | (intro hS; have := hMut _ hS; omega))
                                replace hp := hp.upd hu30 (fun k hk hl hS => by first | exact (show False from hS).elim | (simp only [At, New] at hk hS; omega) | (simp only [At] at hS; omega) | (have := hMut k hS; omega) | exact hk.1 hS)
                                replace hb8 := hb8.upd hu30 (by first | exact (fun h => h) | (simp only [At]; omega) | (intro hS; have := hMut _ hS; omega))
                                replace hI5 := hI5.upd hu30 (fun k hk hl hS => by first | exact (show False from hS).elim | (simp only [At] at hS; subst hS; rcases hk with hk | hk; have := hMut _ hk; omega; have := hk.2; omega))
                                refine ⟨hS9, ?_⟩
                                refine WN.step _ rfl (SO.call (rsame_ok _ (fun _ => True) _ _ _ _ _ _ _ _ _ (Nat.le_refl _) (hp.mono fun _ _ => trivial) (hq.mono fun _ _ => trivial)) rfl body_16 ⟨(ev_t rfl), (ev_t rfl), trivial⟩ rfl rfl rfl rfl ?_)
                                rintro v w31 ⟨bb, rfl, hbb, hu31⟩
                                obtain rfl := hbb.2 rfl
                                clear hq
                                have hs31 := hu31.size
                                replace hS9 := Upd.trans hS9 hu31 (by intro k hl hk; first | exact (show False from hk).elim | exact hMut k hk | (simp only [At, New, Grow, From] at hk; omega))
                                replace hU := hU.trans hu31 (by first | exact (fun _ _ h => h) | exact (fun _ _ h => h.elim) | (intro k hl hk; (try simp only [At, New, Grow, From, No] at hk ⊢); omega) | (intro k hl hk; have := hMut k hk; omega))
                                replace hx := hx.upd hu31 (fun k hk hl hS => by first | exact (show False from hS).elim | (simp only [At, New] at hk hS; omega) | (simp only [At] at hS; omega) | (have := hMut k hS; omega) | exact hk.1 hS)
                                replace hb5 := hb5.upd hu31 (by first | exact (fun h => h) | (simp only [At]; omega) | (intro hS; have := hMut _ hS; omega))
                                replace hy := hy.upd hu31 (fun k hk hl hS => by first | exact (show False from hS).elim | (simp only [At, New] at hk hS; omega) | (simp only [At] at hS; omega) | (have := hMut k hS; omega) | exact hk.1 hS)
                                replace hb6 := hb6.upd hu31 (by first | exact (fun h => h) | (simp only [At]; omega) | (intro hS; have := hMut _ hS; omega))
                                replace hp := hp.upd hu31 (fun k hk hl hS => by first | exact (show False from hS).elim | (simp only [At, New] at hk hS; omega) | (simp only [At] at hS; omega) | (have := hMut k hS; omega) | exact hk.1 hS)
                                replace hb8 := hb8.upd hu31 (by first | exact (fun h => h) | (simp only [At]; omega) | (intro hS; have := hMut _ hS; omega))
                                replace hI5 := hI5.upd hu31 (fun k hk hl hS => by first | exact (show False from hS).elim | (simp only [At] at hS; subst hS; rcases hk with hk | hk; have := hMut _ hk; omega; have := hk.2; omega))
                                refine ⟨hS9, ?_⟩
                                refine WN.calm _ rfl rfl rfl rfl rfl (fun _ => r_pickT rfl (ev_t rfl) (ev_t rfl)) ?_
                                refine WN.calm _ rfl rfl rfl rfl rfl (fun _ => r_assign rfl (ev_t rfl)) ?_
                                refine WN.done ?_
                                refine WX.keep [(4, _)] ⟨rfl, trivial⟩ ?_
                                refine WX.next ?_
                                refine WC.ret ?_
                                refine WX.retE1 rfl rfl ?_
                                exact ⟨rfl, hU⟩
                             · try (exfalso; first | (simp at hb9_31; done) | (simp only [decide_eq_true_eq, decide_eq_false_iff_not, Bool.not_eq_true', Bool.not_eq_false', Bool.not_eq_true, Bool.not_eq_false] at hb9_31; omega) | omega)
                               all_goals
                                try simp only [decide_eq_true_eq, decide_eq_false_iff_not, Bool.not_eq_true', Bool.not_eq_false', Bool.not_eq_true, Bool.not_eq_false, Option.isNone_none, Option.isNone_some, Option.isSome_none, Option.isSome_some, ne_eq, Decidable.not_not] at hb9_31
                                refine WN.skip _ rfl rfl rfl rfl ?_
                                refine WN.heldSkip _ rfl rfl rfl rfl hS9 ?_
                                refine WN.step _ rfl (SO.skip rfl rfl rfl ?_)
                                refine ⟨hS9, ?_⟩
                                refine WN.step _ rfl (SO.skip rfl rfl rfl ?_)
                                refine ⟨hS9, ?_⟩
                                refine WN.step _ rfl (SO.skip rfl rfl rfl ?_)
                                refine ⟨hS9, ?_⟩
                                refine WN.calm _ rfl rfl rfl rfl rfl (fun _ => r_pickF rfl (ev_t rfl) ev_c) ?_
                                refine WN.calm _ rfl rfl rfl rfl rfl (fun _ => r_assign rfl (ev_t rfl)) ?_
                                refine WN.done ?_
                                refine WX.keep [(4, _)] ⟨rfl, trivial⟩ ?_
                                refine WX.next ?_
                                refine WC.ret ?_
                                refine WX.retE1 rfl rfl ?_
                                exact ⟨rfl, hU⟩
                          · try (exfalso; first | (simp at hb9_24; done) | (simp only [decide_eq_true_eq, decide_eq_false_iff_not, Bool.not_eq_true', Bool.not_eq_false', Bool.not_eq_true, Bool.not_eq_false] at hb9_24; omega) | omega)
                            all_goals
                             try simp only [decide_eq_true_eq, decide_eq_false_iff_not, Bool.not_eq_true', Bool.not_eq_false', Bool.not_eq_true, Bool.not_eq_false, Option.isNone_none, Option.isNone_some, Option.isSome_none, Option.isSome_some, ne_eq, Decidable.not_not] at hb9_24
                             refine WN.skip _ rfl rfl rfl rfl ?_
                             refine WN.heldSkip _ rfl rfl rfl rfl hS9 ?_
                             refine WN.heldSkip _ rfl rfl rfl rfl hS9 ?_
                             refine WN.step _ rfl (SO.skip rfl rfl rfl ?_)
                             refine ⟨hS9, ?_⟩
                             refine WN.step _ rfl (SO.skip rfl rfl rfl ?_)
                             refine ⟨hS9, ?_⟩
                             refine WN.calm _ rfl rfl rfl rfl rfl (fun _ => r_pickF rfl (ev_t rfl) ev_c) ?_
                             refine WN.calm _ rfl rfl rfl rfl rfl (fun _ => r_move rfl (ev_t rfl)) ?_
                             refine WN.skip _ rfl rfl rfl rfl ?_
                             refine WN.heldSkip _ rfl rfl rfl rfl hS9 ?_
                             refine WN.step _ rfl (SO.skip rfl rfl rfl ?_)
                             refine ⟨hS9, ?_⟩
                             refine WN.step _ rfl (SO.skip rfl rfl rfl ?_)
                             refine ⟨hS9, ?_⟩
                             refine WN.step _ rfl (SO.skip rfl rfl rfl ?_)
                             refine ⟨hS9, ?_⟩
                             refine WN.calm _ rfl rfl rfl rfl rfl (fun _ => r_pickF rfl (ev_t rfl) ev_c) ?_
                             refine WN.calm _ rfl rfl rfl rfl rfl (fun _ => r_assign rfl (ev_t rfl)) ?_
                             refine WN.done ?_
                             refine WX.keep [(4, _)] ⟨rfl, trivial⟩ ?_
                             refine WX.next ?_
                             refine WC.ret ?_
                             refine WX.retE1 rfl rfl ?_
                             exact ⟨rfl, hU⟩
                       · try (exfalso; first | (simp at hb9_17; done) | (simp only [decide_eq_true_eq, decide_eq_false_iff_not, Bool.not_eq_true', Bool.not_eq_false', Bool.not_eq_true, Bool.not_eq_false] at hb9_17; omega) | omega)
                         all_goals
                          try simp only [decide_eq_true_eq, decide_eq_false_iff_not, Bool.not_eq_true', Bool.not_eq_false', Bool.not_eq_true, Bool.not_eq_false, Option.isNone_none, Option.isNone_some, Option.isSome_none, Option.isSome_some, ne_eq, Decidable.not_not] at hb9_17
                          refine WN.skip _ rfl rfl rfl rfl ?_
                          refine WN.heldSkip _ rfl rfl rfl rfl hS9 ?_
                          refine WN.heldSkip _ rfl rfl rfl rfl hS9 ?_
                          refine WN.step _ rfl (SO.skip rfl rfl rfl ?_)
                          refine ⟨hS9, ?_⟩
                          refine WN.step _ rfl (SO.skip rfl rfl rfl ?_)
                          refine ⟨hS9, ?_⟩
                          refine WN.calm _ rfl rfl rfl rfl rfl (fun _ => r_pickF rfl (ev_t rfl) ev_c) ?_
                          refine WN.calm _ rfl rfl rfl rfl rfl (fun _ => r_move rfl (ev_t rfl)) ?_
                          refine WN.skip _ rfl rfl rfl rfl ?_
                          refine WN.heldSkip _ rfl rfl rfl rfl hS9 ?_
                          refine WN.heldSkip _ rfl rfl rfl rfl hS9 ?_
                          refine WN.step _ rfl (SO.skip rfl rfl rfl ?_)
                          refine ⟨hS9, ?_⟩
                          refine WN.step _ rfl (SO.skip rfl rfl rfl ?_)
                          refine ⟨hS9, ?_⟩
                          refine WN.calm _ rfl rfl rfl rfl rfl (fun _ => r_pickF rfl (ev_t rfl) ev_c) ?_
                          refine WN.calm _ rfl rfl rfl rfl rfl (fun _ => r_move rfl (ev_t rfl)) ?_
                          refine WN.skip _ rfl rfl rfl rfl ?_
                          refine WN.heldSkip _ rfl rfl rfl rfl hS9 ?_
                          refine WN.step _ rfl (SO.skip rfl rfl rfl ?_)
                          refine ⟨hS9, ?_⟩
                          refine WN.step _ rfl (SO.skip rfl rfl rfl ?_)
                          refine ⟨hS9, ?_⟩
                          refine WN.step _ rfl (SO.skip rfl rfl rfl ?_)
                          refine ⟨hS9, ?_⟩
                          refine WN.calm _ rfl rfl rfl rfl rfl (fun _ => r_pickF rfl (ev_t rfl) ev_c) ?_
                          refine WN.calm _ rfl rfl rfl rfl rfl (fun _ => r_assign rfl (ev_t rfl)) ?_
                          refine WN.done ?_
                          refine WX.keep [(4, _)] ⟨rfl, trivial⟩ ?_
                          refine WX.next ?_
                          refine WC.ret ?_
                          refine WX.retE1 rfl rfl ?_
                          exact ⟨rfl, hU⟩
                    · try (exfalso; first | (simp at hb9_10; done) | (simp only [decide_eq_true_eq, decide_eq_false_iff_not, Bool.not_eq_true', Bool.not_eq_false', Bool.not_eq_true, Bool.not_eq_false] at hb9_10; omega) | omega)
                      all_goals
                       try simp only [decide_eq_true_eq, decide_eq_false_iff_not, Bool.not_eq_true', Bool.not_eq_false', Bool.not_eq_true, Bool.not_eq_false, Option.isNone_none, Option.isNone_some, Option.isSome_none, Option.isSome_some, ne_eq, Decidable.not_not] at hb9_10
                       refine WN.skip _ rfl rfl rfl rfl ?_
                       refine WN.heldSkip _ rfl rfl rfl rfl hS9 ?_
                       refine WN.heldSkip _ rfl rfl rfl rfl hS9 ?_
                       refine WN.step _ rfl (SO.skip rfl rfl rfl ?_)
                       refine ⟨hS9, ?_⟩
                       refine WN.step _ rfl (SO.skip rfl rfl rfl ?_)
                       refine ⟨hS9, ?_⟩
                       refine WN.calm _ rfl rfl rfl rfl rfl (fun _ => r_pickF rfl (ev_t rfl) ev_c) ?_
                       refine WN.calm _ rfl rfl rfl rfl rfl (fun _ => r_move rfl (ev_t rfl)) ?_
                       refine WN.skip _ rfl rfl rfl rfl ?_
                       refine WN.heldSkip _ rfl rfl rfl rfl hS9 ?_
                       refine WN.heldSkip _ rfl rfl rfl rfl hS9 ?_
                       refine WN.step _ rfl (SO.skip rfl rfl rfl ?_)
                       refine ⟨hS9, ?_⟩
                       refine WN.step _ rfl (SO.skip rfl rfl rfl ?_)
                       refine ⟨hS9, ?_⟩
                       refine WN.calm _ rfl rfl rfl rfl rfl (fun _ => r_pickF rfl (ev_t rfl) ev_c) ?_
                       refine WN.calm _ rfl rfl rfl rfl rfl (fun _ => r_move rfl (ev_t rfl)) ?_
                       refine WN.skip _ rfl rfl rfl rfl ?_
                       refine WN.heldSkip _ rfl rfl rfl rfl hS9 ?_
                       refine WN.heldSkip _ rfl rfl rfl rfl hS9 ?_
                       refine WN.step _ rfl (SO.skip rfl rfl rfl ?_)
                       refine ⟨hS9, ?_⟩
                       refine WN.step _ rfl (SO.skip rfl rfl rfl ?_)
                       refine ⟨hS9, ?_⟩
                       refine WN.calm _ rfl rfl rfl rfl rfl (fun _ => r_pickF rfl (ev_t rfl) ev_c) ?_
                       refine WN.calm _ rfl rfl rfl rfl rfl (fun _ => r_move rfl (ev_t rfl)) ?_
                       refine WN.skip _ rfl rfl rfl rfl ?_
                       refine WN.heldSkip _ rfl rfl rfl rfl hS9 ?_
                       refine WN.step _ rfl (SO.skip rfl rfl rfl ?_)
                       refine ⟨hS9, ?_⟩
                       refine WN.step _ rfl (SO.skip rfl rfl rfl ?_)
                       refine ⟨hS9, ?_⟩
                       refine WN.step _ rfl (SO.skip rfl rfl rfl ?_)
                       refine ⟨hS9, ?_⟩
                       refine WN.calm _ rfl rfl rfl rfl rfl (fun _ => r_pickF rfl (ev_t rfl) ev_c) ?_
                       refine WN.calm _ rfl rfl rfl rfl rfl (fun _ => r_assign rfl (ev_t rfl)) ?_
                       refine WN.done ?_
                       refine WX.keep [(4, _)] ⟨rfl, trivial⟩ ?_
                       refine WX.next ?_
                       refine WC.ret ?_
                       refine WX.retE1 rfl rfl ?_
                       exact ⟨rfl, hU⟩
                 · try (exfalso; first | (simp at hb9_4; done) | (simp only [decide_eq_true_eq, decide_eq_false_iff_not, Bool.not_eq_true', Bool.not_eq_false', Bool.not_eq_true, Bool.not_eq_false] at hb9_4; omega) | omega)
                   all_goals
                    try simp only [decide_eq_true_eq, decide_eq_false_iff_not, Bool.not_eq_true', Bool.not_eq_false', Bool.not_eq_true, Bool.not_eq_false, Option.isNone_none, Option.isNone_some, Option.isSome_none, Option.isSome_some, ne_eq, Decidable.not_not] at hb9_4
                    refine WN.skip _ rfl rfl rfl rfl ?_
                    refine WN.heldSkip _ rfl rfl rfl rfl hS9 ?_
                    refine WN.step _ rfl (SO.skip rfl rfl rfl ?_)
                    refine ⟨hS9, ?_⟩
                    refine WN.step _ rfl (SO.skip rfl rfl rfl ?_)
                    refine ⟨hS9, ?_⟩
                    refine WN.calm _ rfl rfl rfl rfl rfl (fun _ => r_pickF rfl (ev_t rfl) ev_c) ?_
                    refine WN.calm _ rfl rfl rfl rfl rfl (fun _ => r_move rfl (ev_t rfl)) ?_
                    refine WN.skip _ rfl rfl rfl rfl ?_
                    refine WN.heldSkip _ rfl rfl rfl rfl hS9 ?_
                    refine WN.heldSkip _ rfl rfl rfl rfl hS9 ?_
                    refine WN.step _ rfl (SO.skip rfl rfl rfl ?_)
                    refine ⟨hS9, ?_⟩
                    refine WN.step _ rfl (SO.skip rfl rfl rfl ?_)
                    refine ⟨hS9, ?_⟩
                    refine WN.calm _ rfl rfl rfl rfl rfl (fun _ => r_pickF rfl (ev_t rfl) ev_c) ?_
                    refine WN.calm _ rfl rfl rfl rfl rfl (fun _ => r_move rfl (ev_t rfl)) ?_
                    refine WN.skip _ rfl rfl rfl rfl ?_
                    refine WN.heldSkip _ rfl rfl rfl rfl hS9 ?_
                    refine WN.heldSkip _ rfl rfl rfl rfl hS9 ?_
                    refine WN.step _ rfl (SO.skip rfl rfl rfl ?_)
                    refine ⟨hS9, ?_⟩
                    refine WN.step _ rfl (SO.skip rfl rfl rfl ?_)
                    refine ⟨hS9, ?_⟩
                    refine WN.calm _ rfl rfl rfl rfl rfl (fun _ => r_pickF rfl (ev_t rfl) ev_c) ?_
                    refine WN.calm _ rfl rfl rfl rfl rfl (fun _ => r_move rfl (ev_t rfl)) ?_
                    refine WN.skip _ rfl rfl rfl rfl ?_
                    refine WN.heldSkip _ rfl rfl rfl rfl hS9 ?_
                    refine WN.heldSkip _ rfl rfl rfl rfl hS9 ?_
                    refine WN.step _ rfl (SO.skip rfl rfl rfl ?_)
                    refine ⟨hS9, ?_⟩
                    refine WN.step _ rfl (SO.skip rfl rfl rfl ?_)
                    refine ⟨hS9, ?_⟩
                    refine WN.calm _ rfl rfl rfl rfl rfl (fun _ => r_pickF rfl (ev_t rfl) ev_c) ?_
                    refine WN.calm _ rfl rfl rfl rfl rfl (fun _ => r_move rfl (ev_t rfl)) ?_
                    refine WN.skip _ rfl rfl rfl rfl ?_
                    refine WN.heldSkip _ rfl rfl rfl rfl hS9 ?_
                    refine WN.step _ rfl (SO.skip rfl rfl rfl ?_)
                    refine ⟨hS9, ?_⟩
                    refine WN.step _ rfl (SO.skip rfl rfl rfl ?_)
                    refine ⟨hS9, ?_⟩
                    refine WN.step _ rfl (SO.skip rfl rfl rfl ?_)
                    refine ⟨hS9, ?_⟩
                    refine WN.calm _ rfl rfl rfl rfl rfl (fun _ => r_pickF rfl (ev_t rfl) ev_c) ?_
                    refine WN.calm _ rfl rfl rfl rfl rfl (fun _ => r_assign rfl (ev_t rfl)) ?_
                    refine WN.done ?_
                    refine WX.keep [(4, _)] ⟨rfl, trivial⟩ ?_
                    refine WX.next ?_
                    refine WC.ret ?_
                    refine WX.retE1 rfl rfl ?_
                    exact ⟨rfl, hU⟩
end Go.Proofs.Ytncakfcafkfmfaa
