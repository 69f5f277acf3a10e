/-
  law 06: TypesEither.
-/
import Derived.Test.YtncakfcafkfmfaaTyt
import Derived.Test.YtncakfcafkfmfaaTyr
import Derived.Test.YtncakfcafkfmfaaTyZ
import Derived.Test.YtncakfcafkfmfaaFv
namespace Go.Proofs.Ytncakfcafkfmfaa
open Go
set_option linter.unusedSimpArgs false
set_option linter.unusedVariables false

theorem t2_all {l : List Ty} {σ : Sg} {b : Nat} (h : ∀ (k : Nat) t, l[k]? = some t → k < l.length → sz (ext (th σ) t) < b) : ∀ t ∈ l.map (ext (th σ)), sz t ≤ b := fun t ht => by
  obtain ⟨u, hu, rfl⟩ := List.mem_map.1 ht
  obtain ⟨k, hk⟩ := List.getElem?_of_mem hu
  have hl : k < l.length := by
    rcases Nat.lt_or_ge k l.length with h9 | h9
    · exact h9
    · rw [List.getElem?_eq_none h9] at hk; cases hk
  exact Nat.le_of_lt (h k u hk hl)

theorem take_map_snoc' {l : List Ty} {f : Ty → Ty} {i : Nat} {t : Ty} (h : l[i]? = some t) : (l.take (i + 1)).map f = (l.take i).map f ++ [f t] := by
  have hi : i < l.length := by
    rcases Nat.lt_or_ge i l.length with h9 | h9
    · exact h9
    · rw [List.getElem?_eq_none h9] at h; cases h
  rw [take_map_snoc hi]
  rw [List.getElem?_eq_getElem hi] at h
  injection h with h
  rw [h]

set_option maxHeartbeats 8000000 in
theorem typesEither.walk {w : World} {lv : Value} {xt : List (C3 × C3)} {tt : List (Tr × Tr)} (hrt : Rd w (fun k => k < w.heap.size) lv tt.length 6 (xt.flatMap c6)) (htt : PRs w (fun k => k < w.heap.size) xt tt) :
    Ret Try.prog 5 #[lv] w fun v w' => v = .bool true ∧ Upd No w w' := by
  obtain ⟨At_, kt, rfl, _⟩ := hrt.slice_form
  obtain ⟨B0, hB0⟩ : ∃ B0, B0 = w.heap.size := ⟨_, rfl⟩
  rw [← hB0] at hrt htt
  refine enterRet (vs := [_]) (N := 144) Try.func5 rfl rfl rfl ?_
  have hU := Upd.refl No w
  refine WC.keep [(0, _)] ⟨rfl, trivial⟩ ?_
  refine WC.seq ?_
  refine WC.region ?_
  refine WL.val rfl rfl rfl rfl (r_assign rfl ev_c) ?_
  refine WL.nil ?_
  refine WX.keep [(0, _)] ⟨rfl, trivial⟩ ?_
  refine WX.next ?_
  refine WC.seq ?_
  refine WC.seq ?_
  refine WC.region ?_
  refine WL.cons (SO.call (awake_ok) rfl body_10 trivial rfl rfl rfl rfl ?_)
  rintro v w1 ⟨rfl, hu1⟩
  have hs1 := hu1.size
  replace hU := hU.trans hu1 (by first | exact (fun _ _ h => h) | exact (fun _ _ h => h.elim) | (intro k hl hk; (try simp only [At, New, Grow, From, No] at hk ⊢); omega) | (intro k hl hk; first | (have := hMut k hk; omega) | (have := hMuu k hk; omega) | (have := hGx k hk; omega) | (have := hGx2 k hk; omega) | (have := hGy k hk; omega)))
  replace hrt := hrt.upd hu1 (fun k hk hl hS => by first | exact (show False from hS).elim | (simp only [At, New] at hk hS; omega) | (simp only [At] at hS; omega) | (have := hMut k hS; omega) | (have := hMuu k hS; omega) | (have := hGx k hS; omega))
  replace htt := htt.upd hu1 (fun k hk hl hS => by first | exact (show False from hS).elim | (simp only [At, New] at hk hS; omega) | (simp only [At] at hS; omega) | (have := hMut k hS; omega) | (have := hMuu k hS; omega) | (have := hGx k hS; omega))
  refine WL.val rfl rfl rfl rfl (r_not rfl (ev_t rfl)) ?_
  refine WL.val rfl rfl rfl rfl (r_move rfl (ev_t rfl)) ?_
  refine WL.cases 17 rfl (fun hb1_2 => ?_) (fun hb1_2 => ?_)
  · try (exfalso; first | (simp at hb1_2; done) | (simp only [decide_eq_true_eq, decide_eq_false_iff_not, Bool.not_eq_true', Bool.not_eq_false', Bool.not_eq_true, Bool.not_eq_false] at hb1_2; omega) | omega)
    all_goals
     try simp only [decide_eq_true_eq, decide_eq_false_iff_not, Bool.not_eq_true', Bool.not_eq_false', Bool.not_eq_true, Bool.not_eq_false, Option.isNone_none, Option.isNone_some, Option.isSome_none, Option.isSome_some, ne_eq, Decidable.not_not] at hb1_2
     refine WL.skip rfl rfl rfl ?_
     refine WL.skip rfl rfl rfl ?_
     refine WL.skip rfl rfl rfl ?_
     refine WL.val rfl rfl rfl rfl (r_pickT rfl (ev_t rfl) ev_c) ?_
     refine WL.nil ?_
     refine WX.keep [(0, _), (21, _)] ⟨rfl, rfl, trivial⟩ ?_
     refine WX.next ?_
     refine WC.cond_true rfl (ev_t rfl) ?_
     refine WC.seq ?_
     refine WC.region ?_
     refine WL.cons (SO.call (awake_ok) rfl body_10 trivial rfl rfl rfl rfl ?_)
     rintro v w2 ⟨rfl, hu2⟩
     have hs2 := hu2.size
     replace hU := hU.trans hu2 (by first | exact (fun _ _ h => h) | exact (fun _ _ h => h.elim) | (intro k hl hk; (try simp only [At, New, Grow, From, No] at hk ⊢); omega) | (intro k hl hk; first | (have := hMut k hk; omega) | (have := hMuu k hk; omega) | (have := hGx k hk; omega) | (have := hGx2 k hk; omega) | (have := hGy k hk; omega)))
     replace hrt := hrt.upd hu2 (fun k hk hl hS => by first | exact (show False from hS).elim | (simp only [At, New] at hk hS; omega) | (simp only [At] at hS; omega) | (have := hMut k hS; omega) | (have := hMuu k hS; omega) | (have := hGx k hS; omega))
     replace htt := htt.upd hu2 (fun k hk hl hS => by first | exact (show False from hS).elim | (simp only [At, New] at hk hS; omega) | (simp only [At] at hS; omega) | (have := hMut k hS; omega) | (have := hMuu k hS; omega) | (have := hGx k hS; omega))
     refine WL.val rfl rfl rfl rfl (r_assign rfl (ev_t rfl)) ?_
     refine WL.nil ?_
     refine WX.keep [(2, _)] ⟨rfl, trivial⟩ ?_
     refine WX.next ?_
     refine WC.ret ?_
     refine WX.thenRet ?_
     refine WX.retE1 rfl rfl ?_
     exact ⟨rfl, hU⟩
  · try (exfalso; first | (simp at hb1_2; done) | (simp only [decide_eq_true_eq, decide_eq_false_iff_not, Bool.not_eq_true', Bool.not_eq_false', Bool.not_eq_true, Bool.not_eq_false] at hb1_2; omega) | omega)
    all_goals
     try simp only [decide_eq_true_eq, decide_eq_false_iff_not, Bool.not_eq_true', Bool.not_eq_false', Bool.not_eq_true, Bool.not_eq_false, Option.isNone_none, Option.isNone_some, Option.isSome_none, Option.isSome_some, ne_eq, Decidable.not_not] at hb1_2
     refine WL.val rfl rfl rfl rfl (r_move rfl (ev_t rfl)) ?_
     refine WL.val rfl rfl rfl rfl (r_lenSlice (ts := #[]) rfl (ev_t rfl) elem_37) ?_
     refine WL.val rfl rfl rfl rfl (r_gtr rfl (ev_t rfl) ev_c) ?_
     refine WL.val rfl rfl rfl rfl (r_pickF rfl (ev_t rfl) (ev_t rfl)) ?_
     refine WL.nil ?_
     refine WX.keep [(0, _), (21, _)] ⟨rfl, rfl, trivial⟩ ?_
     refine WX.next ?_
     refine WC.cond rfl (ev_t rfl) (fun hc1 => ?_) (fun hc1 => ?_)
     · try (exfalso; first | (simp at hc1; done) | (simp only [decide_eq_true_eq, decide_eq_false_iff_not, Bool.not_eq_true', Bool.not_eq_false', Bool.not_eq_true, Bool.not_eq_false] at hc1; omega) | omega)
       all_goals
        try simp only [decide_eq_true_eq, decide_eq_false_iff_not, Bool.not_eq_true', Bool.not_eq_false', Bool.not_eq_true, Bool.not_eq_false, Option.isNone_none, Option.isNone_some, Option.isSome_none, Option.isSome_some, ne_eq, Decidable.not_not] at hc1
        refine WC.seq ?_
        refine WC.region ?_
        refine WL.cons (SO.call (awake_ok) rfl body_10 trivial rfl rfl rfl rfl ?_)
        rintro v w3 ⟨rfl, hu3⟩
        have hs3 := hu3.size
        replace hU := hU.trans hu3 (by first | exact (fun _ _ h => h) | exact (fun _ _ h => h.elim) | (intro k hl hk; (try simp only [At, New, Grow, From, No] at hk ⊢); omega) | (intro k hl hk; first | (have := hMut k hk; omega) | (have := hMuu k hk; omega) | (have := hGx k hk; omega) | (have := hGx2 k hk; omega) | (have := hGy k hk; omega)))
        replace hrt := hrt.upd hu3 (fun k hk hl hS => by first | exact (show False from hS).elim | (simp only [At, New] at hk hS; omega) | (simp only [At] at hS; omega) | (have := hMut k hS; omega) | (have := hMuu k hS; omega) | (have := hGx k hS; omega))
        replace htt := htt.upd hu3 (fun k hk hl hS => by first | exact (show False from hS).elim | (simp only [At, New] at hk hS; omega) | (simp only [At] at hS; omega) | (have := hMut k hS; omega) | (have := hMuu k hS; omega) | (have := hGx k hS; omega))
        refine WL.val rfl rfl rfl rfl (r_assign rfl (ev_t rfl)) ?_
        refine WL.nil ?_
        refine WX.keep [(2, _)] ⟨rfl, trivial⟩ ?_
        refine WX.next ?_
        refine WC.ret ?_
        refine WX.thenRet ?_
        refine WX.retE1 rfl rfl ?_
        exact ⟨rfl, hU⟩
     · try (exfalso; first | (simp at hc1; done) | (simp only [decide_eq_true_eq, decide_eq_false_iff_not, Bool.not_eq_true', Bool.not_eq_false', Bool.not_eq_true, Bool.not_eq_false] at hc1; omega) | omega)
       all_goals
        try simp only [decide_eq_true_eq, decide_eq_false_iff_not, Bool.not_eq_true', Bool.not_eq_false', Bool.not_eq_true, Bool.not_eq_false, Option.isNone_none, Option.isNone_some, Option.isSome_none, Option.isSome_some, ne_eq, Decidable.not_not] at hc1
        refine WC.skip ?_
        refine WX.next ?_
        refine WC.seq ?_
        refine WC.region ?_
        refine WL.cons (SO.call (tnew_ok (F := fun _ => False)) rfl body_11 ⟨ev_c, trivial⟩ rfl rfl rfl rfl ?_)
        rintro v w4 ⟨p, m1, m2, rfl, hI, hMut, hu4⟩
        obtain ⟨hlp, hl1, hl2⟩ := hI.lt
        have hs4 := hu4.size
        replace hU := hU.trans hu4 (by first | exact (fun _ _ h => h) | exact (fun _ _ h => h.elim) | (intro k hl hk; (try simp only [At, New, Grow, From, No] at hk ⊢); omega) | (intro k hl hk; first | (have := hMut k hk; omega) | (have := hMuu k hk; omega) | (have := hGx k hk; omega) | (have := hGx2 k hk; omega) | (have := hGy k hk; omega)))
        replace hrt := hrt.upd hu4 (fun k hk hl hS => by first | exact (show False from hS).elim | (simp only [At, New] at hk hS; omega) | (simp only [At] at hS; omega) | (have := hMut k hS; omega) | (have := hMuu k hS; omega) | (have := hGx k hS; omega))
        replace htt := htt.upd hu4 (fun k hk hl hS => by first | exact (show False from hS).elim | (simp only [At, New] at hk hS; omega) | (simp only [At] at hS; omega) | (have := hMut k hS; omega) | (have := hMuu k hS; omega) | (have := hGx k hS; omega))
        obtain ⟨BM, hBM⟩ : ∃ BM, BM = w4.heap.size := ⟨_, rfl⟩
        replace hMut : ∀ k, Mut p m1 m2 k → B0 ≤ k ∧ k < BM := fun k hk => by have := hMut k hk; simp only [New] at this; omega
        refine WL.val rfl rfl rfl rfl (r_assign rfl (ev_t rfl)) ?_
        refine WL.nil ?_
        refine WX.keep [(0, _), (3, _)] ⟨rfl, rfl, trivial⟩ ?_
        refine WX.next ?_
        refine WC.seq ?_
        refine WC.region ?_
        refine WL.cons (SO.call (tnew_ok (F := fun _ => False)) rfl body_11 ⟨ev_c, trivial⟩ rfl rfl rfl rfl ?_)
        rintro v w5 ⟨pu, n1, n2, rfl, hJ, hMuu, hu5⟩
        obtain ⟨hlpu, hln1, hln2⟩ := hJ.lt
        have hs5 := hu5.size
        replace hU := hU.trans hu5 (by first | exact (fun _ _ h => h) | exact (fun _ _ h => h.elim) | (intro k hl hk; (try simp only [At, New, Grow, From, No] at hk ⊢); omega) | (intro k hl hk; first | (have := hMut k hk; omega) | (have := hMuu k hk; omega) | (have := hGx k hk; omega) | (have := hGx2 k hk; omega) | (have := hGy k hk; omega)))
        replace hrt := hrt.upd hu5 (fun k hk hl hS => by first | exact (show False from hS).elim | (simp only [At, New] at hk hS; omega) | (simp only [At] at hS; omega) | (have := hMut k hS; omega) | (have := hMuu k hS; omega) | (have := hGx k hS; omega))
        replace htt := htt.upd hu5 (fun k hk hl hS => by first | exact (show False from hS).elim | (simp only [At, New] at hk hS; omega) | (simp only [At] at hS; omega) | (have := hMut k hS; omega) | (have := hMuu k hS; omega) | (have := hGx k hS; omega))
        replace hI := hI.upd hu5 (fun k hk hl hS => by first | exact (show False from hS).elim | (simp only [At] at hS; subst hS; rcases hk with hk | hk <;> first | exact hk.elim | (have := hMut _ hk; omega) | (have := hMuu _ hk; omega) | (have := hT _ hk; omega) | (have := hT2 _ hk; omega)) | (rcases hk with hk | hk <;> first | exact hk.elim | (have := hMut _ hk; have := hMuu _ hS; omega) | (have := hMuu _ hk; have := hMut _ hS; omega) | (have := hMut _ hk; have := hGx _ hS; omega) | (have := hMuu _ hk; have := hGx _ hS; omega) | (have := hMut _ hk; have := hGy _ hS; omega) | (have := hMuu _ hk; have := hGy _ hS; omega) | exact (hT _ hk).2.2 hS | exact (hT2 _ hk).2.2 hS | (have := hT _ hk; have := hMut _ hS; omega) | (have := hT _ hk; have := hMuu _ hS; omega) | (have := hT2 _ hk; have := hMut _ hS; omega)))
        obtain ⟨B1, hB1⟩ : ∃ B1, B1 = w5.heap.size := ⟨_, rfl⟩
        replace hMuu : ∀ k, Mut pu n1 n2 k → BM ≤ k ∧ k < B1 := fun k hk => by have := hMuu k hk; simp only [New] at this; omega
        refine WL.val rfl rfl rfl rfl (r_assign rfl (ev_t rfl)) ?_
        refine WL.nil ?_
        refine WX.keep [(0, _), (3, _), (4, _)] ⟨rfl, rfl, rfl, trivial⟩ ?_
        refine WX.next ?_
        refine WC.seq ?_
        refine WC.region ?_
        refine WL.val rfl rfl rfl rfl (r_assign rfl ev_c) ?_
        refine WL.nil ?_
        refine WX.keep [(0, _), (3, _), (4, _), (5, _)] ⟨rfl, rfl, rfl, rfl, trivial⟩ ?_
        refine WX.next ?_
        refine WC.seq ?_
        refine WC.region ?_
        refine WL.val rfl rfl rfl rfl (r_assign rfl ev_c) ?_
        refine WL.nil ?_
        refine WX.keep [(0, _), (3, _), (4, _), (5, _), (6, _)] ⟨rfl, rfl, rfl, rfl, rfl, trivial⟩ ?_
        refine WX.next ?_
        refine WC.seq ?_
        refine WC.region ?_
        refine WL.val rfl rfl rfl rfl (r_assign rfl ev_c) ?_
        refine WL.val rfl rfl rfl rfl (r_assign rfl ev_c) ?_
        refine WL.nil ?_
        refine WX.keep [(0, _), (3, _), (4, _), (5, _), (6, _), (7, _), (8, _)] ⟨rfl, rfl, rfl, rfl, rfl, rfl, rfl, trivial⟩ ?_
        refine WX.next ?_
        refine WC.seq ?_
        refine WC.seq ?_
        refine WC.region ?_
        have htl5 : tt.length ≤ 5 := by omega
        refine WL.val rfl rfl rfl rfl (r_assign rfl ev_c) ?_
        refine WL.nil ?_
        refine WX.keep [(0, _), (3, _), (4, _), (5, _), (6, _), (7, _), (8, _), (9, _)] ⟨rfl, rfl, rfl, rfl, rfl, rfl, rfl, rfl, trivial⟩ ?_
        refine WX.next ?_
        refine WC.block ?_
        -- loop 1: live [0, 3, 4, 5, 6, 7, 8, 9]
        refine WC.keep [(0, _), (3, _), (4, _), (5, _), (6, _), (7, _), (8, _), (9, _)] ⟨rfl, rfl, rfl, rfl, rfl, rfl, rfl, rfl, trivial⟩ ?_
        refine WC.loop (fun q E wA => ∃ (i m : Nat) (A : Option Addr) (cl : Nat) (ys : List C3) (ps : List (Ty × Ty)) (r : Bool) (σ : Sg) (D : Dn) (xs : List C3) (Gx T : Nat → Prop), i ≤ tt.length ∧ q = tt.length - i ∧ m = 2 * i ∧ Upd No w wA ∧ B1 ≤ wA.heap.size ∧ ps.length = i ∧ (∀ p ∈ ps, (∀ y ∈ vars p.1, y ∈ upto 20) ∧ (∀ y ∈ vars p.2, y ∈ upto 20)) ∧ Run (upto 20) ps r σ D ∧   Rd wA (fun k => k < B0) (.slice At_ tt.length kt) tt.length 6 (xt.flatMap c6) ∧ PRs wA (fun k => k < B0) xt tt ∧ Own wA Gx typ 3 (.slice A m cl) m (ys.flatMap c3) ∧ TVs wA T ys (flat2 ps) ∧ IsS wA T p m1 m2 σ D 100 xs ∧ IsS wA (fun _ => False) pu n1 n2 [] [] 100 [] ∧   (∀ k, Gx k → B1 ≤ k ∧ k < wA.heap.size) ∧ (∀ k, T k → B1 ≤ k ∧ k < wA.heap.size ∧ ¬ Gx k) ∧   E = [(0, .slice At_ tt.length kt), (3, .pointer (some ⟨p, 0, none⟩)), (4, .pointer (some ⟨pu, 0, none⟩)), (5, .bool r), (6, .bool true), (7, .slice A m cl), (8, .slice none 0 0), (9, .int .i64 (i : Int))]) (tt.length) ?_ ?_
        · exact ⟨0, 0, none, 0, [], [], true, [], [], [], fun _ => False, fun _ => False, by omega, by omega, rfl, hU, by omega, rfl, fun p h => (nomatch h), .nil, hrt, htt, Own.nil _ _ _ _, TVs.nil _ _, hI, hJ, fun k h => h.elim, fun k h => h.elim, rfl⟩
        · clear hU hrt htt hI hJ
          rintro q E wA ⟨i, m, A, cl, ys, ps, r, σ, D, xs, Gx, T, hi, rfl, hm, hU, hws, hpl, hpv, hrun, hrt, htt, hol, hys, hI, hJ, hGx, hT, rfl⟩
          have hs0 := hU.size
          refine WC.seq ?_
          refine WC.seq ?_
          refine WC.region ?_
          refine WL.val rfl rfl rfl rfl (r_move rfl (ev_t rfl)) ?_
          refine WL.val rfl rfl rfl rfl (r_move rfl (ev_t rfl)) ?_
          refine WL.val rfl rfl rfl rfl (r_lenSlice (ts := #[]) rfl (ev_t rfl) elem_37) ?_
          refine WL.val rfl rfl rfl rfl (r_lss rfl (ev_t rfl) (ev_t rfl)) ?_
          refine WL.nil ?_
          refine WX.keep [(0, _), (3, _), (4, _), (5, _), (6, _), (7, _), (8, _), (9, _), (28, _)] ⟨rfl, rfl, rfl, rfl, rfl, rfl, rfl, rfl, rfl, trivial⟩ ?_
          refine WX.next ?_
          refine WC.cond rfl (ev_t rfl) (fun hc9 => ?_) (fun hc9 => ?_)
          · try (exfalso; first | (simp at hc9; done) | (simp only [decide_eq_true_eq, decide_eq_false_iff_not, Bool.not_eq_true', Bool.not_eq_false', Bool.not_eq_true, Bool.not_eq_false] at hc9; omega) | omega)
            all_goals
             try simp only [decide_eq_true_eq, decide_eq_false_iff_not, Bool.not_eq_true', Bool.not_eq_false', Bool.not_eq_true, Bool.not_eq_false, Option.isNone_none, Option.isNone_some, Option.isSome_none, Option.isSome_some, ne_eq, Decidable.not_not] at hc9
             have hi' : i < tt.length := by omega
             obtain ⟨bt, offt, rfl, _⟩ := hrt.open (by omega)
             obtain ⟨⟨⟨ca, cb, cc⟩, ⟨cd, ce, cf⟩⟩, hxi, hta, htb⟩ := htt.tv hi'
             generalize tt[i] = ti at *
             obtain ⟨ta, tb⟩ := ti
             refine WC.skip ?_
             refine WX.next ?_
             refine WC.seq ?_
             refine WC.block ?_
             refine WC.seq ?_
             refine WC.seq ?_
             refine WC.region ?_
             refine WL.val rfl rfl rfl rfl (r_move rfl (ev_t rfl)) ?_
             refine WL.val rfl rfl rfl rfl (r_move rfl (ev_t rfl)) ?_
             refine WL.val rfl rfl rfl rfl (r_indexAddr rfl (ev_t rfl) (ev_t rfl) elem_37 size_39 (by omega) (by omega)) ?_
             first | refine WL.val rfl rfl rfl rfl (r_field0 rfl (ev_t rfl) fld_39_0) ?_ | refine WL.val rfl rfl rfl rfl (r_fieldAt rfl (ev_t rfl) fld_39_0) ?_
             refine WL.val rfl rfl rfl rfl (r_loadAgg (vs := [_, _, _]) rfl (ev_t rfl) agg_28 size_28 (pair_cells hrt hxi rfl)) ?_
             refine WL.cons (SO.call (small_ok 3 _ _ _ _ _ ta hta (by omega)) rfl body_14 ⟨(ev_t rfl), ev_c, trivial⟩ rfl rfl rfl rfl ?_)
             rintro v w6 ⟨rfl, hu6⟩
             have hs6 := hu6.size
             replace hU := hU.trans hu6 (by first | exact (fun _ _ h => h) | exact (fun _ _ h => h.elim) | (intro k hl hk; (try simp only [At, New, Grow, From, No] at hk ⊢); omega) | (intro k hl hk; first | (have := hMut k hk; omega) | (have := hMuu k hk; omega) | (have := hGx k hk; omega) | (have := hGx2 k hk; omega) | (have := hGy k hk; omega)))
             replace hrt := hrt.upd hu6 (fun k hk hl hS => by first | exact (show False from hS).elim | (simp only [At, New] at hk hS; omega) | (simp only [At] at hS; omega) | (have := hMut k hS; omega) | (have := hMuu k hS; omega) | (have := hGx k hS; omega))
             replace htt := htt.upd hu6 (fun k hk hl hS => by first | exact (show False from hS).elim | (simp only [At, New] at hk hS; omega) | (simp only [At] at hS; omega) | (have := hMut k hS; omega) | (have := hMuu k hS; omega) | (have := hGx k hS; omega))
             replace hol := hol.upd hu6 (fun k hk hl hS => by first | exact (show False from hS).elim | (simp only [At] at hS; have := hGx k hk; omega) | (have := hGx k hk; have := hMut k hS; omega) | (have := hGx k hk; have := hMuu k hS; omega))
             replace hys := hys.upd hu6 (fun k hk hl hS => by first | exact (show False from hS).elim | (simp only [At] at hS; have := hT k hk; omega) | (simp only [At] at hS; have := hT2 k hk; omega) | (simp only [At] at hS; omega) | exact (hT k hk).2.2 hS | exact (hT2 k hk).2.2 hS | (have := hT k hk; have := hMut k hS; omega) | (have := hT k hk; have := hMuu k hS; omega) | (have := hT2 k hk; have := hMut k hS; omega))
             replace hI := hI.upd hu6 (fun k hk hl hS => by first | exact (show False from hS).elim | (simp only [At] at hS; subst hS; rcases hk with hk | hk <;> first | exact hk.elim | (have := hMut _ hk; omega) | (have := hMuu _ hk; omega) | (have := hT _ hk; omega) | (have := hT2 _ hk; omega)) | (rcases hk with hk | hk <;> first | exact hk.elim | (have := hMut _ hk; have := hMuu _ hS; omega) | (have := hMuu _ hk; have := hMut _ hS; omega) | (have := hMut _ hk; have := hGx _ hS; omega) | (have := hMuu _ hk; have := hGx _ hS; omega) | (have := hMut _ hk; have := hGy _ hS; omega) | (have := hMuu _ hk; have := hGy _ hS; omega) | exact (hT _ hk).2.2 hS | exact (hT2 _ hk).2.2 hS | (have := hT _ hk; have := hMut _ hS; omega) | (have := hT _ hk; have := hMuu _ hS; omega) | (have := hT2 _ hk; have := hMut _ hS; omega)))
             replace hJ := hJ.upd hu6 (fun k hk hl hS => by first | exact (show False from hS).elim | (simp only [At] at hS; subst hS; rcases hk with hk | hk <;> first | exact hk.elim | (have := hMut _ hk; omega) | (have := hMuu _ hk; omega) | (have := hT _ hk; omega) | (have := hT2 _ hk; omega)) | (rcases hk with hk | hk <;> first | exact hk.elim | (have := hMut _ hk; have := hMuu _ hS; omega) | (have := hMuu _ hk; have := hMut _ hS; omega) | (have := hMut _ hk; have := hGx _ hS; omega) | (have := hMuu _ hk; have := hGx _ hS; omega) | (have := hMut _ hk; have := hGy _ hS; omega) | (have := hMuu _ hk; have := hGy _ hS; omega) | exact (hT _ hk).2.2 hS | exact (hT2 _ hk).2.2 hS | (have := hT _ hk; have := hMut _ hS; omega) | (have := hT _ hk; have := hMuu _ hS; omega) | (have := hT2 _ hk; have := hMut _ hS; omega)))
             replace hta := hta.upd hu6 (fun k hk hl hS => by first | exact (show False from hS).elim | (simp only [At] at hS; have := hT k hk; omega) | (simp only [At] at hS; have := hT2 k hk; omega) | (simp only [At] at hS; omega) | exact (hT k hk).2.2 hS | exact (hT2 k hk).2.2 hS | (have := hT k hk; have := hMut k hS; omega) | (have := hT k hk; have := hMuu k hS; omega) | (have := hT2 k hk; have := hMut k hS; omega))
             replace htb := htb.upd hu6 (fun k hk hl hS => by first | exact (show False from hS).elim | (simp only [At] at hS; have := hT k hk; omega) | (simp only [At] at hS; have := hT2 k hk; omega) | (simp only [At] at hS; omega) | exact (hT k hk).2.2 hS | exact (hT2 k hk).2.2 hS | (have := hT k hk; have := hMut k hS; omega) | (have := hT k hk; have := hMuu k hS; omega) | (have := hT2 k hk; have := hMut k hS; omega))
             refine WL.val rfl rfl rfl rfl (r_not rfl (ev_t rfl)) ?_
             refine WL.val rfl rfl rfl rfl (r_move rfl (ev_t rfl)) ?_
             refine WL.cases 38 rfl (fun hb11_7 => ?_) (fun hb11_7 => ?_)
             · try (exfalso; first | (simp at hb11_7; done) | (simp only [decide_eq_true_eq, decide_eq_false_iff_not, Bool.not_eq_true', Bool.not_eq_false', Bool.not_eq_true, Bool.not_eq_false] at hb11_7; omega) | omega)
               all_goals
                try simp only [decide_eq_true_eq, decide_eq_false_iff_not, Bool.not_eq_true', Bool.not_eq_false', Bool.not_eq_true, Bool.not_eq_false, Option.isNone_none, Option.isNone_some, Option.isSome_none, Option.isSome_some, ne_eq, Decidable.not_not] at hb11_7
                refine WL.skip rfl rfl rfl ?_
                refine WL.skip rfl rfl rfl ?_
                refine WL.skip rfl rfl rfl ?_
                refine WL.skip rfl rfl rfl ?_
                refine WL.skip rfl rfl rfl ?_
                refine WL.skip rfl rfl rfl ?_
                refine WL.skip rfl rfl rfl ?_
                refine WL.val rfl rfl rfl rfl (r_pickT rfl (ev_t rfl) ev_c) ?_
                refine WL.nil ?_
                refine WX.keep [(0, _), (3, _), (4, _), (5, _), (6, _), (7, _), (8, _), (9, _), (46, _)] ⟨rfl, rfl, rfl, rfl, rfl, rfl, rfl, rfl, rfl, trivial⟩ ?_
                refine WX.next ?_
                refine WC.cond_true rfl (ev_t rfl) ?_
                refine WC.seq ?_
                refine WC.region ?_
                refine WL.val rfl rfl rfl rfl (r_assign rfl ev_c) ?_
                refine WL.nil ?_
                refine WX.keep [(2, _)] ⟨rfl, trivial⟩ ?_
                refine WX.next ?_
                refine WC.ret ?_
                refine WX.thenRet ?_
                refine WX.blockRet ?_
                refine WX.thenRet ?_
                refine WX.thenRet ?_
                refine WX.blockRet ?_
                refine WX.thenRet ?_
                refine WX.retE1 rfl rfl ?_
                exact ⟨rfl, hU⟩
             · try (exfalso; first | (simp at hb11_7; done) | (simp only [decide_eq_true_eq, decide_eq_false_iff_not, Bool.not_eq_true', Bool.not_eq_false', Bool.not_eq_true, Bool.not_eq_false] at hb11_7; omega) | omega)
               all_goals
                try simp only [decide_eq_true_eq, decide_eq_false_iff_not, Bool.not_eq_true', Bool.not_eq_false', Bool.not_eq_true, Bool.not_eq_false, Option.isNone_none, Option.isNone_some, Option.isSome_none, Option.isSome_some, ne_eq, Decidable.not_not] at hb11_7
                refine WL.val rfl rfl rfl rfl (r_move rfl (ev_t rfl)) ?_
                refine WL.val rfl rfl rfl rfl (r_move rfl (ev_t rfl)) ?_
                refine WL.val rfl rfl rfl rfl (r_indexAddr rfl (ev_t rfl) (ev_t rfl) elem_37 size_39 (by omega) (by omega)) ?_
                first | refine WL.val rfl rfl rfl rfl (r_field0 rfl (ev_t rfl) fld_39_1) ?_ | refine WL.val rfl rfl rfl rfl (r_fieldAt rfl (ev_t rfl) fld_39_1) ?_
                refine WL.val rfl rfl rfl rfl (r_loadAgg (vs := [_, _, _]) rfl (ev_t rfl) agg_28 size_28 (pair_cells2 hrt hxi rfl)) ?_
                refine WL.cons (SO.call (small_ok 3 _ _ _ _ _ tb htb (by omega)) rfl body_14 ⟨(ev_t rfl), ev_c, trivial⟩ rfl rfl rfl rfl ?_)
                rintro v w7 ⟨rfl, hu7⟩
                have hs7 := hu7.size
                replace hU := hU.trans hu7 (by first | exact (fun _ _ h => h) | exact (fun _ _ h => h.elim) | (intro k hl hk; (try simp only [At, New, Grow, From, No] at hk ⊢); omega) | (intro k hl hk; first | (have := hMut k hk; omega) | (have := hMuu k hk; omega) | (have := hGx k hk; omega) | (have := hGx2 k hk; omega) | (have := hGy k hk; omega)))
                replace hrt := hrt.upd hu7 (fun k hk hl hS => by first | exact (show False from hS).elim | (simp only [At, New] at hk hS; omega) | (simp only [At] at hS; omega) | (have := hMut k hS; omega) | (have := hMuu k hS; omega) | (have := hGx k hS; omega))
                replace htt := htt.upd hu7 (fun k hk hl hS => by first | exact (show False from hS).elim | (simp only [At, New] at hk hS; omega) | (simp only [At] at hS; omega) | (have := hMut k hS; omega) | (have := hMuu k hS; omega) | (have := hGx k hS; omega))
                replace hol := hol.upd hu7 (fun k hk hl hS => by first | exact (show False from hS).elim | (simp only [At] at hS; have := hGx k hk; omega) | (have := hGx k hk; have := hMut k hS; omega) | (have := hGx k hk; have := hMuu k hS; omega))
                replace hys := hys.upd hu7 (fun k hk hl hS => by first | exact (show False from hS).elim | (simp only [At] at hS; have := hT k hk; omega) | (simp only [At] at hS; have := hT2 k hk; omega) | (simp only [At] at hS; omega) | exact (hT k hk).2.2 hS | exact (hT2 k hk).2.2 hS | (have := hT k hk; have := hMut k hS; omega) | (have := hT k hk; have := hMuu k hS; omega) | (have := hT2 k hk; have := hMut k hS; omega))
                replace hI := hI.upd hu7 (fun k hk hl hS => by first | exact (show False from hS).elim | (simp only [At] at hS; subst hS; rcases hk with hk | hk <;> first | exact hk.elim | (have := hMut _ hk; omega) | (have := hMuu _ hk; omega) | (have := hT _ hk; omega) | (have := hT2 _ hk; omega)) | (rcases hk with hk | hk <;> first | exact hk.elim | (have := hMut _ hk; have := hMuu _ hS; omega) | (have := hMuu _ hk; have := hMut _ hS; omega) | (have := hMut _ hk; have := hGx _ hS; omega) | (have := hMuu _ hk; have := hGx _ hS; omega) | (have := hMut _ hk; have := hGy _ hS; omega) | (have := hMuu _ hk; have := hGy _ hS; omega) | exact (hT _ hk).2.2 hS | exact (hT2 _ hk).2.2 hS | (have := hT _ hk; have := hMut _ hS; omega) | (have := hT _ hk; have := hMuu _ hS; omega) | (have := hT2 _ hk; have := hMut _ hS; omega)))
                replace hJ := hJ.upd hu7 (fun k hk hl hS => by first | exact (show False from hS).elim | (simp only [At] at hS; subst hS; rcases hk with hk | hk <;> first | exact hk.elim | (have := hMut _ hk; omega) | (have := hMuu _ hk; omega) | (have := hT _ hk; omega) | (have := hT2 _ hk; omega)) | (rcases hk with hk | hk <;> first | exact hk.elim | (have := hMut _ hk; have := hMuu _ hS; omega) | (have := hMuu _ hk; have := hMut _ hS; omega) | (have := hMut _ hk; have := hGx _ hS; omega) | (have := hMuu _ hk; have := hGx _ hS; omega) | (have := hMut _ hk; have := hGy _ hS; omega) | (have := hMuu _ hk; have := hGy _ hS; omega) | exact (hT _ hk).2.2 hS | exact (hT2 _ hk).2.2 hS | (have := hT _ hk; have := hMut _ hS; omega) | (have := hT _ hk; have := hMuu _ hS; omega) | (have := hT2 _ hk; have := hMut _ hS; omega)))
                replace hta := hta.upd hu7 (fun k hk hl hS => by first | exact (show False from hS).elim | (simp only [At] at hS; have := hT k hk; omega) | (simp only [At] at hS; have := hT2 k hk; omega) | (simp only [At] at hS; omega) | exact (hT k hk).2.2 hS | exact (hT2 k hk).2.2 hS | (have := hT k hk; have := hMut k hS; omega) | (have := hT k hk; have := hMuu k hS; omega) | (have := hT2 k hk; have := hMut k hS; omega))
                replace htb := htb.upd hu7 (fun k hk hl hS => by first | exact (show False from hS).elim | (simp only [At] at hS; have := hT k hk; omega) | (simp only [At] at hS; have := hT2 k hk; omega) | (simp only [At] at hS; omega) | exact (hT k hk).2.2 hS | exact (hT2 k hk).2.2 hS | (have := hT k hk; have := hMut k hS; omega) | (have := hT k hk; have := hMuu k hS; omega) | (have := hT2 k hk; have := hMut k hS; omega))
                refine WL.val rfl rfl rfl rfl (r_not rfl (ev_t rfl)) ?_
                refine WL.val rfl rfl rfl rfl (r_pickF rfl (ev_t rfl) (ev_t rfl)) ?_
                refine WL.nil ?_
                refine WX.keep [(0, _), (3, _), (4, _), (5, _), (6, _), (7, _), (8, _), (9, _), (46, _)] ⟨rfl, rfl, rfl, rfl, rfl, rfl, rfl, rfl, rfl, trivial⟩ ?_
                refine WX.next ?_
                refine WC.cond rfl (ev_t rfl) (fun hc11 => ?_) (fun hc11 => ?_)
                · try (exfalso; first | (simp at hc11; done) | (simp only [decide_eq_true_eq, decide_eq_false_iff_not, Bool.not_eq_true', Bool.not_eq_false', Bool.not_eq_true, Bool.not_eq_false] at hc11; omega) | omega)
                  all_goals
                   try simp only [decide_eq_true_eq, decide_eq_false_iff_not, Bool.not_eq_true', Bool.not_eq_false', Bool.not_eq_true, Bool.not_eq_false, Option.isNone_none, Option.isNone_some, Option.isSome_none, Option.isSome_some, ne_eq, Decidable.not_not] at hc11
                   refine WC.seq ?_
                   refine WC.region ?_
                   refine WL.val rfl rfl rfl rfl (r_assign rfl ev_c) ?_
                   refine WL.nil ?_
                   refine WX.keep [(2, _)] ⟨rfl, trivial⟩ ?_
                   refine WX.next ?_
                   refine WC.ret ?_
                   refine WX.thenRet ?_
                   refine WX.blockRet ?_
                   refine WX.thenRet ?_
                   refine WX.thenRet ?_
                   refine WX.blockRet ?_
                   refine WX.thenRet ?_
                   refine WX.retE1 rfl rfl ?_
                   exact ⟨rfl, hU⟩
                · try (exfalso; first | (simp at hc11; done) | (simp only [decide_eq_true_eq, decide_eq_false_iff_not, Bool.not_eq_true', Bool.not_eq_false', Bool.not_eq_true, Bool.not_eq_false] at hc11; omega) | omega)
                  all_goals
                   try simp only [decide_eq_true_eq, decide_eq_false_iff_not, Bool.not_eq_true', Bool.not_eq_false', Bool.not_eq_true, Bool.not_eq_false, Option.isNone_none, Option.isNone_some, Option.isSome_none, Option.isSome_some, ne_eq, Decidable.not_not] at hc11
                   have hsa : smallR 3 ta = true := by simp_all
                   have hsb : smallR 3 tb = true := by simp_all
                   have hxa := clean_tv hsa hta
                   have hxb := clean_tv hsb htb
                   have hva := clean_vars hsa
                   have hvb := clean_vars hsb
                   refine WC.skip ?_
                   refine WX.next ?_
                   refine WC.seq ?_
                   refine WC.region ?_
                   refine WL.val rfl rfl rfl rfl (r_move rfl (ev_t rfl)) ?_
                   refine WL.val rfl rfl rfl rfl (r_move rfl (ev_t rfl)) ?_
                   refine WL.val rfl rfl rfl rfl (r_indexAddr rfl (ev_t rfl) (ev_t rfl) elem_37 size_39 (by omega) (by omega)) ?_
                   first | refine WL.val rfl rfl rfl rfl (r_field0 rfl (ev_t rfl) fld_39_0) ?_ | refine WL.val rfl rfl rfl rfl (r_fieldAt rfl (ev_t rfl) fld_39_0) ?_
                   refine WL.val rfl rfl rfl rfl (r_loadAgg (vs := [_, _, _]) rfl (ev_t rfl) agg_28 size_28 (pair_cells hrt hxi rfl)) ?_
                   refine WL.cons (SO.call (apart_ok (by_ := 1) (by omega) _ _ _ _ _ _ _ (Nat.le_refl _) hxa (fun x hx => by have := hva x hx; omega)) rfl body_15 ⟨(ev_t rfl), ev_c, trivial⟩ rfl rfl rfl rfl ?_)
                   rintro v w8 ⟨c1, c2, c3', rfl, hx, hu8⟩
                   obtain ⟨mx, Ax, kx, xkx, rfl, rfl, rfl, _⟩ := hx.open
                   have hs8 := hu8.size
                   replace hU := hU.trans hu8 (by first | exact (fun _ _ h => h) | exact (fun _ _ h => h.elim) | (intro k hl hk; (try simp only [At, New, Grow, From, No] at hk ⊢); omega) | (intro k hl hk; first | (have := hMut k hk; omega) | (have := hMuu k hk; omega) | (have := hGx k hk; omega) | (have := hGx2 k hk; omega) | (have := hGy k hk; omega)))
                   replace hrt := hrt.upd hu8 (fun k hk hl hS => by first | exact (show False from hS).elim | (simp only [At, New] at hk hS; omega) | (simp only [At] at hS; omega) | (have := hMut k hS; omega) | (have := hMuu k hS; omega) | (have := hGx k hS; omega))
                   replace htt := htt.upd hu8 (fun k hk hl hS => by first | exact (show False from hS).elim | (simp only [At, New] at hk hS; omega) | (simp only [At] at hS; omega) | (have := hMut k hS; omega) | (have := hMuu k hS; omega) | (have := hGx k hS; omega))
                   replace hol := hol.upd hu8 (fun k hk hl hS => by first | exact (show False from hS).elim | (simp only [At] at hS; have := hGx k hk; omega) | (have := hGx k hk; have := hMut k hS; omega) | (have := hGx k hk; have := hMuu k hS; omega))
                   replace hys := hys.upd hu8 (fun k hk hl hS => by first | exact (show False from hS).elim | (simp only [At] at hS; have := hT k hk; omega) | (simp only [At] at hS; have := hT2 k hk; omega) | (simp only [At] at hS; omega) | exact (hT k hk).2.2 hS | exact (hT2 k hk).2.2 hS | (have := hT k hk; have := hMut k hS; omega) | (have := hT k hk; have := hMuu k hS; omega) | (have := hT2 k hk; have := hMut k hS; omega))
                   replace hI := hI.upd hu8 (fun k hk hl hS => by first | exact (show False from hS).elim | (simp only [At] at hS; subst hS; rcases hk with hk | hk <;> first | exact hk.elim | (have := hMut _ hk; omega) | (have := hMuu _ hk; omega) | (have := hT _ hk; omega) | (have := hT2 _ hk; omega)) | (rcases hk with hk | hk <;> first | exact hk.elim | (have := hMut _ hk; have := hMuu _ hS; omega) | (have := hMuu _ hk; have := hMut _ hS; omega) | (have := hMut _ hk; have := hGx _ hS; omega) | (have := hMuu _ hk; have := hGx _ hS; omega) | (have := hMut _ hk; have := hGy _ hS; omega) | (have := hMuu _ hk; have := hGy _ hS; omega) | exact (hT _ hk).2.2 hS | exact (hT2 _ hk).2.2 hS | (have := hT _ hk; have := hMut _ hS; omega) | (have := hT _ hk; have := hMuu _ hS; omega) | (have := hT2 _ hk; have := hMut _ hS; omega)))
                   replace hJ := hJ.upd hu8 (fun k hk hl hS => by first | exact (show False from hS).elim | (simp only [At] at hS; subst hS; rcases hk with hk | hk <;> first | exact hk.elim | (have := hMut _ hk; omega) | (have := hMuu _ hk; omega) | (have := hT _ hk; omega) | (have := hT2 _ hk; omega)) | (rcases hk with hk | hk <;> first | exact hk.elim | (have := hMut _ hk; have := hMuu _ hS; omega) | (have := hMuu _ hk; have := hMut _ hS; omega) | (have := hMut _ hk; have := hGx _ hS; omega) | (have := hMuu _ hk; have := hGx _ hS; omega) | (have := hMut _ hk; have := hGy _ hS; omega) | (have := hMuu _ hk; have := hGy _ hS; omega) | exact (hT _ hk).2.2 hS | exact (hT2 _ hk).2.2 hS | (have := hT _ hk; have := hMut _ hS; omega) | (have := hT _ hk; have := hMuu _ hS; omega) | (have := hT2 _ hk; have := hMut _ hS; omega)))
                   replace hxa := hxa.upd hu8 (fun k hk hl hS => by first | exact (show False from hS).elim | (simp only [At, New] at hk hS; omega) | (simp only [At] at hS; omega) | (have := hMut k hS; omega) | (have := hMuu k hS; omega) | (have := hGx k hS; omega))
                   replace hxb := hxb.upd hu8 (fun k hk hl hS => by first | exact (show False from hS).elim | (simp only [At, New] at hk hS; omega) | (simp only [At] at hS; omega) | (have := hMut k hS; omega) | (have := hMuu k hS; omega) | (have := hGx k hS; omega))
                   obtain ⟨X, hX⟩ : ∃ X, ext (apS 1) (cleanR 3 ta) = X := ⟨_, rfl⟩
                   have hvX : ∀ y ∈ vars X, y ∈ upto 20 := fun y hy => by rw [← hX] at hy; have := ap8 hva y hy; rw [mem_upto]; omega
                   rw [hX] at hx ⊢
                   replace hx := hx.mono (F' := fun k => wA.heap.size ≤ k ∧ k < w8.heap.size) (fun k hk => by simp only [New] at hk; omega)
                   refine WL.cons (SO.alloc rfl rfl rfl rfl (r_alloc rfl zero_28) ?_)
                   intro w9 hu9 hB9 hz9
                   have hs9 := hu9.size
                   replace hU := hU.trans hu9 (by first | exact (fun _ _ h => h) | exact (fun _ _ h => h.elim) | (intro k hl hk; (try simp only [At, New, Grow, From, No] at hk ⊢); omega) | (intro k hl hk; first | (have := hMut k hk; omega) | (have := hMuu k hk; omega) | (have := hGx k hk; omega) | (have := hGx2 k hk; omega) | (have := hGy k hk; omega)))
                   replace hrt := hrt.upd hu9 (fun k hk hl hS => by first | exact (show False from hS).elim | (simp only [At, New] at hk hS; omega) | (simp only [At] at hS; omega) | (have := hMut k hS; omega) | (have := hMuu k hS; omega) | (have := hGx k hS; omega))
                   replace htt := htt.upd hu9 (fun k hk hl hS => by first | exact (show False from hS).elim | (simp only [At, New] at hk hS; omega) | (simp only [At] at hS; omega) | (have := hMut k hS; omega) | (have := hMuu k hS; omega) | (have := hGx k hS; omega))
                   replace hol := hol.upd hu9 (fun k hk hl hS => by first | exact (show False from hS).elim | (simp only [At] at hS; have := hGx k hk; omega) | (have := hGx k hk; have := hMut k hS; omega) | (have := hGx k hk; have := hMuu k hS; omega))
                   replace hys := hys.upd hu9 (fun k hk hl hS => by first | exact (show False from hS).elim | (simp only [At] at hS; have := hT k hk; omega) | (simp only [At] at hS; have := hT2 k hk; omega) | (simp only [At] at hS; omega) | exact (hT k hk).2.2 hS | exact (hT2 k hk).2.2 hS | (have := hT k hk; have := hMut k hS; omega) | (have := hT k hk; have := hMuu k hS; omega) | (have := hT2 k hk; have := hMut k hS; omega))
                   replace hI := hI.upd hu9 (fun k hk hl hS => by first | exact (show False from hS).elim | (simp only [At] at hS; subst hS; rcases hk with hk | hk <;> first | exact hk.elim | (have := hMut _ hk; omega) | (have := hMuu _ hk; omega) | (have := hT _ hk; omega) | (have := hT2 _ hk; omega)) | (rcases hk with hk | hk <;> first | exact hk.elim | (have := hMut _ hk; have := hMuu _ hS; omega) | (have := hMuu _ hk; have := hMut _ hS; omega) | (have := hMut _ hk; have := hGx _ hS; omega) | (have := hMuu _ hk; have := hGx _ hS; omega) | (have := hMut _ hk; have := hGy _ hS; omega) | (have := hMuu _ hk; have := hGy _ hS; omega) | exact (hT _ hk).2.2 hS | exact (hT2 _ hk).2.2 hS | (have := hT _ hk; have := hMut _ hS; omega) | (have := hT _ hk; have := hMuu _ hS; omega) | (have := hT2 _ hk; have := hMut _ hS; omega)))
                   replace hJ := hJ.upd hu9 (fun k hk hl hS => by first | exact (show False from hS).elim | (simp only [At] at hS; subst hS; rcases hk with hk | hk <;> first | exact hk.elim | (have := hMut _ hk; omega) | (have := hMuu _ hk; omega) | (have := hT _ hk; omega) | (have := hT2 _ hk; omega)) | (rcases hk with hk | hk <;> first | exact hk.elim | (have := hMut _ hk; have := hMuu _ hS; omega) | (have := hMuu _ hk; have := hMut _ hS; omega) | (have := hMut _ hk; have := hGx _ hS; omega) | (have := hMuu _ hk; have := hGx _ hS; omega) | (have := hMut _ hk; have := hGy _ hS; omega) | (have := hMuu _ hk; have := hGy _ hS; omega) | exact (hT _ hk).2.2 hS | exact (hT2 _ hk).2.2 hS | (have := hT _ hk; have := hMut _ hS; omega) | (have := hT _ hk; have := hMuu _ hS; omega) | (have := hT2 _ hk; have := hMut _ hS; omega)))
                   replace hxb := hxb.upd hu9 (fun k hk hl hS => by first | exact (show False from hS).elim | (simp only [At, New] at hk hS; omega) | (simp only [At] at hS; omega) | (have := hMut k hS; omega) | (have := hMuu k hS; omega) | (have := hGx k hS; omega))
                   replace hx := hx.upd hu9 (fun k hk hl hS => by first | exact (show False from hS).elim | (simp only [At] at hS; have := hT k hk; omega) | (simp only [At] at hS; have := hT2 k hk; omega) | (simp only [At] at hS; omega) | exact (hT k hk).2.2 hS | exact (hT2 k hk).2.2 hS | (have := hT k hk; have := hMut k hS; omega) | (have := hT k hk; have := hMuu k hS; omega) | (have := hT2 k hk; have := hMut k hS; omega))
                   refine WL.cons (SO.storeAll (us := [_, _, _]) rfl (ev_t rfl) (ev_t rfl) size_28 hB9 rfl rfl rfl rfl rfl ?_)
                   intro w10 hu10 hB9 hz10
                   have hs10 := hu10.size
                   replace hU := hU.trans hu10 (by first | exact (fun _ _ h => h) | exact (fun _ _ h => h.elim) | (intro k hl hk; (try simp only [At, New, Grow, From, No] at hk ⊢); omega) | (intro k hl hk; first | (have := hMut k hk; omega) | (have := hMuu k hk; omega) | (have := hGx k hk; omega) | (have := hGx2 k hk; omega) | (have := hGy k hk; omega)))
                   replace hrt := hrt.upd hu10 (fun k hk hl hS => by first | exact (show False from hS).elim | (simp only [At, New] at hk hS; omega) | (simp only [At] at hS; omega) | (have := hMut k hS; omega) | (have := hMuu k hS; omega) | (have := hGx k hS; omega))
                   replace htt := htt.upd hu10 (fun k hk hl hS => by first | exact (show False from hS).elim | (simp only [At, New] at hk hS; omega) | (simp only [At] at hS; omega) | (have := hMut k hS; omega) | (have := hMuu k hS; omega) | (have := hGx k hS; omega))
                   replace hol := hol.upd hu10 (fun k hk hl hS => by first | exact (show False from hS).elim | (simp only [At] at hS; have := hGx k hk; omega) | (have := hGx k hk; have := hMut k hS; omega) | (have := hGx k hk; have := hMuu k hS; omega))
                   replace hys := hys.upd hu10 (fun k hk hl hS => by first | exact (show False from hS).elim | (simp only [At] at hS; have := hT k hk; omega) | (simp only [At] at hS; have := hT2 k hk; omega) | (simp only [At] at hS; omega) | exact (hT k hk).2.2 hS | exact (hT2 k hk).2.2 hS | (have := hT k hk; have := hMut k hS; omega) | (have := hT k hk; have := hMuu k hS; omega) | (have := hT2 k hk; have := hMut k hS; omega))
                   replace hI := hI.upd hu10 (fun k hk hl hS => by first | exact (show False from hS).elim | (simp only [At] at hS; subst hS; rcases hk with hk | hk <;> first | exact hk.elim | (have := hMut _ hk; omega) | (have := hMuu _ hk; omega) | (have := hT _ hk; omega) | (have := hT2 _ hk; omega)) | (rcases hk with hk | hk <;> first | exact hk.elim | (have := hMut _ hk; have := hMuu _ hS; omega) | (have := hMuu _ hk; have := hMut _ hS; omega) | (have := hMut _ hk; have := hGx _ hS; omega) | (have := hMuu _ hk; have := hGx _ hS; omega) | (have := hMut _ hk; have := hGy _ hS; omega) | (have := hMuu _ hk; have := hGy _ hS; omega) | exact (hT _ hk).2.2 hS | exact (hT2 _ hk).2.2 hS | (have := hT _ hk; have := hMut _ hS; omega) | (have := hT _ hk; have := hMuu _ hS; omega) | (have := hT2 _ hk; have := hMut _ hS; omega)))
                   replace hJ := hJ.upd hu10 (fun k hk hl hS => by first | exact (show False from hS).elim | (simp only [At] at hS; subst hS; rcases hk with hk | hk <;> first | exact hk.elim | (have := hMut _ hk; omega) | (have := hMuu _ hk; omega) | (have := hT _ hk; omega) | (have := hT2 _ hk; omega)) | (rcases hk with hk | hk <;> first | exact hk.elim | (have := hMut _ hk; have := hMuu _ hS; omega) | (have := hMuu _ hk; have := hMut _ hS; omega) | (have := hMut _ hk; have := hGx _ hS; omega) | (have := hMuu _ hk; have := hGx _ hS; omega) | (have := hMut _ hk; have := hGy _ hS; omega) | (have := hMuu _ hk; have := hGy _ hS; omega) | exact (hT _ hk).2.2 hS | exact (hT2 _ hk).2.2 hS | (have := hT _ hk; have := hMut _ hS; omega) | (have := hT _ hk; have := hMuu _ hS; omega) | (have := hT2 _ hk; have := hMut _ hS; omega)))
                   replace hxb := hxb.upd hu10 (fun k hk hl hS => by first | exact (show False from hS).elim | (simp only [At, New] at hk hS; omega) | (simp only [At] at hS; omega) | (have := hMut k hS; omega) | (have := hMuu k hS; omega) | (have := hGx k hS; omega))
                   replace hx := hx.upd hu10 (fun k hk hl hS => by first | exact (show False from hS).elim | (simp only [At] at hS; have := hT k hk; omega) | (simp only [At] at hS; have := hT2 k hk; omega) | (simp only [At] at hS; omega) | exact (hT k hk).2.2 hS | exact (hT2 k hk).2.2 hS | (have := hT k hk; have := hMut k hS; omega) | (have := hT k hk; have := hMuu k hS; omega) | (have := hT2 k hk; have := hMut k hS; omega))
                   refine WL.nil ?_
                   refine WX.keep [(0, _), (3, _), (4, _), (5, _), (6, _), (7, _), (8, _), (9, _), (10, _)] ⟨rfl, rfl, rfl, rfl, rfl, rfl, rfl, rfl, rfl, trivial⟩ ?_
                   refine WX.next ?_
                   refine WC.seq ?_
                   refine WC.region ?_
                   have hb10 := hB9
                   refine WL.val rfl rfl rfl rfl (r_move rfl (ev_t rfl)) ?_
                   refine WL.val rfl rfl rfl rfl (r_move rfl (ev_t rfl)) ?_
                   refine WL.val rfl rfl rfl rfl (r_indexAddr rfl (ev_t rfl) (ev_t rfl) elem_37 size_39 (by omega) (by omega)) ?_
                   first | refine WL.val rfl rfl rfl rfl (r_field0 rfl (ev_t rfl) fld_39_1) ?_ | refine WL.val rfl rfl rfl rfl (r_fieldAt rfl (ev_t rfl) fld_39_1) ?_
                   refine WL.val rfl rfl rfl rfl (r_loadAgg (vs := [_, _, _]) rfl (ev_t rfl) agg_28 size_28 (pair_cells2 hrt hxi rfl)) ?_
                   refine WL.cons (SO.call (apart_ok (by_ := 1) (by omega) _ _ _ _ _ _ _ (Nat.le_refl _) hxb (fun x hx => by have := hvb x hx; omega)) rfl body_15 ⟨(ev_t rfl), ev_c, trivial⟩ rfl rfl rfl rfl ?_)
                   rintro v w11 ⟨c4, c5, c6', rfl, hy, hu11⟩
                   obtain ⟨my, Ay, ky, xky, rfl, rfl, rfl, _⟩ := hy.open
                   have hs11 := hu11.size
                   replace hU := hU.trans hu11 (by first | exact (fun _ _ h => h) | exact (fun _ _ h => h.elim) | (intro k hl hk; (try simp only [At, New, Grow, From, No] at hk ⊢); omega) | (intro k hl hk; first | (have := hMut k hk; omega) | (have := hMuu k hk; omega) | (have := hGx k hk; omega) | (have := hGx2 k hk; omega) | (have := hGy k hk; omega)))
                   replace hrt := hrt.upd hu11 (fun k hk hl hS => by first | exact (show False from hS).elim | (simp only [At, New] at hk hS; omega) | (simp only [At] at hS; omega) | (have := hMut k hS; omega) | (have := hMuu k hS; omega) | (have := hGx k hS; omega))
                   replace htt := htt.upd hu11 (fun k hk hl hS => by first | exact (show False from hS).elim | (simp only [At, New] at hk hS; omega) | (simp only [At] at hS; omega) | (have := hMut k hS; omega) | (have := hMuu k hS; omega) | (have := hGx k hS; omega))
                   replace hol := hol.upd hu11 (fun k hk hl hS => by first | exact (show False from hS).elim | (simp only [At] at hS; have := hGx k hk; omega) | (have := hGx k hk; have := hMut k hS; omega) | (have := hGx k hk; have := hMuu k hS; omega))
                   replace hys := hys.upd hu11 (fun k hk hl hS => by first | exact (show False from hS).elim | (simp only [At] at hS; have := hT k hk; omega) | (simp only [At] at hS; have := hT2 k hk; omega) | (simp only [At] at hS; omega) | exact (hT k hk).2.2 hS | exact (hT2 k hk).2.2 hS | (have := hT k hk; have := hMut k hS; omega) | (have := hT k hk; have := hMuu k hS; omega) | (have := hT2 k hk; have := hMut k hS; omega))
                   replace hI := hI.upd hu11 (fun k hk hl hS => by first | exact (show False from hS).elim | (simp only [At] at hS; subst hS; rcases hk with hk | hk <;> first | exact hk.elim | (have := hMut _ hk; omega) | (have := hMuu _ hk; omega) | (have := hT _ hk; omega) | (have := hT2 _ hk; omega)) | (rcases hk with hk | hk <;> first | exact hk.elim | (have := hMut _ hk; have := hMuu _ hS; omega) | (have := hMuu _ hk; have := hMut _ hS; omega) | (have := hMut _ hk; have := hGx _ hS; omega) | (have := hMuu _ hk; have := hGx _ hS; omega) | (have := hMut _ hk; have := hGy _ hS; omega) | (have := hMuu _ hk; have := hGy _ hS; omega) | exact (hT _ hk).2.2 hS | exact (hT2 _ hk).2.2 hS | (have := hT _ hk; have := hMut _ hS; omega) | (have := hT _ hk; have := hMuu _ hS; omega) | (have := hT2 _ hk; have := hMut _ hS; omega)))
                   replace hJ := hJ.upd hu11 (fun k hk hl hS => by first | exact (show False from hS).elim | (simp only [At] at hS; subst hS; rcases hk with hk | hk <;> first | exact hk.elim | (have := hMut _ hk; omega) | (have := hMuu _ hk; omega) | (have := hT _ hk; omega) | (have := hT2 _ hk; omega)) | (rcases hk with hk | hk <;> first | exact hk.elim | (have := hMut _ hk; have := hMuu _ hS; omega) | (have := hMuu _ hk; have := hMut _ hS; omega) | (have := hMut _ hk; have := hGx _ hS; omega) | (have := hMuu _ hk; have := hGx _ hS; omega) | (have := hMut _ hk; have := hGy _ hS; omega) | (have := hMuu _ hk; have := hGy _ hS; omega) | exact (hT _ hk).2.2 hS | exact (hT2 _ hk).2.2 hS | (have := hT _ hk; have := hMut _ hS; omega) | (have := hT _ hk; have := hMuu _ hS; omega) | (have := hT2 _ hk; have := hMut _ hS; omega)))
                   replace hxb := hxb.upd hu11 (fun k hk hl hS => by first | exact (show False from hS).elim | (simp only [At, New] at hk hS; omega) | (simp only [At] at hS; omega) | (have := hMut k hS; omega) | (have := hMuu k hS; omega) | (have := hGx k hS; omega))
                   replace hx := hx.upd hu11 (fun k hk hl hS => by first | exact (show False from hS).elim | (simp only [At] at hS; have := hT k hk; omega) | (simp only [At] at hS; have := hT2 k hk; omega) | (simp only [At] at hS; omega) | exact (hT k hk).2.2 hS | exact (hT2 k hk).2.2 hS | (have := hT k hk; have := hMut k hS; omega) | (have := hT k hk; have := hMuu k hS; omega) | (have := hT2 k hk; have := hMut k hS; omega))
                   replace hb10 := hb10.upd hu11 (by first | exact (fun h => h) | (simp only [At]; omega) | (intro hS; have := hMut _ hS; omega))
                   obtain ⟨Y, hY⟩ : ∃ Y, ext (apS 1) (cleanR 3 tb) = Y := ⟨_, rfl⟩
                   have hvY : ∀ y ∈ vars Y, y ∈ upto 20 := fun y hy => by rw [← hY] at hy; have := ap8 hvb y hy; rw [mem_upto]; omega
                   rw [hY] at hy ⊢
                   replace hy := hy.mono (F' := fun k => wA.heap.size ≤ k ∧ k < w11.heap.size) (fun k hk => by simp only [New] at hk; omega)
                   refine WL.cons (SO.alloc rfl rfl rfl rfl (r_alloc rfl zero_28) ?_)
                   intro w12 hu12 hB12 hz12
                   have hs12 := hu12.size
                   replace hU := hU.trans hu12 (by first | exact (fun _ _ h => h) | exact (fun _ _ h => h.elim) | (intro k hl hk; (try simp only [At, New, Grow, From, No] at hk ⊢); omega) | (intro k hl hk; first | (have := hMut k hk; omega) | (have := hMuu k hk; omega) | (have := hGx k hk; omega) | (have := hGx2 k hk; omega) | (have := hGy k hk; omega)))
                   replace hrt := hrt.upd hu12 (fun k hk hl hS => by first | exact (show False from hS).elim | (simp only [At, New] at hk hS; omega) | (simp only [At] at hS; omega) | (have := hMut k hS; omega) | (have := hMuu k hS; omega) | (have := hGx k hS; omega))
                   replace htt := htt.upd hu12 (fun k hk hl hS => by first | exact (show False from hS).elim | (simp only [At, New] at hk hS; omega) | (simp only [At] at hS; omega) | (have := hMut k hS; omega) | (have := hMuu k hS; omega) | (have := hGx k hS; omega))
                   replace hol := hol.upd hu12 (fun k hk hl hS => by first | exact (show False from hS).elim | (simp only [At] at hS; have := hGx k hk; omega) | (have := hGx k hk; have := hMut k hS; omega) | (have := hGx k hk; have := hMuu k hS; omega))
                   replace hys := hys.upd hu12 (fun k hk hl hS => by first | exact (show False from hS).elim | (simp only [At] at hS; have := hT k hk; omega) | (simp only [At] at hS; have := hT2 k hk; omega) | (simp only [At] at hS; omega) | exact (hT k hk).2.2 hS | exact (hT2 k hk).2.2 hS | (have := hT k hk; have := hMut k hS; omega) | (have := hT k hk; have := hMuu k hS; omega) | (have := hT2 k hk; have := hMut k hS; omega))
                   replace hI := hI.upd hu12 (fun k hk hl hS => by first | exact (show False from hS).elim | (simp only [At] at hS; subst hS; rcases hk with hk | hk <;> first | exact hk.elim | (have := hMut _ hk; omega) | (have := hMuu _ hk; omega) | (have := hT _ hk; omega) | (have := hT2 _ hk; omega)) | (rcases hk with hk | hk <;> first | exact hk.elim | (have := hMut _ hk; have := hMuu _ hS; omega) | (have := hMuu _ hk; have := hMut _ hS; omega) | (have := hMut _ hk; have := hGx _ hS; omega) | (have := hMuu _ hk; have := hGx _ hS; omega) | (have := hMut _ hk; have := hGy _ hS; omega) | (have := hMuu _ hk; have := hGy _ hS; omega) | exact (hT _ hk).2.2 hS | exact (hT2 _ hk).2.2 hS | (have := hT _ hk; have := hMut _ hS; omega) | (have := hT _ hk; have := hMuu _ hS; omega) | (have := hT2 _ hk; have := hMut _ hS; omega)))
                   replace hJ := hJ.upd hu12 (fun k hk hl hS => by first | exact (show False from hS).elim | (simp only [At] at hS; subst hS; rcases hk with hk | hk <;> first | exact hk.elim | (have := hMut _ hk; omega) | (have := hMuu _ hk; omega) | (have := hT _ hk; omega) | (have := hT2 _ hk; omega)) | (rcases hk with hk | hk <;> first | exact hk.elim | (have := hMut _ hk; have := hMuu _ hS; omega) | (have := hMuu _ hk; have := hMut _ hS; omega) | (have := hMut _ hk; have := hGx _ hS; omega) | (have := hMuu _ hk; have := hGx _ hS; omega) | (have := hMut _ hk; have := hGy _ hS; omega) | (have := hMuu _ hk; have := hGy _ hS; omega) | exact (hT _ hk).2.2 hS | exact (hT2 _ hk).2.2 hS | (have := hT _ hk; have := hMut _ hS; omega) | (have := hT _ hk; have := hMuu _ hS; omega) | (have := hT2 _ hk; have := hMut _ hS; omega)))
                   replace hx := hx.upd hu12 (fun k hk hl hS => by first | exact (show False from hS).elim | (simp only [At] at hS; have := hT k hk; omega) | (simp only [At] at hS; have := hT2 k hk; omega) | (simp only [At] at hS; omega) | exact (hT k hk).2.2 hS | exact (hT2 k hk).2.2 hS | (have := hT k hk; have := hMut k hS; omega) | (have := hT k hk; have := hMuu k hS; omega) | (have := hT2 k hk; have := hMut k hS; omega))
                   replace hb10 := hb10.upd hu12 (by first | exact (fun h => h) | (simp only [At]; omega) | (intro hS; have := hMut _ hS; omega))
                   replace hy := hy.upd hu12 (fun k hk hl hS => by first | exact (show False from hS).elim | (simp only [At] at hS; have := hT k hk; omega) | (simp only [At] at hS; have := hT2 k hk; omega) | (simp only [At] at hS; omega) | exact (hT k hk).2.2 hS | exact (hT2 k hk).2.2 hS | (have := hT k hk; have := hMut k hS; omega) | (have := hT k hk; have := hMuu k hS; omega) | (have := hT2 k hk; have := hMut k hS; omega))
                   refine WL.cons (SO.storeAll (us := [_, _, _]) rfl (ev_t rfl) (ev_t rfl) size_28 hB12 rfl rfl rfl rfl rfl ?_)
                   intro w13 hu13 hB12 hz13
                   have hs13 := hu13.size
                   replace hU := hU.trans hu13 (by first | exact (fun _ _ h => h) | exact (fun _ _ h => h.elim) | (intro k hl hk; (try simp only [At, New, Grow, From, No] at hk ⊢); omega) | (intro k hl hk; first | (have := hMut k hk; omega) | (have := hMuu k hk; omega) | (have := hGx k hk; omega) | (have := hGx2 k hk; omega) | (have := hGy k hk; omega)))
                   replace hrt := hrt.upd hu13 (fun k hk hl hS => by first | exact (show False from hS).elim | (simp only [At, New] at hk hS; omega) | (simp only [At] at hS; omega) | (have := hMut k hS; omega) | (have := hMuu k hS; omega) | (have := hGx k hS; omega))
                   replace htt := htt.upd hu13 (fun k hk hl hS => by first | exact (show False from hS).elim | (simp only [At, New] at hk hS; omega) | (simp only [At] at hS; omega) | (have := hMut k hS; omega) | (have := hMuu k hS; omega) | (have := hGx k hS; omega))
                   replace hol := hol.upd hu13 (fun k hk hl hS => by first | exact (show False from hS).elim | (simp only [At] at hS; have := hGx k hk; omega) | (have := hGx k hk; have := hMut k hS; omega) | (have := hGx k hk; have := hMuu k hS; omega))
                   replace hys := hys.upd hu13 (fun k hk hl hS => by first | exact (show False from hS).elim | (simp only [At] at hS; have := hT k hk; omega) | (simp only [At] at hS; have := hT2 k hk; omega) | (simp only [At] at hS; omega) | exact (hT k hk).2.2 hS | exact (hT2 k hk).2.2 hS | (have := hT k hk; have := hMut k hS; omega) | (have := hT k hk; have := hMuu k hS; omega) | (have := hT2 k hk; have := hMut k hS; omega))
                   replace hI := hI.upd hu13 (fun k hk hl hS => by first | exact (show False from hS).elim | (simp only [At] at hS; subst hS; rcases hk with hk | hk <;> first | exact hk.elim | (have := hMut _ hk; omega) | (have := hMuu _ hk; omega) | (have := hT _ hk; omega) | (have := hT2 _ hk; omega)) | (rcases hk with hk | hk <;> first | exact hk.elim | (have := hMut _ hk; have := hMuu _ hS; omega) | (have := hMuu _ hk; have := hMut _ hS; omega) | (have := hMut _ hk; have := hGx _ hS; omega) | (have := hMuu _ hk; have := hGx _ hS; omega) | (have := hMut _ hk; have := hGy _ hS; omega) | (have := hMuu _ hk; have := hGy _ hS; omega) | exact (hT _ hk).2.2 hS | exact (hT2 _ hk).2.2 hS | (have := hT _ hk; have := hMut _ hS; omega) | (have := hT _ hk; have := hMuu _ hS; omega) | (have := hT2 _ hk; have := hMut _ hS; omega)))
                   replace hJ := hJ.upd hu13 (fun k hk hl hS => by first | exact (show False from hS).elim | (simp only [At] at hS; subst hS; rcases hk with hk | hk <;> first | exact hk.elim | (have := hMut _ hk; omega) | (have := hMuu _ hk; omega) | (have := hT _ hk; omega) | (have := hT2 _ hk; omega)) | (rcases hk with hk | hk <;> first | exact hk.elim | (have := hMut _ hk; have := hMuu _ hS; omega) | (have := hMuu _ hk; have := hMut _ hS; omega) | (have := hMut _ hk; have := hGx _ hS; omega) | (have := hMuu _ hk; have := hGx _ hS; omega) | (have := hMut _ hk; have := hGy _ hS; omega) | (have := hMuu _ hk; have := hGy _ hS; omega) | exact (hT _ hk).2.2 hS | exact (hT2 _ hk).2.2 hS | (have := hT _ hk; have := hMut _ hS; omega) | (have := hT _ hk; have := hMuu _ hS; omega) | (have := hT2 _ hk; have := hMut _ hS; omega)))
                   replace hx := hx.upd hu13 (fun k hk hl hS => by first | exact (show False from hS).elim | (simp only [At] at hS; have := hT k hk; omega) | (simp only [At] at hS; have := hT2 k hk; omega) | (simp only [At] at hS; omega) | exact (hT k hk).2.2 hS | exact (hT2 k hk).2.2 hS | (have := hT k hk; have := hMut k hS; omega) | (have := hT k hk; have := hMuu k hS; omega) | (have := hT2 k hk; have := hMut k hS; omega))
                   replace hb10 := hb10.upd hu13 (by first | exact (fun h => h) | (simp only [At]; omega) | (intro hS; have := hMut _ hS; omega))
                   replace hy := hy.upd hu13 (fun k hk hl hS => by first | exact (show False from hS).elim | (simp only [At] at hS; have := hT k hk; omega) | (simp only [At] at hS; have := hT2 k hk; omega) | (simp only [At] at hS; omega) | exact (hT k hk).2.2 hS | exact (hT2 k hk).2.2 hS | (have := hT k hk; have := hMut k hS; omega) | (have := hT k hk; have := hMuu k hS; omega) | (have := hT2 k hk; have := hMut k hS; omega))
                   refine WL.nil ?_
                   refine WX.keep [(0, _), (3, _), (4, _), (5, _), (6, _), (7, _), (8, _), (9, _), (10, _), (11, _)] ⟨rfl, rfl, rfl, rfl, rfl, rfl, rfl, rfl, rfl, rfl, trivial⟩ ?_
                   have hb11 := hB12
                   obtain ⟨SZ, hSZ⟩ : ∃ SZ, SZ = w13.heap.size := ⟨_, rfl⟩
                   obtain ⟨b10, hb10e⟩ : ∃ b, b = w8.heap.size := ⟨_, rfl⟩
                   obtain ⟨b11, hb11e⟩ : ∃ b, b = w11.heap.size := ⟨_, rfl⟩
                   rw [← hb10e] at hb10 ⊢
                   rw [← hb11e] at hb11 ⊢
                   have hl10 := hb10.lt
                   have hl11 := hb11.lt
                   obtain ⟨T2, hTT, hNT, hT2⟩ : ∃ T2 : Nat → Prop, (∀ k, T k → T2 k) ∧ (∀ k, wA.heap.size ≤ k ∧ k < SZ → T2 k) ∧ (∀ k, T2 k → B1 ≤ k ∧ k < SZ ∧ ¬ Gx k) := ⟨fun k => T k ∨ (wA.heap.size ≤ k ∧ k < SZ), fun k h => .inl h, fun k h => .inr h, fun k hk => (by rcases hk with hk | hk; have := hT k hk; exact ⟨this.1, by omega, this.2.2⟩; exact ⟨by omega, hk.2, fun h => by have := hGx k h; omega⟩)⟩
                   replace hx := hx.mono (F' := T2) (fun k hk => hNT k (by omega))
                   replace hy := hy.mono (F' := T2) (fun k hk => hNT k (by omega))
                   replace hys := hys.mono (F' := T2) hTT
                   have hI2 := hI.mono (F' := T2) hTT
                   refine WX.next ?_
                   -- cut r15: live [0, 3, 4, 5, 6, 7, 8, 9, 10, 11]
                   refine WC.cut (fun E w9 => ∃ (r2 : Bool) (σ2 : Sg) (D2 : Dn) (xs2 : List C3), Run (upto 20) (ps ++ [(X, Y)]) r2 σ2 D2 ∧ Upd No w w9 ∧ SZ ≤ w9.heap.size ∧ Rd w9 (fun k => k < B0) (.slice (some ⟨bt, offt, none⟩) tt.length kt) tt.length 6 (xt.flatMap c6) ∧ PRs w9 (fun k => k < B0) xt tt ∧ Own w9 Gx typ 3 (.slice A m cl) m (ys.flatMap c3) ∧ TVs w9 T2 ys (flat2 ps) ∧   TV w9 T2 (.string ⟨X.nm.toArray⟩, .int .i64 mx, .slice Ax X.kids.length kx) X ∧ TV w9 T2 (.string ⟨Y.nm.toArray⟩, .int .i64 my, .slice Ay Y.kids.length ky) Y ∧ Blk w9 b10 #[.string ⟨X.nm.toArray⟩, .int .i64 mx, .slice Ax X.kids.length kx] typ ∧ Blk w9 b11 #[.string ⟨Y.nm.toArray⟩, .int .i64 my, .slice Ay Y.kids.length ky] typ ∧ IsS w9 T2 p m1 m2 σ2 D2 100 xs2 ∧ IsS w9 (fun _ => False) pu n1 n2 [] [] 100 [] ∧   E = [(0, .slice (some ⟨bt, offt, none⟩) tt.length kt), (3, .pointer (some ⟨p, 0, none⟩)), (4, .pointer (some ⟨pu, 0, none⟩)), (5, .bool r2), (6, .bool true), (7, .slice A m cl), (8, .slice none 0 0), (9, .int .i64 (i : Int)), (10, .pointer (some ⟨b10, 0, none⟩)), (11, .pointer (some ⟨b11, 0, none⟩))]) ?_ ?_
                   · refine WC.region ?_
                     refine WL.val rfl rfl rfl rfl (r_move rfl (ev_t rfl)) ?_
                     refine WL.val rfl rfl rfl rfl (r_move rfl (ev_t rfl)) ?_
                     refine WL.cases 60 rfl (fun hb15_1 => ?_) (fun hb15_1 => ?_)
                     · try (exfalso; first | (simp at hb15_1; done) | (simp only [decide_eq_true_eq, decide_eq_false_iff_not, Bool.not_eq_true', Bool.not_eq_false', Bool.not_eq_true, Bool.not_eq_false] at hb15_1; omega) | omega)
                       all_goals
                        try simp only [decide_eq_true_eq, decide_eq_false_iff_not, Bool.not_eq_true', Bool.not_eq_false', Bool.not_eq_true, Bool.not_eq_false, Option.isNone_none, Option.isNone_some, Option.isSome_none, Option.isSome_some, ne_eq, Decidable.not_not] at hb15_1
                        obtain rfl : r = true := by simp_all
                        obtain ⟨r2, σ2, D2, N, hun, hrun2⟩ := hrun.snoc (by decide) hvX hvY
                        refine WL.val rfl rfl rfl rfl (r_move rfl (ev_t rfl)) ?_
                        refine WL.val rfl rfl rfl rfl (r_loadAgg (vs := [_, _, _]) rfl (ev_t rfl) agg_28 size_28 (Blk.cellsL hb10)) ?_
                        refine WL.val rfl rfl rfl rfl (r_loadAgg (vs := [_, _, _]) rfl (ev_t rfl) agg_28 size_28 (Blk.cellsL hb11)) ?_
                        refine WL.cons (SO.call (unify_ok (fun k hk hM => by have := hMut k hM; have := hT2 k hk; omega) N _ _ _ _ _ _ _ _ _ _ _ _ r2 σ2 D2 hun (fun k hk => by have := hT2 k hk; omega) hI2 hx hy) rfl body_12 ⟨(ev_t rfl), (ev_t rfl), (ev_t rfl), trivial⟩ rfl rfl rfl rfl ?_)
                        rintro v w14 ⟨rfl, ⟨xs2, hI9⟩, hu14⟩
                        have hs14 := hu14.size
                        replace hU := hU.trans hu14 (by first | exact (fun _ _ h => h) | exact (fun _ _ h => h.elim) | (intro k hl hk; (try simp only [At, New, Grow, From, No] at hk ⊢); omega) | (intro k hl hk; first | (have := hMut k hk; omega) | (have := hMuu k hk; omega) | (have := hGx k hk; omega) | (have := hGx2 k hk; omega) | (have := hGy k hk; omega)))
                        replace hrt := hrt.upd hu14 (fun k hk hl hS => by first | exact (show False from hS).elim | (simp only [At, New] at hk hS; omega) | (simp only [At] at hS; omega) | (have := hMut k hS; omega) | (have := hMuu k hS; omega) | (have := hGx k hS; omega))
                        replace htt := htt.upd hu14 (fun k hk hl hS => by first | exact (show False from hS).elim | (simp only [At, New] at hk hS; omega) | (simp only [At] at hS; omega) | (have := hMut k hS; omega) | (have := hMuu k hS; omega) | (have := hGx k hS; omega))
                        replace hol := hol.upd hu14 (fun k hk hl hS => by first | exact (show False from hS).elim | (simp only [At] at hS; have := hGx k hk; omega) | (have := hGx k hk; have := hMut k hS; omega) | (have := hGx k hk; have := hMuu k hS; omega))
                        replace hys := hys.upd hu14 (fun k hk hl hS => by first | exact (show False from hS).elim | (simp only [At] at hS; have := hT k hk; omega) | (simp only [At] at hS; have := hT2 k hk; omega) | (simp only [At] at hS; omega) | exact (hT k hk).2.2 hS | exact (hT2 k hk).2.2 hS | (have := hT k hk; have := hMut k hS; omega) | (have := hT k hk; have := hMuu k hS; omega) | (have := hT2 k hk; have := hMut k hS; omega))
                        replace hJ := hJ.upd hu14 (fun k hk hl hS => by first | exact (show False from hS).elim | (simp only [At] at hS; subst hS; rcases hk with hk | hk <;> first | exact hk.elim | (have := hMut _ hk; omega) | (have := hMuu _ hk; omega) | (have := hT _ hk; omega) | (have := hT2 _ hk; omega)) | (rcases hk with hk | hk <;> first | exact hk.elim | (have := hMut _ hk; have := hMuu _ hS; omega) | (have := hMuu _ hk; have := hMut _ hS; omega) | (have := hMut _ hk; have := hGx _ hS; omega) | (have := hMuu _ hk; have := hGx _ hS; omega) | (have := hMut _ hk; have := hGy _ hS; omega) | (have := hMuu _ hk; have := hGy _ hS; omega) | exact (hT _ hk).2.2 hS | exact (hT2 _ hk).2.2 hS | (have := hT _ hk; have := hMut _ hS; omega) | (have := hT _ hk; have := hMuu _ hS; omega) | (have := hT2 _ hk; have := hMut _ hS; omega)))
                        replace hx := hx.upd hu14 (fun k hk hl hS => by first | exact (show False from hS).elim | (simp only [At] at hS; have := hT k hk; omega) | (simp only [At] at hS; have := hT2 k hk; omega) | (simp only [At] at hS; omega) | exact (hT k hk).2.2 hS | exact (hT2 k hk).2.2 hS | (have := hT k hk; have := hMut k hS; omega) | (have := hT k hk; have := hMuu k hS; omega) | (have := hT2 k hk; have := hMut k hS; omega))
                        replace hb10 := hb10.upd hu14 (by first | exact (fun h => h) | (simp only [At]; omega) | (intro hS; have := hMut _ hS; omega))
                        replace hy := hy.upd hu14 (fun k hk hl hS => by first | exact (show False from hS).elim | (simp only [At] at hS; have := hT k hk; omega) | (simp only [At] at hS; have := hT2 k hk; omega) | (simp only [At] at hS; omega) | exact (hT k hk).2.2 hS | exact (hT2 k hk).2.2 hS | (have := hT k hk; have := hMut k hS; omega) | (have := hT k hk; have := hMuu k hS; omega) | (have := hT2 k hk; have := hMut k hS; omega))
                        replace hb11 := hb11.upd hu14 (by first | exact (fun h => h) | (simp only [At]; omega) | (intro hS; have := hMut _ hS; omega))
                        have hI2 := hI9
                        refine WL.val rfl rfl rfl rfl (r_pickT rfl (ev_t rfl) (ev_t rfl)) ?_
                        refine WL.val rfl rfl rfl rfl (r_assign rfl (ev_t rfl)) ?_
                        refine WL.nil ?_
                        refine WX.keep [(0, _), (3, _), (4, _), (5, _), (6, _), (7, _), (8, _), (9, _), (10, _), (11, _)] ⟨rfl, rfl, rfl, rfl, rfl, rfl, rfl, rfl, rfl, rfl, trivial⟩ ?_
                        refine WX.meet [(0, _), (3, _), (4, _), (5, _), (6, _), (7, _), (8, _), (9, _), (10, _), (11, _)] ⟨rfl, rfl, rfl, rfl, rfl, rfl, rfl, rfl, rfl, rfl, trivial⟩ ?_
                        first
                          | exact ⟨_, _, _, _, hrun2, hU, by omega, hrt, htt, hol, hys, hx, hy, hb10, hb11, hI2, hJ, rfl⟩
                          | (obtain rfl : r = false := by simp_all
                             exact ⟨_, _, _, _, hrun.no, hU, by omega, hrt, htt, hol, hys, hx, hy, hb10, hb11, hI2, hJ, rfl⟩)
                     · try (exfalso; first | (simp at hb15_1; done) | (simp only [decide_eq_true_eq, decide_eq_false_iff_not, Bool.not_eq_true', Bool.not_eq_false', Bool.not_eq_true, Bool.not_eq_false] at hb15_1; omega) | omega)
                       all_goals
                        try simp only [decide_eq_true_eq, decide_eq_false_iff_not, Bool.not_eq_true', Bool.not_eq_false', Bool.not_eq_true, Bool.not_eq_false, Option.isNone_none, Option.isNone_some, Option.isSome_none, Option.isSome_some, ne_eq, Decidable.not_not] at hb15_1
                        refine WL.skip rfl rfl rfl ?_
                        refine WL.skip rfl rfl rfl ?_
                        refine WL.skip rfl rfl rfl ?_
                        refine WL.skip rfl rfl rfl ?_
                        refine WL.val rfl rfl rfl rfl (r_pickF rfl (ev_t rfl) ev_c) ?_
                        refine WL.val rfl rfl rfl rfl (r_assign rfl (ev_t rfl)) ?_
                        refine WL.nil ?_
                        refine WX.keep [(0, _), (3, _), (4, _), (5, _), (6, _), (7, _), (8, _), (9, _), (10, _), (11, _)] ⟨rfl, rfl, rfl, rfl, rfl, rfl, rfl, rfl, rfl, rfl, trivial⟩ ?_
                        refine WX.meet [(0, _), (3, _), (4, _), (5, _), (6, _), (7, _), (8, _), (9, _), (10, _), (11, _)] ⟨rfl, rfl, rfl, rfl, rfl, rfl, rfl, rfl, rfl, rfl, trivial⟩ ?_
                        first
                          | exact ⟨_, _, _, _, hrun2, hU, by omega, hrt, htt, hol, hys, hx, hy, hb10, hb11, hI2, hJ, rfl⟩
                          | (obtain rfl : r = false := by simp_all
                             exact ⟨_, _, _, _, hrun.no, hU, by omega, hrt, htt, hol, hys, hx, hy, hb10, hb11, hI2, hJ, rfl⟩)
                   · clear hU hrt htt hol hys hx hy hb10 hb11 hI hI2 hJ
                     rintro E wB ⟨r2, σ2, D2, xs2, hrun2, hU, hsB, hrt, htt, hol, hys, hx, hy, hb10, hb11, hI2, hJ, rfl⟩
                     refine WC.region ?_
                     refine WL.val rfl rfl rfl rfl (r_move rfl (ev_t rfl)) ?_
                     refine WL.val rfl rfl rfl rfl (r_loadAgg (vs := [_, _, _]) rfl (ev_t rfl) agg_28 size_28 (Blk.cellsL hb10)) ?_
                     refine WL.val rfl rfl rfl rfl (r_loadAgg (vs := [_, _, _]) rfl (ev_t rfl) agg_28 size_28 (Blk.cellsL hb11)) ?_
                     refine WL.cons (SO.alloc rfl rfl rfl rfl (r_buildSlice (cs := #[_, _, _, _, _, _]) (vs := [(0, _), (1, _)]) rfl ⟨⟨rfl, (ev_t rfl)⟩, ⟨rfl, (ev_t rfl)⟩, trivial⟩ row_26 rfl rfl) ?_)
                     intro w15 hu15 hB15 hz15
                     have hs15 := hu15.size
                     replace hU := hU.trans hu15 (by first | exact (fun _ _ h => h) | exact (fun _ _ h => h.elim) | (intro k hl hk; (try simp only [At, New, Grow, From, No] at hk ⊢); omega) | (intro k hl hk; first | (have := hMut k hk; omega) | (have := hMuu k hk; omega) | (have := hGx k hk; omega) | (have := hGx2 k hk; omega) | (have := hGy k hk; omega)))
                     replace hrt := hrt.upd hu15 (fun k hk hl hS => by first | exact (show False from hS).elim | (simp only [At, New] at hk hS; omega) | (simp only [At] at hS; omega) | (have := hMut k hS; omega) | (have := hMuu k hS; omega) | (have := hGx k hS; omega))
                     replace htt := htt.upd hu15 (fun k hk hl hS => by first | exact (show False from hS).elim | (simp only [At, New] at hk hS; omega) | (simp only [At] at hS; omega) | (have := hMut k hS; omega) | (have := hMuu k hS; omega) | (have := hGx k hS; omega))
                     replace hol := hol.upd hu15 (fun k hk hl hS => by first | exact (show False from hS).elim | (simp only [At] at hS; have := hGx k hk; omega) | (have := hGx k hk; have := hMut k hS; omega) | (have := hGx k hk; have := hMuu k hS; omega))
                     replace hys := hys.upd hu15 (fun k hk hl hS => by first | exact (show False from hS).elim | (simp only [At] at hS; have := hT k hk; omega) | (simp only [At] at hS; have := hT2 k hk; omega) | (simp only [At] at hS; omega) | exact (hT k hk).2.2 hS | exact (hT2 k hk).2.2 hS | (have := hT k hk; have := hMut k hS; omega) | (have := hT k hk; have := hMuu k hS; omega) | (have := hT2 k hk; have := hMut k hS; omega))
                     replace hx := hx.upd hu15 (fun k hk hl hS => by first | exact (show False from hS).elim | (simp only [At] at hS; have := hT k hk; omega) | (simp only [At] at hS; have := hT2 k hk; omega) | (simp only [At] at hS; omega) | exact (hT k hk).2.2 hS | exact (hT2 k hk).2.2 hS | (have := hT k hk; have := hMut k hS; omega) | (have := hT k hk; have := hMuu k hS; omega) | (have := hT2 k hk; have := hMut k hS; omega))
                     replace hy := hy.upd hu15 (fun k hk hl hS => by first | exact (show False from hS).elim | (simp only [At] at hS; have := hT k hk; omega) | (simp only [At] at hS; have := hT2 k hk; omega) | (simp only [At] at hS; omega) | exact (hT k hk).2.2 hS | exact (hT2 k hk).2.2 hS | (have := hT k hk; have := hMut k hS; omega) | (have := hT k hk; have := hMuu k hS; omega) | (have := hT2 k hk; have := hMut k hS; omega))
                     replace hb10 := hb10.upd hu15 (by first | exact (fun h => h) | (simp only [At]; omega) | (intro hS; have := hMut _ hS; omega))
                     replace hb11 := hb11.upd hu15 (by first | exact (fun h => h) | (simp only [At]; omega) | (intro hS; have := hMut _ hS; omega))
                     replace hI2 := hI2.upd hu15 (fun k hk hl hS => by first | exact (show False from hS).elim | (simp only [At] at hS; subst hS; rcases hk with hk | hk <;> first | exact hk.elim | (have := hMut _ hk; omega) | (have := hMuu _ hk; omega) | (have := hT _ hk; omega) | (have := hT2 _ hk; omega)) | (rcases hk with hk | hk <;> first | exact hk.elim | (have := hMut _ hk; have := hMuu _ hS; omega) | (have := hMuu _ hk; have := hMut _ hS; omega) | (have := hMut _ hk; have := hGx _ hS; omega) | (have := hMuu _ hk; have := hGx _ hS; omega) | (have := hMut _ hk; have := hGy _ hS; omega) | (have := hMuu _ hk; have := hGy _ hS; omega) | exact (hT _ hk).2.2 hS | exact (hT2 _ hk).2.2 hS | (have := hT _ hk; have := hMut _ hS; omega) | (have := hT _ hk; have := hMuu _ hS; omega) | (have := hT2 _ hk; have := hMut _ hS; omega)))
                     replace hJ := hJ.upd hu15 (fun k hk hl hS => by first | exact (show False from hS).elim | (simp only [At] at hS; subst hS; rcases hk with hk | hk <;> first | exact hk.elim | (have := hMut _ hk; omega) | (have := hMuu _ hk; omega) | (have := hT _ hk; omega) | (have := hT2 _ hk; omega)) | (rcases hk with hk | hk <;> first | exact hk.elim | (have := hMut _ hk; have := hMuu _ hS; omega) | (have := hMuu _ hk; have := hMut _ hS; omega) | (have := hMut _ hk; have := hGx _ hS; omega) | (have := hMuu _ hk; have := hGx _ hS; omega) | (have := hMut _ hk; have := hGy _ hS; omega) | (have := hMuu _ hk; have := hGy _ hS; omega) | exact (hT _ hk).2.2 hS | exact (hT2 _ hk).2.2 hS | (have := hT _ hk; have := hMut _ hS; omega) | (have := hT _ hk; have := hMuu _ hS; omega) | (have := hT2 _ hk; have := hMut _ hS; omega)))
                     refine WL.cons (SO.append hol (Rd.of_blk (F := At _) (n := 2) (sz := 3) hB15 rfl rfl (by omega)) row_26 (by intro u hu; simp only [List.mem_cons, List.not_mem_nil, or_false, Array.toList] at hu; rcases hu with rfl | rfl | rfl | rfl | rfl | rfl <;> rfl) (le_maxLen (by omega)) (by omega) rfl (ev_t rfl) (ev_t rfl) rfl rfl rfl rfl ?_)
                     intro v16 w16 hol hu16
                     have hs16 := hu16.size
                     replace hU := hU.trans hu16 (by first | exact (fun _ _ h => h) | exact (fun _ _ h => h.elim) | (intro k hl hk; (try simp only [At, New, Grow, From, No] at hk ⊢); omega) | (intro k hl hk; first | (have := hMut k hk; omega) | (have := hMuu k hk; omega) | (have := hGx k hk; omega) | (have := hGx2 k hk; omega) | (have := hGy k hk; omega)))
                     replace hrt := hrt.upd hu16 (fun k hk hl hS => by first | exact (show False from hS).elim | (simp only [At, New] at hk hS; omega) | (simp only [At] at hS; omega) | (have := hMut k hS; omega) | (have := hMuu k hS; omega) | (have := hGx k hS; omega))
                     replace htt := htt.upd hu16 (fun k hk hl hS => by first | exact (show False from hS).elim | (simp only [At, New] at hk hS; omega) | (simp only [At] at hS; omega) | (have := hMut k hS; omega) | (have := hMuu k hS; omega) | (have := hGx k hS; omega))
                     replace hys := hys.upd hu16 (fun k hk hl hS => by first | exact (show False from hS).elim | (simp only [At] at hS; have := hT k hk; omega) | (simp only [At] at hS; have := hT2 k hk; omega) | (simp only [At] at hS; omega) | exact (hT k hk).2.2 hS | exact (hT2 k hk).2.2 hS | (have := hT k hk; have := hMut k hS; omega) | (have := hT k hk; have := hMuu k hS; omega) | (have := hT2 k hk; have := hMut k hS; omega))
                     replace hx := hx.upd hu16 (fun k hk hl hS => by first | exact (show False from hS).elim | (simp only [At] at hS; have := hT k hk; omega) | (simp only [At] at hS; have := hT2 k hk; omega) | (simp only [At] at hS; omega) | exact (hT k hk).2.2 hS | exact (hT2 k hk).2.2 hS | (have := hT k hk; have := hMut k hS; omega) | (have := hT k hk; have := hMuu k hS; omega) | (have := hT2 k hk; have := hMut k hS; omega))
                     replace hy := hy.upd hu16 (fun k hk hl hS => by first | exact (show False from hS).elim | (simp only [At] at hS; have := hT k hk; omega) | (simp only [At] at hS; have := hT2 k hk; omega) | (simp only [At] at hS; omega) | exact (hT k hk).2.2 hS | exact (hT2 k hk).2.2 hS | (have := hT k hk; have := hMut k hS; omega) | (have := hT k hk; have := hMuu k hS; omega) | (have := hT2 k hk; have := hMut k hS; omega))
                     replace hI2 := hI2.upd hu16 (fun k hk hl hS => by first | exact (show False from hS).elim | (simp only [At] at hS; subst hS; rcases hk with hk | hk <;> first | exact hk.elim | (have := hMut _ hk; omega) | (have := hMuu _ hk; omega) | (have := hT _ hk; omega) | (have := hT2 _ hk; omega)) | (rcases hk with hk | hk <;> first | exact hk.elim | (have := hMut _ hk; have := hMuu _ hS; omega) | (have := hMuu _ hk; have := hMut _ hS; omega) | (have := hMut _ hk; have := hGx _ hS; omega) | (have := hMuu _ hk; have := hGx _ hS; omega) | (have := hMut _ hk; have := hGy _ hS; omega) | (have := hMuu _ hk; have := hGy _ hS; omega) | exact (hT _ hk).2.2 hS | exact (hT2 _ hk).2.2 hS | (have := hT _ hk; have := hMut _ hS; omega) | (have := hT _ hk; have := hMuu _ hS; omega) | (have := hT2 _ hk; have := hMut _ hS; omega)))
                     replace hJ := hJ.upd hu16 (fun k hk hl hS => by first | exact (show False from hS).elim | (simp only [At] at hS; subst hS; rcases hk with hk | hk <;> first | exact hk.elim | (have := hMut _ hk; omega) | (have := hMuu _ hk; omega) | (have := hT _ hk; omega) | (have := hT2 _ hk; omega)) | (rcases hk with hk | hk <;> first | exact hk.elim | (have := hMut _ hk; have := hMuu _ hS; omega) | (have := hMuu _ hk; have := hMut _ hS; omega) | (have := hMut _ hk; have := hGx _ hS; omega) | (have := hMuu _ hk; have := hGx _ hS; omega) | (have := hMut _ hk; have := hGy _ hS; omega) | (have := hMuu _ hk; have := hGy _ hS; omega) | exact (hT _ hk).2.2 hS | exact (hT2 _ hk).2.2 hS | (have := hT _ hk; have := hMut _ hS; omega) | (have := hT _ hk; have := hMuu _ hS; omega) | (have := hT2 _ hk; have := hMut _ hS; omega)))
                     obtain ⟨A16, c16, rfl, hc16⟩ := Own.form hol
                     refine WL.val rfl rfl rfl rfl (r_assign rfl (ev_t rfl)) ?_
                     refine WL.nil ?_
                     refine WX.keep [(0, _), (3, _), (4, _), (5, _), (6, _), (7, _), (8, _), (9, _)] ⟨rfl, rfl, rfl, rfl, rfl, rfl, rfl, rfl, trivial⟩ ?_
                     have hys2 := (hys.snoc hx).snoc hy
                     rw [← flat2_snoc] at hys2
                     have e6 : ∀ (a1 a2 a3 a4 a5 a6 : Value), ys.flatMap c3 ++ [a1, a2, a3, a4, a5, a6] = (ys ++ [(a1, a2, a3)] ++ [(a4, a5, a6)]).flatMap c3 := fun a1 a2 a3 a4 a5 a6 => by simp [c3]
                     rw [e6] at hol
                     refine WX.blockNormal ?_
                     refine WX.next ?_
                     refine WC.region ?_
                     refine WL.val rfl rfl rfl rfl (r_move rfl (ev_t rfl)) ?_
                     first | refine WL.val rfl rfl rfl rfl (r_addN rfl (ev_t rfl) ev_c (by simp only [inK]; omega)) ?_ | refine WL.val rfl rfl rfl rfl (r_add rfl (ev_t rfl) ev_c) ?_
                     refine WL.val rfl rfl rfl rfl (r_assign rfl (ev_t rfl)) ?_
                     refine WL.nil ?_
                     refine WX.keep [(0, _), (3, _), (4, _), (5, _), (6, _), (7, _), (8, _), (9, _)] ⟨rfl, rfl, rfl, rfl, rfl, rfl, rfl, rfl, trivial⟩ ?_
                     refine WX.meet [(0, _), (3, _), (4, _), (5, _), (6, _), (7, _), (8, _), (9, _)] ⟨rfl, rfl, rfl, rfl, rfl, rfl, rfl, rfl, trivial⟩ ?_
                     refine ⟨tt.length - (i + 1), by omega, i + 1, m + 2, _, _, _, ps ++ [(X, Y)], r2, σ2, D2, xs2, _, T2, by omega, rfl, by omega, hU, by omega, by simp [hpl], fun p hp => ?_, hrun2, hrt, htt, hol, hys2, hI2, hJ, fun k hk => ?_, fun k hk => ?_, by simp⟩
                     · rcases List.mem_append.1 hp with hp | hp
                       · exact hpv p hp
                       · simp at hp; subst hp; exact ⟨hvX, hvY⟩
                     · rcases hk with hk | hk
                       · have := hGx k hk; omega
                       · omega
                     · have h9 := hT2 k hk
                       refine ⟨h9.1, by omega, fun h => ?_⟩
                       rcases h with h | h
                       · exact h9.2.2 h
                       · omega
          · try (exfalso; first | (simp at hc9; done) | (simp only [decide_eq_true_eq, decide_eq_false_iff_not, Bool.not_eq_true', Bool.not_eq_false', Bool.not_eq_true, Bool.not_eq_false] at hc9; omega) | omega)
            all_goals
             try simp only [decide_eq_true_eq, decide_eq_false_iff_not, Bool.not_eq_true', Bool.not_eq_false', Bool.not_eq_true, Bool.not_eq_false, Option.isNone_none, Option.isNone_some, Option.isSome_none, Option.isSome_some, ne_eq, Decidable.not_not] at hc9
             obtain rfl : i = tt.length := by omega
             have hmn : m ≤ 10 := by omega
             obtain ⟨n, hn⟩ : ∃ n, n = tt.length := ⟨_, rfl⟩
             rw [← hn] at hpl hm hi htl5 ⊢
             replace hJ := hJ.nilF (F' := T)
             refine WC.exit ?_
             refine WX.thenExit ?_
             refine WX.thenExit ?_
             refine WX.blockHere ?_
             refine WX.next ?_
             refine WC.seq ?_
             refine WC.seq ?_
             obtain ⟨SL, hSL⟩ : ∃ SL, SL = wA.heap.size := ⟨_, rfl⟩
             refine WC.region ?_
             refine WL.val rfl rfl rfl rfl (r_move rfl (ev_t rfl)) ?_
             refine WL.val rfl rfl rfl rfl (r_lenSlice (ts := #[]) rfl (ev_t rfl) elem_37) ?_
             first | refine WL.val rfl rfl rfl rfl (r_subN rfl (ev_t rfl) ev_c (by simp only [inK]; omega)) ?_ | refine WL.val rfl rfl rfl rfl (r_sub rfl (ev_t rfl) ev_c) ?_
             refine WL.val rfl rfl rfl rfl (r_assign rfl (ev_t rfl)) ?_
             refine WL.nil ?_
             refine WX.keep [(3, _), (4, _), (5, _), (6, _), (7, _), (8, _), (12, _)] ⟨rfl, rfl, rfl, rfl, rfl, rfl, rfl, trivial⟩ ?_
             refine WX.next ?_
             refine WC.block ?_
             -- loop 2: live [3, 4, 5, 6, 7, 8, 12]
             refine WC.keep [(3, _), (4, _), (5, _), (6, _), (7, _), (8, _), (12, _)] ⟨rfl, rfl, rfl, rfl, rfl, rfl, rfl, trivial⟩ ?_
             refine WC.loop (fun q E wA => ∃ (i : Nat) (s : Bool) (ρ : Sg) (D2 : Dn) (xs2 : List C3), q + i = n ∧ Upd No w wA ∧ B1 ≤ wA.heap.size ∧ SL ≤ wA.heap.size ∧ Run (upto 20) (backT ps i) s ρ D2 ∧   Own wA Gx typ 3 (.slice A m cl) m (ys.flatMap c3) ∧ TVs wA T ys (flat2 ps) ∧ IsS wA T p m1 m2 σ D 100 xs ∧ IsS wA T pu n1 n2 ρ D2 100 xs2 ∧   E = [(3, .pointer (some ⟨p, 0, none⟩)), (4, .pointer (some ⟨pu, 0, none⟩)), (5, .bool r), (6, .bool s), (7, .slice A m cl), (8, .slice none 0 0), (12, .int .i64 ((q : Int) - 1))]) (n) ?_ ?_
             · exact ⟨0, true, [], [], [], by omega, hU, by omega, by omega, .nil, hol, hys, hI, hJ, rfl⟩
             · clear hU hol hys hI hJ
               rintro j E wC ⟨i2, s, ρ, D2, xs2, hji, hU, hws, hsl, hrun2, hol, hys, hI, hJ, rfl⟩
               refine WC.seq ?_
               refine WC.seq ?_
               refine WC.region ?_
               refine WL.val rfl rfl rfl rfl (r_move rfl (ev_t rfl)) ?_
               refine WL.val rfl rfl rfl rfl (r_geq rfl (ev_t rfl) ev_c) ?_
               refine WL.nil ?_
               refine WX.keep [(3, _), (4, _), (5, _), (6, _), (7, _), (8, _), (12, _), (75, _)] ⟨rfl, rfl, rfl, rfl, rfl, rfl, rfl, rfl, trivial⟩ ?_
               refine WX.next ?_
               refine WC.cond rfl (ev_t rfl) (fun hc18 => ?_) (fun hc18 => ?_)
               · try (exfalso; first | (simp at hc18; done) | (simp only [decide_eq_true_eq, decide_eq_false_iff_not, Bool.not_eq_true', Bool.not_eq_false', Bool.not_eq_true, Bool.not_eq_false] at hc18; omega) | omega)
                 all_goals
                  try simp only [decide_eq_true_eq, decide_eq_false_iff_not, Bool.not_eq_true', Bool.not_eq_false', Bool.not_eq_true, Bool.not_eq_false, Option.isNone_none, Option.isNone_some, Option.isSome_none, Option.isSome_some, ne_eq, Decidable.not_not] at hc18
                  obtain ⟨j', rfl⟩ : ∃ j', j = j' + 1 := ⟨j - 1, by omega⟩
                  have hjp : j' < ps.length := by omega
                  have hpj : ps[j']? = some ps[j'] := List.getElem?_eq_getElem hjp
                  have hbk := backT_succ (ps := ps) (i := i2) (j := j') (by omega) (by omega) hpj
                  have hvp := hpv _ (List.mem_of_getElem? hpj)
                  obtain ⟨hfa, hfb⟩ := flat2_get hpj
                  generalize ps[j'] = pj at *
                  obtain ⟨P1, P2⟩ := pj
                  rw [show (((j' + 1 : Nat) : Int) - 1) = ((j' : Nat) : Int) by omega]
                  have hrx := hol.rd (by omega)
                  obtain ⟨bx, offx, rfl, _⟩ := hrx.open (by omega)
                  obtain ⟨⟨a1, a2, a3⟩, hxa, hta⟩ := hys.get hfa
                  obtain ⟨⟨b1, b2, b3⟩, hxb, htb⟩ := hys.get hfb
                  refine WC.skip ?_
                  refine WX.next ?_
                  refine WC.seq ?_
                  refine WC.block ?_
                  refine WC.draws' (fun u0_ u1_ => Upd (Mut pu n1 n2) u0_ u1_) (fun j => [0, 0, 0, 0, 0, 0, 0, 0, 0, 0, 0, 0, 0, 1, 2, 0, 0].getD j 0) (.calm 0 (.calm 1 (.calm 2 (.calm 3 (.calm 4 (.calm 5 (.calm 6 (.calm 7 (.calm 9 (.calm 10 (.calm 11 (.calm 12 (.held 8 (.one 13 (.one 14 (.calm 15 (.calm 16 (.done)))))))))))))))))) mixed (by kernel_rfl) (by repeat (first | with_reducible exact Deaf.body | with_reducible apply Deaf.then | with_reducible apply Deaf.block)) ?_
                  intro w17 hu17
                  have hz17 := congrArg Array.size hu17.2.2.2
                  replace hu17 := Upd.of_draw hu17
                  have hs17 := hu17.size
                  replace hU := hU.trans hu17 (by first | exact (fun _ _ h => h) | exact (fun _ _ h => h.elim) | (intro k hl hk; (try simp only [At, New, Grow, From, No] at hk ⊢); omega) | (intro k hl hk; first | (have := hMut k hk; omega) | (have := hMuu k hk; omega) | (have := hGx k hk; omega) | (have := hGx2 k hk; omega) | (have := hGy k hk; omega)))
                  replace hol := hol.upd hu17 (fun k hk hl hS => by first | exact (show False from hS).elim | (simp only [At] at hS; have := hGx k hk; omega) | (have := hGx k hk; have := hMut k hS; omega) | (have := hGx k hk; have := hMuu k hS; omega))
                  replace hys := hys.upd hu17 (fun k hk hl hS => by first | exact (show False from hS).elim | (simp only [At] at hS; have := hT k hk; omega) | (simp only [At] at hS; have := hT2 k hk; omega) | (simp only [At] at hS; omega) | exact (hT k hk).2.2 hS | exact (hT2 k hk).2.2 hS | (have := hT k hk; have := hMut k hS; omega) | (have := hT k hk; have := hMuu k hS; omega) | (have := hT2 k hk; have := hMut k hS; omega))
                  replace hI := hI.upd hu17 (fun k hk hl hS => by first | exact (show False from hS).elim | (simp only [At] at hS; subst hS; rcases hk with hk | hk <;> first | exact hk.elim | (have := hMut _ hk; omega) | (have := hMuu _ hk; omega) | (have := hT _ hk; omega) | (have := hT2 _ hk; omega)) | (rcases hk with hk | hk <;> first | exact hk.elim | (have := hMut _ hk; have := hMuu _ hS; omega) | (have := hMuu _ hk; have := hMut _ hS; omega) | (have := hMut _ hk; have := hGx _ hS; omega) | (have := hMuu _ hk; have := hGx _ hS; omega) | (have := hMut _ hk; have := hGy _ hS; omega) | (have := hMuu _ hk; have := hGy _ hS; omega) | exact (hT _ hk).2.2 hS | exact (hT2 _ hk).2.2 hS | (have := hT _ hk; have := hMut _ hS; omega) | (have := hT _ hk; have := hMuu _ hS; omega) | (have := hT2 _ hk; have := hMut _ hS; omega)))
                  replace hJ := hJ.upd hu17 (fun k hk hl hS => by first | exact (show False from hS).elim | (simp only [At] at hS; subst hS; rcases hk with hk | hk <;> first | exact hk.elim | (have := hMut _ hk; omega) | (have := hMuu _ hk; omega) | (have := hT _ hk; omega) | (have := hT2 _ hk; omega)) | (rcases hk with hk | hk <;> first | exact hk.elim | (have := hMut _ hk; have := hMuu _ hS; omega) | (have := hMuu _ hk; have := hMut _ hS; omega) | (have := hMut _ hk; have := hGx _ hS; omega) | (have := hMuu _ hk; have := hGx _ hS; omega) | (have := hMut _ hk; have := hGy _ hS; omega) | (have := hMuu _ hk; have := hGy _ hS; omega) | exact (hT _ hk).2.2 hS | exact (hT2 _ hk).2.2 hS | (have := hT _ hk; have := hMut _ hS; omega) | (have := hT _ hk; have := hMuu _ hS; omega) | (have := hT2 _ hk; have := hMut _ hS; omega)))
                  replace hrx := hrx.upd hu17 (fun k hk hl hS => by first | exact (show False from hS).elim | (simp only [At] at hS; have := hGx k hk; omega) | (have := hGx k hk; have := hMut k hS; omega) | (have := hGx k hk; have := hMuu k hS; omega))
                  replace hta := hta.upd hu17 (fun k hk hl hS => by first | exact (show False from hS).elim | (simp only [At] at hS; have := hT k hk; omega) | (simp only [At] at hS; have := hT2 k hk; omega) | (simp only [At] at hS; omega) | exact (hT k hk).2.2 hS | exact (hT2 k hk).2.2 hS | (have := hT k hk; have := hMut k hS; omega) | (have := hT k hk; have := hMuu k hS; omega) | (have := hT2 k hk; have := hMut k hS; omega))
                  replace htb := htb.upd hu17 (fun k hk hl hS => by first | exact (show False from hS).elim | (simp only [At] at hS; have := hT k hk; omega) | (simp only [At] at hS; have := hT2 k hk; omega) | (simp only [At] at hS; omega) | exact (hT k hk).2.2 hS | exact (hT2 k hk).2.2 hS | (have := hT k hk; have := hMut k hS; omega) | (have := hT k hk; have := hMuu k hS; omega) | (have := hT2 k hk; have := hMut k hS; omega))
                  have hS20 := Upd.refl (Mut pu n1 n2) w17
                  refine WN.calm _ rfl rfl rfl rfl rfl (fun _ => r_move rfl (ev_t rfl)) ?_
                  refine WN.calm _ rfl rfl rfl rfl rfl (fun _ => r_move rfl (ev_t rfl)) ?_
                  refine WN.cases 79 rfl (fun hb20_1 => ?_) (fun hb20_1 => ?_)
                  · try (exfalso; first | (simp at hb20_1; done) | (simp only [decide_eq_true_eq, decide_eq_false_iff_not, Bool.not_eq_true', Bool.not_eq_false', Bool.not_eq_true, Bool.not_eq_false] at hb20_1; omega) | omega)
                    all_goals
                     try simp only [decide_eq_true_eq, decide_eq_false_iff_not, Bool.not_eq_true', Bool.not_eq_false', Bool.not_eq_true, Bool.not_eq_false, Option.isNone_none, Option.isNone_some, Option.isSome_none, Option.isSome_some, ne_eq, Decidable.not_not] at hb20_1
                     obtain rfl : s = true := by simp_all
                     obtain ⟨s2, ρ2, E2, N, hun, hrun3⟩ := hrun2.snoc (by decide) hvp.2 hvp.1
                     refine WN.calm _ rfl rfl rfl rfl rfl (fun _ => r_move rfl (ev_t rfl)) ?_
                     refine WN.calm _ rfl rfl rfl rfl rfl (fun _ => r_move rfl (ev_t rfl)) ?_
                     refine WN.calm _ rfl rfl rfl rfl rfl (fun _ => r_move rfl (ev_t rfl)) ?_
                     first | refine WN.calm _ rfl rfl rfl rfl rfl (fun _ => r_mulN rfl ev_c (ev_t rfl) (by simp only [inK]; omega)) ?_ | refine WN.calm _ rfl rfl rfl rfl rfl (fun _ => r_mul rfl ev_c (ev_t rfl)) ?_
                     first | refine WN.calm _ rfl rfl rfl rfl rfl (fun _ => r_addN rfl (ev_t rfl) ev_c (by simp only [inK]; omega)) ?_ | refine WN.calm _ rfl rfl rfl rfl rfl (fun _ => r_add rfl (ev_t rfl) ev_c) ?_
                     refine WN.calm _ rfl rfl rfl rfl rfl (fun _ => r_indexAddr rfl (ev_t rfl) (ev_t rfl) elem_26 size_28 (by omega) (by omega)) ?_
                     refine WN.calm _ rfl rfl rfl rfl rfl (fun _ => r_move rfl (ev_t rfl)) ?_
                     refine WN.calm _ rfl rfl rfl rfl rfl (fun _ => r_move rfl (ev_t rfl)) ?_
                     first | refine WN.calm _ rfl rfl rfl rfl rfl (fun _ => r_mulN rfl ev_c (ev_t rfl) (by simp only [inK]; omega)) ?_ | refine WN.calm _ rfl rfl rfl rfl rfl (fun _ => r_mul rfl ev_c (ev_t rfl)) ?_
                     refine WN.calm _ rfl rfl rfl rfl rfl (fun _ => r_indexAddr rfl (ev_t rfl) (ev_t rfl) elem_26 size_28 (by omega) (by omega)) ?_
                     first | refine WN.held _ rfl rfl rfl rfl rfl hS20 (fun w' hS => r_loadAgg (vs := [_, _, _]) rfl (ev_t rfl) agg_28 size_28 (kid_cells (hrx.upd hS (fun k hk hl hS' => by have := hGx k hk; have := hMuu k hS'; omega)) hxb (by omega))) ?_ | refine WN.held _ rfl rfl rfl rfl rfl hS20 (fun w' hS => r_loadAgg (vs := [_, _, _]) rfl (ev_t rfl) agg_28 size_28 (kid_cells hrx hxb (by omega))) ?_
                     first | refine WN.step _ rfl (SO.val rfl rfl rfl rfl (r_loadAgg (vs := [_, _, _]) rfl (ev_t rfl) agg_28 size_28 (kid_cells (hrx.upd hS (fun k hk hl hS' => by have := hGx k hk; have := hMuu k hS'; omega)) hxa (by omega))) ?_) | refine WN.step _ rfl (SO.val rfl rfl rfl rfl (r_loadAgg (vs := [_, _, _]) rfl (ev_t rfl) agg_28 size_28 (kid_cells hrx hxa (by omega))) ?_)
                     refine ⟨hS20, ?_⟩
                     refine WN.step _ rfl (SO.call (unify_ok (fun k hk hM => by have := hMuu k hM; have := hT k hk; omega) N _ _ _ _ _ _ _ _ _ _ _ _ s2 ρ2 E2 hun (fun k hk => by have := hT k hk; omega) hJ htb hta) rfl body_12 ⟨(ev_t rfl), (ev_t rfl), (ev_t rfl), trivial⟩ rfl rfl rfl rfl ?_)
                     rintro v w18 ⟨rfl, ⟨xs3, hJ9⟩, hu18⟩
                     have hs18 := hu18.size
                     try replace hS20 := Upd.trans hS20 hu18 (by intro k hl hk; first | exact (show False from hk).elim | exact hk | (simp only [At, New, Grow, From] at hk; omega))
                     replace hU := hU.trans hu18 (by first | exact (fun _ _ h => h) | exact (fun _ _ h => h.elim) | (intro k hl hk; (try simp only [At, New, Grow, From, No] at hk ⊢); omega) | (intro k hl hk; first | (have := hMut k hk; omega) | (have := hMuu k hk; omega) | (have := hGx k hk; omega) | (have := hGx2 k hk; omega) | (have := hGy k hk; omega)))
                     replace hol := hol.upd hu18 (fun k hk hl hS => by first | exact (show False from hS).elim | (simp only [At] at hS; have := hGx k hk; omega) | (have := hGx k hk; have := hMut k hS; omega) | (have := hGx k hk; have := hMuu k hS; omega))
                     replace hys := hys.upd hu18 (fun k hk hl hS => by first | exact (show False from hS).elim | (simp only [At] at hS; have := hT k hk; omega) | (simp only [At] at hS; have := hT2 k hk; omega) | (simp only [At] at hS; omega) | exact (hT k hk).2.2 hS | exact (hT2 k hk).2.2 hS | (have := hT k hk; have := hMut k hS; omega) | (have := hT k hk; have := hMuu k hS; omega) | (have := hT2 k hk; have := hMut k hS; omega))
                     replace hI := hI.upd hu18 (fun k hk hl hS => by first | exact (show False from hS).elim | (simp only [At] at hS; subst hS; rcases hk with hk | hk <;> first | exact hk.elim | (have := hMut _ hk; omega) | (have := hMuu _ hk; omega) | (have := hT _ hk; omega) | (have := hT2 _ hk; omega)) | (rcases hk with hk | hk <;> first | exact hk.elim | (have := hMut _ hk; have := hMuu _ hS; omega) | (have := hMuu _ hk; have := hMut _ hS; omega) | (have := hMut _ hk; have := hGx _ hS; omega) | (have := hMuu _ hk; have := hGx _ hS; omega) | (have := hMut _ hk; have := hGy _ hS; omega) | (have := hMuu _ hk; have := hGy _ hS; omega) | exact (hT _ hk).2.2 hS | exact (hT2 _ hk).2.2 hS | (have := hT _ hk; have := hMut _ hS; omega) | (have := hT _ hk; have := hMuu _ hS; omega) | (have := hT2 _ hk; have := hMut _ hS; omega)))
                     replace hrx := hrx.upd hu18 (fun k hk hl hS => by first | exact (show False from hS).elim | (simp only [At] at hS; have := hGx k hk; omega) | (have := hGx k hk; have := hMut k hS; omega) | (have := hGx k hk; have := hMuu k hS; omega))
                     replace hta := hta.upd hu18 (fun k hk hl hS => by first | exact (show False from hS).elim | (simp only [At] at hS; have := hT k hk; omega) | (simp only [At] at hS; have := hT2 k hk; omega) | (simp only [At] at hS; omega) | exact (hT k hk).2.2 hS | exact (hT2 k hk).2.2 hS | (have := hT k hk; have := hMut k hS; omega) | (have := hT k hk; have := hMuu k hS; omega) | (have := hT2 k hk; have := hMut k hS; omega))
                     replace htb := htb.upd hu18 (fun k hk hl hS => by first | exact (show False from hS).elim | (simp only [At] at hS; have := hT k hk; omega) | (simp only [At] at hS; have := hT2 k hk; omega) | (simp only [At] at hS; omega) | exact (hT k hk).2.2 hS | exact (hT2 k hk).2.2 hS | (have := hT k hk; have := hMut k hS; omega) | (have := hT k hk; have := hMuu k hS; omega) | (have := hT2 k hk; have := hMut k hS; omega))
                     have hJ := hJ9
                     refine ⟨trivial, ?_⟩
                     refine WN.calm _ rfl rfl rfl rfl rfl (fun _ => r_pickT rfl (ev_t rfl) (ev_t rfl)) ?_
                     refine WN.calm _ rfl rfl rfl rfl rfl (fun _ => r_assign rfl (ev_t rfl)) ?_
                     refine WN.done ?_
                     refine WX.keep [(3, _), (4, _), (5, _), (6, _), (7, _), (8, _), (12, _)] ⟨rfl, rfl, rfl, rfl, rfl, rfl, rfl, trivial⟩ ?_
                     refine WX.blockNormal ?_
                     refine WX.next ?_
                     refine WC.region ?_
                     refine WL.val rfl rfl rfl rfl (r_move rfl (ev_t rfl)) ?_
                     first | refine WL.val rfl rfl rfl rfl (r_subN rfl (ev_t rfl) ev_c (by simp only [inK]; omega)) ?_ | refine WL.val rfl rfl rfl rfl (r_sub rfl (ev_t rfl) ev_c) ?_
                     refine WL.val rfl rfl rfl rfl (r_assign rfl (ev_t rfl)) ?_
                     refine WL.nil ?_
                     refine WX.keep [(3, _), (4, _), (5, _), (6, _), (7, _), (8, _), (12, _)] ⟨rfl, rfl, rfl, rfl, rfl, rfl, rfl, trivial⟩ ?_
                     refine WX.meet [(3, _), (4, _), (5, _), (6, _), (7, _), (8, _), (12, _)] ⟨rfl, rfl, rfl, rfl, rfl, rfl, rfl, trivial⟩ ?_
                     first
                       | exact ⟨j', by omega, i2 + 1, s2, ρ2, E2, xs3, by omega, hU, by omega, by omega, hbk ▸ hrun3, hol, hys, hI, hJ, by simp⟩
                       | (obtain rfl : s = false := by simp_all
                          exact ⟨j', by omega, i2 + 1, false, ρ, D2, xs2, by omega, hU, by omega, by omega, hbk ▸ hrun2.no, hol, hys, hI, hJ, by simp⟩)
                  · try (exfalso; first | (simp at hb20_1; done) | (simp only [decide_eq_true_eq, decide_eq_false_iff_not, Bool.not_eq_true', Bool.not_eq_false', Bool.not_eq_true, Bool.not_eq_false] at hb20_1; omega) | omega)
                    all_goals
                     try simp only [decide_eq_true_eq, decide_eq_false_iff_not, Bool.not_eq_true', Bool.not_eq_false', Bool.not_eq_true, Bool.not_eq_false, Option.isNone_none, Option.isNone_some, Option.isSome_none, Option.isSome_some, ne_eq, Decidable.not_not] at hb20_1
                     refine WN.skip _ rfl rfl rfl rfl ?_
                     refine WN.skip _ rfl rfl rfl rfl ?_
                     refine WN.skip _ rfl rfl rfl rfl ?_
                     refine WN.skip _ rfl rfl rfl rfl ?_
                     refine WN.skip _ rfl rfl rfl rfl ?_
                     refine WN.skip _ rfl rfl rfl rfl ?_
                     refine WN.skip _ rfl rfl rfl rfl ?_
                     refine WN.skip _ rfl rfl rfl rfl ?_
                     refine WN.skip _ rfl rfl rfl rfl ?_
                     refine WN.skip _ rfl rfl rfl rfl ?_
                     refine WN.heldSkip _ rfl rfl rfl rfl hS20 ?_
                     refine WN.step _ rfl (SO.skip rfl rfl rfl ?_)
                     refine ⟨hS20, ?_⟩
                     refine WN.step _ rfl (SO.skip rfl rfl rfl ?_)
                     refine ⟨trivial, ?_⟩
                     refine WN.calm _ rfl rfl rfl rfl rfl (fun _ => r_pickF rfl (ev_t rfl) ev_c) ?_
                     refine WN.calm _ rfl rfl rfl rfl rfl (fun _ => r_assign rfl (ev_t rfl)) ?_
                     refine WN.done ?_
                     refine WX.keep [(3, _), (4, _), (5, _), (6, _), (7, _), (8, _), (12, _)] ⟨rfl, rfl, rfl, rfl, rfl, rfl, rfl, trivial⟩ ?_
                     refine WX.blockNormal ?_
                     refine WX.next ?_
                     refine WC.region ?_
                     refine WL.val rfl rfl rfl rfl (r_move rfl (ev_t rfl)) ?_
                     first | refine WL.val rfl rfl rfl rfl (r_subN rfl (ev_t rfl) ev_c (by simp only [inK]; omega)) ?_ | refine WL.val rfl rfl rfl rfl (r_sub rfl (ev_t rfl) ev_c) ?_
                     refine WL.val rfl rfl rfl rfl (r_assign rfl (ev_t rfl)) ?_
                     refine WL.nil ?_
                     refine WX.keep [(3, _), (4, _), (5, _), (6, _), (7, _), (8, _), (12, _)] ⟨rfl, rfl, rfl, rfl, rfl, rfl, rfl, trivial⟩ ?_
                     refine WX.meet [(3, _), (4, _), (5, _), (6, _), (7, _), (8, _), (12, _)] ⟨rfl, rfl, rfl, rfl, rfl, rfl, rfl, trivial⟩ ?_
                     first
                       | exact ⟨j', by omega, i2 + 1, s2, ρ2, E2, xs3, by omega, hU, by omega, by omega, hbk ▸ hrun3, hol, hys, hI, hJ, by simp⟩
                       | (obtain rfl : s = false := by simp_all
                          exact ⟨j', by omega, i2 + 1, false, ρ, D2, xs2, by omega, hU, by omega, by omega, hbk ▸ hrun2.no, hol, hys, hI, hJ, by simp⟩)
               · try (exfalso; first | (simp at hc18; done) | (simp only [decide_eq_true_eq, decide_eq_false_iff_not, Bool.not_eq_true', Bool.not_eq_false', Bool.not_eq_true, Bool.not_eq_false] at hc18; omega) | omega)
                 all_goals
                  try simp only [decide_eq_true_eq, decide_eq_false_iff_not, Bool.not_eq_true', Bool.not_eq_false', Bool.not_eq_true, Bool.not_eq_false, Option.isNone_none, Option.isNone_some, Option.isSome_none, Option.isSome_some, ne_eq, Decidable.not_not] at hc18
                  obtain rfl : j = 0 := by omega
                  obtain rfl : i2 = n := by omega
                  obtain ⟨hrs, hcan⟩ := hrun.either hrun2 (fun p hp => by rw [← hpl]; exact (backT_all _).2 hp) (fun p hp => by rw [← hpl] at hp; exact (backT_all _).1 hp)
                  obtain rfl := hrs
                  refine WC.exit ?_
                  refine WX.thenExit ?_
                  refine WX.thenExit ?_
                  refine WX.blockHere ?_
                  refine WX.next ?_
                  refine WC.seq ?_
                  refine WC.seq ?_
                  refine WC.region ?_
                  refine WL.val rfl rfl rfl rfl (r_move rfl (ev_t rfl)) ?_
                  refine WL.val rfl rfl rfl rfl (r_move rfl (ev_t rfl)) ?_
                  refine WL.val rfl rfl rfl rfl (r_neqBool rfl (ev_t rfl) (ev_t rfl) bool_4) ?_
                  refine WL.val rfl rfl rfl rfl (r_move rfl (ev_t rfl)) ?_
                  refine WL.cases 97 rfl (fun hb21_3 => ?_) (fun hb21_3 => ?_)
                  · try (exfalso; first | (simp at hb21_3; done) | (simp only [decide_eq_true_eq, decide_eq_false_iff_not, Bool.not_eq_true', Bool.not_eq_false', Bool.not_eq_true, Bool.not_eq_false] at hb21_3; omega) | omega)
                    all_goals
                     try simp only [decide_eq_true_eq, decide_eq_false_iff_not, Bool.not_eq_true', Bool.not_eq_false', Bool.not_eq_true, Bool.not_eq_false, Option.isNone_none, Option.isNone_some, Option.isSome_none, Option.isSome_some, ne_eq, Decidable.not_not] at hb21_3
                     refine WL.skip rfl rfl rfl ?_
                     refine WL.skip rfl rfl rfl ?_
                     refine WL.val rfl rfl rfl rfl (r_pickT rfl (ev_t rfl) ev_c) ?_
                     refine WL.nil ?_
                     refine WX.keep [(3, _), (4, _), (5, _), (6, _), (7, _), (8, _), (100, _)] ⟨rfl, rfl, rfl, rfl, rfl, rfl, rfl, trivial⟩ ?_
                     refine WX.next ?_
                     refine WC.cond_true rfl (ev_t rfl) ?_
                     refine WC.seq ?_
                     refine WC.region ?_
                     refine WL.val rfl rfl rfl rfl (r_move rfl (ev_t rfl)) ?_
                     refine WL.val rfl rfl rfl rfl (r_move rfl (ev_t rfl)) ?_
                     refine WL.val rfl rfl rfl rfl (r_eqlBool rfl (ev_t rfl) (ev_t rfl) bool_4) ?_
                     refine WL.val rfl rfl rfl rfl (r_assign rfl (ev_t rfl)) ?_
                     refine WL.nil ?_
                     refine WX.keep [(2, _)] ⟨rfl, trivial⟩ ?_
                     refine WX.next ?_
                     refine WC.ret ?_
                     refine WX.thenRet ?_
                     refine WX.retE1 rfl rfl ?_
                     exact ⟨by simp, hU⟩
                  · try (exfalso; first | (simp at hb21_3; done) | (simp only [decide_eq_true_eq, decide_eq_false_iff_not, Bool.not_eq_true', Bool.not_eq_false', Bool.not_eq_true, Bool.not_eq_false] at hb21_3; omega) | omega)
                    all_goals
                     try simp only [decide_eq_true_eq, decide_eq_false_iff_not, Bool.not_eq_true', Bool.not_eq_false', Bool.not_eq_true, Bool.not_eq_false, Option.isNone_none, Option.isNone_some, Option.isSome_none, Option.isSome_some, ne_eq, Decidable.not_not] at hb21_3
                     refine WL.val rfl rfl rfl rfl (r_move rfl (ev_t rfl)) ?_
                     refine WL.val rfl rfl rfl rfl (r_not rfl (ev_t rfl)) ?_
                     refine WL.val rfl rfl rfl rfl (r_pickF rfl (ev_t rfl) (ev_t rfl)) ?_
                     refine WL.nil ?_
                     refine WX.keep [(3, _), (4, _), (5, _), (6, _), (7, _), (8, _), (100, _)] ⟨rfl, rfl, rfl, rfl, rfl, rfl, rfl, trivial⟩ ?_
                     refine WX.next ?_
                     refine WC.cond rfl (ev_t rfl) (fun hc21 => ?_) (fun hc21 => ?_)
                     · try (exfalso; first | (simp at hc21; done) | (simp only [decide_eq_true_eq, decide_eq_false_iff_not, Bool.not_eq_true', Bool.not_eq_false', Bool.not_eq_true, Bool.not_eq_false] at hc21; omega) | omega)
                       all_goals
                        try simp only [decide_eq_true_eq, decide_eq_false_iff_not, Bool.not_eq_true', Bool.not_eq_false', Bool.not_eq_true, Bool.not_eq_false, Option.isNone_none, Option.isNone_some, Option.isSome_none, Option.isSome_some, ne_eq, Decidable.not_not] at hc21
                        refine WC.seq ?_
                        refine WC.region ?_
                        refine WL.val rfl rfl rfl rfl (r_move rfl (ev_t rfl)) ?_
                        refine WL.val rfl rfl rfl rfl (r_move rfl (ev_t rfl)) ?_
                        refine WL.val rfl rfl rfl rfl (r_eqlBool rfl (ev_t rfl) (ev_t rfl) bool_4) ?_
                        refine WL.val rfl rfl rfl rfl (r_assign rfl (ev_t rfl)) ?_
                        refine WL.nil ?_
                        refine WX.keep [(2, _)] ⟨rfl, trivial⟩ ?_
                        refine WX.next ?_
                        refine WC.ret ?_
                        refine WX.thenRet ?_
                        refine WX.retE1 rfl rfl ?_
                        exact ⟨by simp, hU⟩
                     · try (exfalso; first | (simp at hc21; done) | (simp only [decide_eq_true_eq, decide_eq_false_iff_not, Bool.not_eq_true', Bool.not_eq_false', Bool.not_eq_true, Bool.not_eq_false] at hc21; omega) | omega)
                       all_goals
                        try simp only [decide_eq_true_eq, decide_eq_false_iff_not, Bool.not_eq_true', Bool.not_eq_false', Bool.not_eq_true, Bool.not_eq_false, Option.isNone_none, Option.isNone_some, Option.isSome_none, Option.isSome_some, ne_eq, Decidable.not_not] at hc21
                        obtain rfl : r = true := by simp_all
                        obtain ⟨hgs, hfs, _⟩ := hrun.facts
                        obtain ⟨hgu, hfu, _⟩ := hrun2.facts
                        have hfl := flat2_len ps
                        have hml : m = (flat2 ps).length := by omega
                        refine WC.skip ?_
                        refine WX.next ?_
                        refine WC.seq ?_
                        refine WC.seq ?_
                        refine WC.region ?_
                        refine WL.val rfl rfl rfl rfl (r_assign rfl ev_c) ?_
                        refine WL.nil ?_
                        refine WX.keep [(3, _), (4, _), (7, _), (8, _), (13, _)] ⟨rfl, rfl, rfl, rfl, rfl, trivial⟩ ?_
                        refine WX.next ?_
                        refine WC.block ?_
                        -- loop 3: live [3, 4, 7, 8, 13]
                        refine WC.keep [(3, _), (4, _), (7, _), (8, _), (13, _)] ⟨rfl, rfl, rfl, rfl, rfl, trivial⟩ ?_
                        refine WC.loop (fun q E wA => ∃ (i : Nat), i ≤ m ∧ q = m - i ∧ Upd No w wA ∧ SL ≤ wA.heap.size ∧ (∀ (k : Nat) t, (flat2 ps)[k]? = some t → k < i → sz (ext (th σ) t) < 1000) ∧   Own wA Gx typ 3 (.slice A m cl) m (ys.flatMap c3) ∧ TVs wA T ys (flat2 ps) ∧ IsS wA T p m1 m2 σ D 100 xs ∧ IsS wA T pu n1 n2 ρ D2 100 xs2 ∧   E = [(3, .pointer (some ⟨p, 0, none⟩)), (4, .pointer (some ⟨pu, 0, none⟩)), (7, .slice A m cl), (8, .slice none 0 0), (13, .int .i64 (i : Int))]) (m) ?_ ?_
                        · exact ⟨0, by omega, by omega, hU, by omega, fun k t h hk => by omega, hol, hys, hI, hJ, rfl⟩
                        · clear hU hol hys hI hJ
                          rintro q E wD ⟨i, hi, rfl, hU, hsl, hszs, hol, hys, hI, hJ, rfl⟩
                          refine WC.seq ?_
                          refine WC.seq ?_
                          refine WC.region ?_
                          refine WL.val rfl rfl rfl rfl (r_move rfl (ev_t rfl)) ?_
                          refine WL.val rfl rfl rfl rfl (r_move rfl (ev_t rfl)) ?_
                          refine WL.val rfl rfl rfl rfl (r_lenSlice (ts := #[]) rfl (ev_t rfl) elem_26) ?_
                          refine WL.val rfl rfl rfl rfl (r_lss rfl (ev_t rfl) (ev_t rfl)) ?_
                          refine WL.nil ?_
                          refine WX.keep [(3, _), (4, _), (7, _), (8, _), (13, _), (107, _)] ⟨rfl, rfl, rfl, rfl, rfl, rfl, trivial⟩ ?_
                          refine WX.next ?_
                          refine WC.cond rfl (ev_t rfl) (fun hc24 => ?_) (fun hc24 => ?_)
                          · try (exfalso; first | (simp at hc24; done) | (simp only [decide_eq_true_eq, decide_eq_false_iff_not, Bool.not_eq_true', Bool.not_eq_false', Bool.not_eq_true, Bool.not_eq_false] at hc24; omega) | omega)
                            all_goals
                             try simp only [decide_eq_true_eq, decide_eq_false_iff_not, Bool.not_eq_true', Bool.not_eq_false', Bool.not_eq_true, Bool.not_eq_false, Option.isNone_none, Option.isNone_some, Option.isSome_none, Option.isSome_some, ne_eq, Decidable.not_not] at hc24
                             have hil : i < (flat2 ps).length := by omega
                             have hfa : (flat2 ps)[i]? = some (flat2 ps)[i] := List.getElem?_eq_getElem hil
                             generalize (flat2 ps)[i] = ta at *
                             have hrx := hol.rd (by omega)
                             obtain ⟨bx, offx, rfl, _⟩ := hrx.open (by omega)
                             obtain ⟨⟨a1, a2, a3⟩, hxa, hta⟩ := hys.get hfa
                             refine WC.skip ?_
                             refine WX.next ?_
                             refine WC.seq ?_
                             refine WC.block ?_
                             refine WC.seq ?_
                             refine WC.region ?_
                             refine WL.val rfl rfl rfl rfl (r_move rfl (ev_t rfl)) ?_
                             refine WL.val rfl rfl rfl rfl (r_move rfl (ev_t rfl)) ?_
                             refine WL.val rfl rfl rfl rfl (r_move rfl (ev_t rfl)) ?_
                             refine WL.val rfl rfl rfl rfl (r_indexAddr rfl (ev_t rfl) (ev_t rfl) elem_26 size_28 (by omega) (by omega)) ?_
                             refine WL.val rfl rfl rfl rfl (r_loadAgg (vs := [_, _, _]) rfl (ev_t rfl) agg_28 size_28 (kid_cells hrx hxa rfl)) ?_
                             refine WL.cons (SO.call (tsize_ok hgs.wf _ _ _ _ _ _ ta 1000 (Nat.le_refl _) hI hta (by omega) (by omega)) rfl body_19 ⟨(ev_t rfl), (ev_t rfl), ev_c, trivial⟩ rfl rfl rfl rfl ?_)
                             rintro v w19 ⟨rfl, hu19⟩
                             have hs19 := hu19.size
                             replace hU := hU.trans hu19 (by first | exact (fun _ _ h => h) | exact (fun _ _ h => h.elim) | (intro k hl hk; (try simp only [At, New, Grow, From, No] at hk ⊢); omega) | (intro k hl hk; first | (have := hMut k hk; omega) | (have := hMuu k hk; omega) | (have := hGx k hk; omega) | (have := hGx2 k hk; omega) | (have := hGy k hk; omega)))
                             replace hol := hol.upd hu19 (fun k hk hl hS => by first | exact (show False from hS).elim | (simp only [At] at hS; have := hGx k hk; omega) | (have := hGx k hk; have := hMut k hS; omega) | (have := hGx k hk; have := hMuu k hS; omega))
                             replace hys := hys.upd hu19 (fun k hk hl hS => by first | exact (show False from hS).elim | (simp only [At] at hS; have := hT k hk; omega) | (simp only [At] at hS; have := hT2 k hk; omega) | (simp only [At] at hS; omega) | exact (hT k hk).2.2 hS | exact (hT2 k hk).2.2 hS | (have := hT k hk; have := hMut k hS; omega) | (have := hT k hk; have := hMuu k hS; omega) | (have := hT2 k hk; have := hMut k hS; omega))
                             replace hI := hI.upd hu19 (fun k hk hl hS => by first | exact (show False from hS).elim | (simp only [At] at hS; subst hS; rcases hk with hk | hk <;> first | exact hk.elim | (have := hMut _ hk; omega) | (have := hMuu _ hk; omega) | (have := hT _ hk; omega) | (have := hT2 _ hk; omega)) | (rcases hk with hk | hk <;> first | exact hk.elim | (have := hMut _ hk; have := hMuu _ hS; omega) | (have := hMuu _ hk; have := hMut _ hS; omega) | (have := hMut _ hk; have := hGx _ hS; omega) | (have := hMuu _ hk; have := hGx _ hS; omega) | (have := hMut _ hk; have := hGy _ hS; omega) | (have := hMuu _ hk; have := hGy _ hS; omega) | exact (hT _ hk).2.2 hS | exact (hT2 _ hk).2.2 hS | (have := hT _ hk; have := hMut _ hS; omega) | (have := hT _ hk; have := hMuu _ hS; omega) | (have := hT2 _ hk; have := hMut _ hS; omega)))
                             replace hJ := hJ.upd hu19 (fun k hk hl hS => by first | exact (show False from hS).elim | (simp only [At] at hS; subst hS; rcases hk with hk | hk <;> first | exact hk.elim | (have := hMut _ hk; omega) | (have := hMuu _ hk; omega) | (have := hT _ hk; omega) | (have := hT2 _ hk; omega)) | (rcases hk with hk | hk <;> first | exact hk.elim | (have := hMut _ hk; have := hMuu _ hS; omega) | (have := hMuu _ hk; have := hMut _ hS; omega) | (have := hMut _ hk; have := hGx _ hS; omega) | (have := hMuu _ hk; have := hGx _ hS; omega) | (have := hMut _ hk; have := hGy _ hS; omega) | (have := hMuu _ hk; have := hGy _ hS; omega) | exact (hT _ hk).2.2 hS | exact (hT2 _ hk).2.2 hS | (have := hT _ hk; have := hMut _ hS; omega) | (have := hT _ hk; have := hMuu _ hS; omega) | (have := hT2 _ hk; have := hMut _ hS; omega)))
                             refine WL.val rfl rfl rfl rfl (r_geq rfl (ev_t rfl) ev_c) ?_
                             refine WL.nil ?_
                             refine WX.keep [(3, _), (4, _), (7, _), (8, _), (13, _), (116, _)] ⟨rfl, rfl, rfl, rfl, rfl, rfl, trivial⟩ ?_
                             refine WX.next ?_
                             refine WC.cond rfl (ev_t rfl) (fun hc26 => ?_) (fun hc26 => ?_)
                             · try (exfalso; first | (simp at hc26; done) | (simp only [decide_eq_true_eq, decide_eq_false_iff_not, Bool.not_eq_true', Bool.not_eq_false', Bool.not_eq_true, Bool.not_eq_false] at hc26; omega) | omega)
                               all_goals
                                try simp only [decide_eq_true_eq, decide_eq_false_iff_not, Bool.not_eq_true', Bool.not_eq_false', Bool.not_eq_true, Bool.not_eq_false, Option.isNone_none, Option.isNone_some, Option.isSome_none, Option.isSome_some, ne_eq, Decidable.not_not] at hc26
                                refine WC.seq ?_
                                refine WC.region ?_
                                refine WL.val rfl rfl rfl rfl (r_assign rfl ev_c) ?_
                                refine WL.nil ?_
                                refine WX.keep [(2, _)] ⟨rfl, trivial⟩ ?_
                                refine WX.next ?_
                                refine WC.ret ?_
                                refine WX.blockRet ?_
                                refine WX.thenRet ?_
                                refine WX.thenRet ?_
                                refine WX.blockRet ?_
                                refine WX.thenRet ?_
                                refine WX.retE1 rfl rfl ?_
                                exact ⟨rfl, hU⟩
                             · try (exfalso; first | (simp at hc26; done) | (simp only [decide_eq_true_eq, decide_eq_false_iff_not, Bool.not_eq_true', Bool.not_eq_false', Bool.not_eq_true, Bool.not_eq_false] at hc26; omega) | omega)
                               all_goals
                                try simp only [decide_eq_true_eq, decide_eq_false_iff_not, Bool.not_eq_true', Bool.not_eq_false', Bool.not_eq_true, Bool.not_eq_false, Option.isNone_none, Option.isNone_some, Option.isSome_none, Option.isSome_some, ne_eq, Decidable.not_not] at hc26
                                refine WC.skip ?_
                                refine WX.blockNormal ?_
                                refine WX.next ?_
                                refine WC.region ?_
                                refine WL.val rfl rfl rfl rfl (r_move rfl (ev_t rfl)) ?_
                                first | refine WL.val rfl rfl rfl rfl (r_addN rfl (ev_t rfl) ev_c (by simp only [inK]; omega)) ?_ | refine WL.val rfl rfl rfl rfl (r_add rfl (ev_t rfl) ev_c) ?_
                                refine WL.val rfl rfl rfl rfl (r_assign rfl (ev_t rfl)) ?_
                                refine WL.nil ?_
                                refine WX.keep [(3, _), (4, _), (7, _), (8, _), (13, _)] ⟨rfl, rfl, rfl, rfl, rfl, trivial⟩ ?_
                                refine WX.meet [(3, _), (4, _), (7, _), (8, _), (13, _)] ⟨rfl, rfl, rfl, rfl, rfl, trivial⟩ ?_
                                refine ⟨m - (i + 1), by omega, i + 1, by omega, rfl, hU, by omega, fun k t h hk => ?_, hol, hys, hI, hJ, by simp⟩
                                by_cases hki : k = i
                                · subst hki
                                  rw [h] at hfa
                                  injection hfa with hfa
                                  subst hfa
                                  omega
                                · exact hszs k t h (by omega)
                          · try (exfalso; first | (simp at hc24; done) | (simp only [decide_eq_true_eq, decide_eq_false_iff_not, Bool.not_eq_true', Bool.not_eq_false', Bool.not_eq_true, Bool.not_eq_false] at hc24; omega) | omega)
                            all_goals
                             try simp only [decide_eq_true_eq, decide_eq_false_iff_not, Bool.not_eq_true', Bool.not_eq_false', Bool.not_eq_true, Bool.not_eq_false, Option.isNone_none, Option.isNone_some, Option.isSome_none, Option.isSome_some, ne_eq, Decidable.not_not] at hc24
                             obtain rfl : m = i := by omega
                             have hGx2 : ∀ k, Gx k → B1 ≤ k ∧ k < SL := fun k hk => by have := hGx k hk; omega
                             have hT' : ∀ k, T k → B1 ≤ k ∧ k < SL ∧ ¬ Gx k := fun k hk => by have := hT k hk; exact ⟨this.1, by omega, this.2.2⟩
                             clear hGx hT
                             refine WC.exit ?_
                             refine WX.thenExit ?_
                             refine WX.thenExit ?_
                             refine WX.blockHere ?_
                             refine WX.next ?_
                             refine WC.seq ?_
                             refine WC.seq ?_
                             refine WC.region ?_
                             refine WL.val rfl rfl rfl rfl (r_assign rfl ev_c) ?_
                             refine WL.nil ?_
                             refine WX.keep [(3, _), (4, _), (7, _), (8, _), (14, _)] ⟨rfl, rfl, rfl, rfl, rfl, trivial⟩ ?_
                             refine WX.next ?_
                             refine WC.block ?_
                             -- loop 4: live [3, 4, 7, 8, 14]
                             refine WC.keep [(3, _), (4, _), (7, _), (8, _), (14, _)] ⟨rfl, rfl, rfl, rfl, rfl, trivial⟩ ?_
                             refine WC.loop (fun q E wA => ∃ (i cy : Nat) (Ay : Option Addr) (xa yb : List C3) (Gy T : Nat → Prop), i ≤ m ∧ q = m - i ∧ Upd No w wA ∧ SL ≤ wA.heap.size ∧   Own wA Gx typ 3 (.slice A m cl) m (xa.flatMap c3) ∧ TVs wA T xa (mixT (ext (th σ)) (flat2 ps) i) ∧ Own wA Gy typ 3 (.slice Ay i cy) i (yb.flatMap c3) ∧ TVs wA T yb (((flat2 ps).take i).map (ext (th ρ))) ∧ IsS wA T p m1 m2 σ D 100 xs ∧ IsS wA T pu n1 n2 ρ D2 100 xs2 ∧   (∀ k, Gy k → SL ≤ k ∧ k < wA.heap.size) ∧ (∀ k, T k → B1 ≤ k ∧ k < wA.heap.size ∧ ¬ Gx k ∧ ¬ Gy k) ∧   E = [(3, .pointer (some ⟨p, 0, none⟩)), (4, .pointer (some ⟨pu, 0, none⟩)), (7, .slice A m cl), (8, .slice Ay i cy), (14, .int .i64 (i : Int))]) (m) ?_ ?_
                             · exact ⟨0, 0, none, ys, [], fun _ => False, T, by omega, by omega, hU, by omega, hol, hys, Own.nil _ _ _ _, TVs.nil _ _, hI, hJ, fun k h => h.elim, fun k h => (by have := hT' k h; exact ⟨this.1, by omega, this.2.2, fun h => h⟩), rfl⟩
                             · clear hU hol hys hI hJ hT'
                               rintro q E wE ⟨i, cy, Ay, xa, yb, Gy, T4, hi, rfl, hU, hsl, hol4, hxs, hoy, hyb, hI4, hJ4, hGy, hT4, rfl⟩
                               have hs4 := hU.size
                               refine WC.seq ?_
                               refine WC.seq ?_
                               refine WC.region ?_
                               refine WL.val rfl rfl rfl rfl (r_move rfl (ev_t rfl)) ?_
                               refine WL.val rfl rfl rfl rfl (r_move rfl (ev_t rfl)) ?_
                               refine WL.val rfl rfl rfl rfl (r_lenSlice (ts := #[]) rfl (ev_t rfl) elem_26) ?_
                               refine WL.val rfl rfl rfl rfl (r_lss rfl (ev_t rfl) (ev_t rfl)) ?_
                               refine WL.nil ?_
                               refine WX.keep [(3, _), (4, _), (7, _), (8, _), (14, _), (120, _)] ⟨rfl, rfl, rfl, rfl, rfl, rfl, trivial⟩ ?_
                               refine WX.next ?_
                               refine WC.cond rfl (ev_t rfl) (fun hc29 => ?_) (fun hc29 => ?_)
                               · try (exfalso; first | (simp at hc29; done) | (simp only [decide_eq_true_eq, decide_eq_false_iff_not, Bool.not_eq_true', Bool.not_eq_false', Bool.not_eq_true, Bool.not_eq_false] at hc29; omega) | omega)
                                 all_goals
                                  try simp only [decide_eq_true_eq, decide_eq_false_iff_not, Bool.not_eq_true', Bool.not_eq_false', Bool.not_eq_true, Bool.not_eq_false, Option.isNone_none, Option.isNone_some, Option.isSome_none, Option.isSome_some, ne_eq, Decidable.not_not] at hc29
                                  have hil : i < (flat2 ps).length := by omega
                                  have hfa : (flat2 ps)[i]? = some (flat2 ps)[i] := List.getElem?_eq_getElem hil
                                  generalize (flat2 ps)[i] = ta at *
                                  have hmx := mixT_get (f := ext (th σ)) hfa
                                  have hms := mixT_succ (f := ext (th σ)) hfa
                                  have hrx4 := hol4.rd (by omega)
                                  obtain ⟨bx, capx, curx, ex, _, _, _, _, _, _⟩ := hol4.open (by omega)
                                  injection ex with ex1 ex2 ex3
                                  subst ex1 ex3
                                  obtain ⟨⟨a1, a2, a3⟩, hxa, hta4⟩ := hxs.get hmx
                                  refine WC.skip ?_
                                  refine WX.next ?_
                                  refine WC.seq ?_
                                  refine WC.block ?_
                                  refine WC.seq ?_
                                  refine WC.region ?_
                                  refine WL.val rfl rfl rfl rfl (r_move rfl (ev_t rfl)) ?_
                                  refine WL.val rfl rfl rfl rfl (r_move rfl (ev_t rfl)) ?_
                                  refine WL.val rfl rfl rfl rfl (r_move rfl (ev_t rfl)) ?_
                                  refine WL.val rfl rfl rfl rfl (r_move rfl (ev_t rfl)) ?_
                                  refine WL.val rfl rfl rfl rfl (r_indexAddr rfl (ev_t rfl) (ev_t rfl) elem_26 size_28 (by omega) (by omega)) ?_
                                  refine WL.val rfl rfl rfl rfl (r_loadAgg (vs := [_, _, _]) rfl (ev_t rfl) agg_28 size_28 (kid_cells hrx4 hxa rfl)) ?_
                                  refine WL.cons (SO.call (apply_ok hgu.wf _ _ _ _ _ _ ta (Nat.le_refl _) hJ4 hta4) rfl body_18 ⟨(ev_t rfl), (ev_t rfl), trivial⟩ rfl rfl rfl rfl ?_)
                                  rintro v w20 ⟨d1, d2, d3, rfl, hd, hu20⟩
                                  obtain ⟨md, Ad, kd, xkd, rfl, rfl, rfl, _⟩ := hd.open
                                  have hs20 := hu20.size
                                  replace hU := hU.trans hu20 (by first | exact (fun _ _ h => h) | exact (fun _ _ h => h.elim) | (intro k hl hk; (try simp only [At, New, Grow, From, No] at hk ⊢); omega) | (intro k hl hk; first | (have := hMut k hk; omega) | (have := hMuu k hk; omega) | (have := hGx k hk; omega) | (have := hGx2 k hk; omega) | (have := hGy k hk; omega)))
                                  replace hol4 := hol4.upd hu20 (fun k hk hl hS => by first | exact (show False from hS).elim | (simp only [At] at hS; have := hGx2 k hk; omega) | (have := hGx2 k hk; have := hGy k hS; omega))
                                  replace hxs := hxs.upd hu20 (fun k hk hl hS => by first | exact (show False from hS).elim | (simp only [At] at hS; have := hT4 k hk; omega) | exact (hT4 k hk).2.2.1 hS | exact (hT4 k hk).2.2.2 hS)
                                  replace hoy := hoy.upd hu20 (fun k hk hl hS => by first | exact (show False from hS).elim | (simp only [At] at hS; have := hGy k hk; omega) | (have := hGx2 k hS; have := hGy k hk; omega) | (rcases hk with hk | hk; have := hGx2 k hS; have := hGy k hk; omega; have := hGx2 k hS; omega))
                                  replace hyb := hyb.upd hu20 (fun k hk hl hS => by first | exact (show False from hS).elim | (simp only [At] at hS; have := hT4 k hk; omega) | exact (hT4 k hk).2.2.1 hS | exact (hT4 k hk).2.2.2 hS)
                                  replace hI4 := hI4.upd hu20 (fun k hk hl hS => by rcases hk with hk | hk <;> first | exact (show False from hS).elim | exact hk.elim | (simp only [At] at hS; subst hS; first | (have := hMut _ hk; omega) | (have := hMuu _ hk; omega) | (have := hT4 _ hk; omega)) | (have := hMut _ hk; have := hGx2 _ hS; omega) | (have := hMuu _ hk; have := hGx2 _ hS; omega) | (have := hMut _ hk; have := hGy _ hS; omega) | (have := hMuu _ hk; have := hGy _ hS; omega) | exact (hT4 _ hk).2.2.1 hS | exact (hT4 _ hk).2.2.2 hS)
                                  replace hJ4 := hJ4.upd hu20 (fun k hk hl hS => by rcases hk with hk | hk <;> first | exact (show False from hS).elim | exact hk.elim | (simp only [At] at hS; subst hS; first | (have := hMut _ hk; omega) | (have := hMuu _ hk; omega) | (have := hT4 _ hk; omega)) | (have := hMut _ hk; have := hGx2 _ hS; omega) | (have := hMuu _ hk; have := hGx2 _ hS; omega) | (have := hMut _ hk; have := hGy _ hS; omega) | (have := hMuu _ hk; have := hGy _ hS; omega) | exact (hT4 _ hk).2.2.1 hS | exact (hT4 _ hk).2.2.2 hS)
                                  replace hrx4 := hrx4.upd hu20 (fun k hk hl hS => by first | exact (show False from hS).elim | (simp only [At] at hS; have := hGx2 k hk; omega) | (have := hGx2 k hk; have := hGy k hS; omega))
                                  replace hta4 := hta4.upd hu20 (fun k hk hl hS => by first | exact (show False from hS).elim | (simp only [At] at hS; have := hT4 k hk; omega) | exact (hT4 k hk).2.2.1 hS | exact (hT4 k hk).2.2.2 hS)
                                  obtain ⟨S1, hS1⟩ : ∃ S1, S1 = w20.heap.size := ⟨_, rfl⟩
                                  replace hd := hd.mono (F' := fun k => wE.heap.size ≤ k ∧ k < S1) (fun k hk => by simp only [New] at hk; omega)
                                  refine WL.cons (SO.alloc rfl rfl rfl rfl (r_buildSlice (cs := #[_, _, _]) (vs := [(0, _)]) rfl ⟨⟨rfl, (ev_t rfl)⟩, trivial⟩ row_26 rfl rfl) ?_)
                                  intro w21 hu21 hB21 hz21
                                  have hs21 := hu21.size
                                  replace hU := hU.trans hu21 (by first | exact (fun _ _ h => h) | exact (fun _ _ h => h.elim) | (intro k hl hk; (try simp only [At, New, Grow, From, No] at hk ⊢); omega) | (intro k hl hk; first | (have := hMut k hk; omega) | (have := hMuu k hk; omega) | (have := hGx k hk; omega) | (have := hGx2 k hk; omega) | (have := hGy k hk; omega)))
                                  replace hol4 := hol4.upd hu21 (fun k hk hl hS => by first | exact (show False from hS).elim | (simp only [At] at hS; have := hGx2 k hk; omega) | (have := hGx2 k hk; have := hGy k hS; omega))
                                  replace hxs := hxs.upd hu21 (fun k hk hl hS => by first | exact (show False from hS).elim | (simp only [At] at hS; have := hT4 k hk; omega) | exact (hT4 k hk).2.2.1 hS | exact (hT4 k hk).2.2.2 hS)
                                  replace hoy := hoy.upd hu21 (fun k hk hl hS => by first | exact (show False from hS).elim | (simp only [At] at hS; have := hGy k hk; omega) | (have := hGx2 k hS; have := hGy k hk; omega) | (rcases hk with hk | hk; have := hGx2 k hS; have := hGy k hk; omega; have := hGx2 k hS; omega))
                                  replace hyb := hyb.upd hu21 (fun k hk hl hS => by first | exact (show False from hS).elim | (simp only [At] at hS; have := hT4 k hk; omega) | exact (hT4 k hk).2.2.1 hS | exact (hT4 k hk).2.2.2 hS)
                                  replace hI4 := hI4.upd hu21 (fun k hk hl hS => by rcases hk with hk | hk <;> first | exact (show False from hS).elim | exact hk.elim | (simp only [At] at hS; subst hS; first | (have := hMut _ hk; omega) | (have := hMuu _ hk; omega) | (have := hT4 _ hk; omega)) | (have := hMut _ hk; have := hGx2 _ hS; omega) | (have := hMuu _ hk; have := hGx2 _ hS; omega) | (have := hMut _ hk; have := hGy _ hS; omega) | (have := hMuu _ hk; have := hGy _ hS; omega) | exact (hT4 _ hk).2.2.1 hS | exact (hT4 _ hk).2.2.2 hS)
                                  replace hJ4 := hJ4.upd hu21 (fun k hk hl hS => by rcases hk with hk | hk <;> first | exact (show False from hS).elim | exact hk.elim | (simp only [At] at hS; subst hS; first | (have := hMut _ hk; omega) | (have := hMuu _ hk; omega) | (have := hT4 _ hk; omega)) | (have := hMut _ hk; have := hGx2 _ hS; omega) | (have := hMuu _ hk; have := hGx2 _ hS; omega) | (have := hMut _ hk; have := hGy _ hS; omega) | (have := hMuu _ hk; have := hGy _ hS; omega) | exact (hT4 _ hk).2.2.1 hS | exact (hT4 _ hk).2.2.2 hS)
                                  replace hrx4 := hrx4.upd hu21 (fun k hk hl hS => by first | exact (show False from hS).elim | (simp only [At] at hS; have := hGx2 k hk; omega) | (have := hGx2 k hk; have := hGy k hS; omega))
                                  replace hta4 := hta4.upd hu21 (fun k hk hl hS => by first | exact (show False from hS).elim | (simp only [At] at hS; have := hT4 k hk; omega) | exact (hT4 k hk).2.2.1 hS | exact (hT4 k hk).2.2.2 hS)
                                  replace hd := hd.upd hu21 (fun k hk hl hS => by first | exact (show False from hS).elim | (simp only [At] at hS; omega) | (have := hGy k hS; omega) | (have := hGx2 k hS; omega))
                                  refine WL.cons (SO.append hoy (show Rd _ _ _ 1 3 [Value.string ⟨(ext (th ρ) ta).nm.toArray⟩, .int .i64 md, .slice Ad (ext (th ρ) ta).kids.length kd] from rd_one hB21) row_26 one_c3 (le_maxLen (by omega)) (by omega) rfl (ev_t rfl) (ev_t rfl) rfl rfl rfl rfl ?_)
                                  intro v22 w22 hoy hu22
                                  have hs22 := hu22.size
                                  replace hU := hU.trans hu22 (by first | exact (fun _ _ h => h) | exact (fun _ _ h => h.elim) | (intro k hl hk; (try simp only [At, New, Grow, From, No] at hk ⊢); omega) | (intro k hl hk; first | (have := hMut k hk; omega) | (have := hMuu k hk; omega) | (have := hGx k hk; omega) | (have := hGx2 k hk; omega) | (have := hGy k hk; omega)))
                                  replace hol4 := hol4.upd hu22 (fun k hk hl hS => by first | exact (show False from hS).elim | (simp only [At] at hS; have := hGx2 k hk; omega) | (have := hGx2 k hk; have := hGy k hS; omega))
                                  replace hxs := hxs.upd hu22 (fun k hk hl hS => by first | exact (show False from hS).elim | (simp only [At] at hS; have := hT4 k hk; omega) | exact (hT4 k hk).2.2.1 hS | exact (hT4 k hk).2.2.2 hS)
                                  replace hyb := hyb.upd hu22 (fun k hk hl hS => by first | exact (show False from hS).elim | (simp only [At] at hS; have := hT4 k hk; omega) | exact (hT4 k hk).2.2.1 hS | exact (hT4 k hk).2.2.2 hS)
                                  replace hI4 := hI4.upd hu22 (fun k hk hl hS => by rcases hk with hk | hk <;> first | exact (show False from hS).elim | exact hk.elim | (simp only [At] at hS; subst hS; first | (have := hMut _ hk; omega) | (have := hMuu _ hk; omega) | (have := hT4 _ hk; omega)) | (have := hMut _ hk; have := hGx2 _ hS; omega) | (have := hMuu _ hk; have := hGx2 _ hS; omega) | (have := hMut _ hk; have := hGy _ hS; omega) | (have := hMuu _ hk; have := hGy _ hS; omega) | exact (hT4 _ hk).2.2.1 hS | exact (hT4 _ hk).2.2.2 hS)
                                  replace hJ4 := hJ4.upd hu22 (fun k hk hl hS => by rcases hk with hk | hk <;> first | exact (show False from hS).elim | exact hk.elim | (simp only [At] at hS; subst hS; first | (have := hMut _ hk; omega) | (have := hMuu _ hk; omega) | (have := hT4 _ hk; omega)) | (have := hMut _ hk; have := hGx2 _ hS; omega) | (have := hMuu _ hk; have := hGx2 _ hS; omega) | (have := hMut _ hk; have := hGy _ hS; omega) | (have := hMuu _ hk; have := hGy _ hS; omega) | exact (hT4 _ hk).2.2.1 hS | exact (hT4 _ hk).2.2.2 hS)
                                  replace hrx4 := hrx4.upd hu22 (fun k hk hl hS => by first | exact (show False from hS).elim | (simp only [At] at hS; have := hGx2 k hk; omega) | (have := hGx2 k hk; have := hGy k hS; omega))
                                  replace hta4 := hta4.upd hu22 (fun k hk hl hS => by first | exact (show False from hS).elim | (simp only [At] at hS; have := hT4 k hk; omega) | exact (hT4 k hk).2.2.1 hS | exact (hT4 k hk).2.2.2 hS)
                                  replace hd := hd.upd hu22 (fun k hk hl hS => by first | exact (show False from hS).elim | (simp only [At] at hS; omega) | (have := hGy k hS; omega) | (have := hGx2 k hS; omega))
                                  obtain ⟨A22, c22, rfl, hc22⟩ := Own.form hoy
                                  rw [← flat_snoc] at hoy
                                  refine WL.val rfl rfl rfl rfl (r_assign rfl (ev_t rfl)) ?_
                                  refine WL.nil ?_
                                  refine WX.keep [(3, _), (4, _), (7, _), (8, _), (14, _)] ⟨rfl, rfl, rfl, rfl, rfl, trivial⟩ ?_
                                  obtain ⟨S2, hS2⟩ : ∃ S2, S2 = w22.heap.size := ⟨_, rfl⟩
                                  refine WX.next ?_
                                  refine WC.region ?_
                                  refine WL.val rfl rfl rfl rfl (r_move rfl (ev_t rfl)) ?_
                                  refine WL.val rfl rfl rfl rfl (r_move rfl (ev_t rfl)) ?_
                                  refine WL.val rfl rfl rfl rfl (r_move rfl (ev_t rfl)) ?_
                                  refine WL.val rfl rfl rfl rfl (r_move rfl (ev_t rfl)) ?_
                                  refine WL.val rfl rfl rfl rfl (r_move rfl (ev_t rfl)) ?_
                                  refine WL.val rfl rfl rfl rfl (r_indexAddr rfl (ev_t rfl) (ev_t rfl) elem_26 size_28 (by omega) (by omega)) ?_
                                  refine WL.val rfl rfl rfl rfl (r_loadAgg (vs := [_, _, _]) rfl (ev_t rfl) agg_28 size_28 (kid_cells hrx4 hxa rfl)) ?_
                                  refine WL.cons (SO.call (apply_ok hgs.wf _ _ _ _ _ _ ta (Nat.le_refl _) hI4 hta4) rfl body_18 ⟨(ev_t rfl), (ev_t rfl), trivial⟩ rfl rfl rfl rfl ?_)
                                  rintro v w23 ⟨e1, e2, e3, rfl, he, hu23⟩
                                  obtain ⟨me, Ae, ke, xke, rfl, rfl, rfl, _⟩ := he.open
                                  have hs23 := hu23.size
                                  replace hU := hU.trans hu23 (by first | exact (fun _ _ h => h) | exact (fun _ _ h => h.elim) | (intro k hl hk; (try simp only [At, New, Grow, From, No] at hk ⊢); omega) | (intro k hl hk; first | (have := hMut k hk; omega) | (have := hMuu k hk; omega) | (have := hGx k hk; omega) | (have := hGx2 k hk; omega) | (have := hGy k hk; omega)))
                                  replace hol4 := hol4.upd hu23 (fun k hk hl hS => by first | exact (show False from hS).elim | (simp only [At] at hS; have := hGx2 k hk; omega) | (have := hGx2 k hk; have := hGy k hS; omega))
                                  replace hxs := hxs.upd hu23 (fun k hk hl hS => by first | exact (show False from hS).elim | (simp only [At] at hS; have := hT4 k hk; omega) | exact (hT4 k hk).2.2.1 hS | exact (hT4 k hk).2.2.2 hS)
                                  replace hoy := hoy.upd hu23 (fun k hk hl hS => by first | exact (show False from hS).elim | (simp only [At] at hS; have := hGy k hk; omega) | (have := hGx2 k hS; have := hGy k hk; omega) | (rcases hk with hk | hk; have := hGx2 k hS; have := hGy k hk; omega; have := hGx2 k hS; omega))
                                  replace hyb := hyb.upd hu23 (fun k hk hl hS => by first | exact (show False from hS).elim | (simp only [At] at hS; have := hT4 k hk; omega) | exact (hT4 k hk).2.2.1 hS | exact (hT4 k hk).2.2.2 hS)
                                  replace hI4 := hI4.upd hu23 (fun k hk hl hS => by rcases hk with hk | hk <;> first | exact (show False from hS).elim | exact hk.elim | (simp only [At] at hS; subst hS; first | (have := hMut _ hk; omega) | (have := hMuu _ hk; omega) | (have := hT4 _ hk; omega)) | (have := hMut _ hk; have := hGx2 _ hS; omega) | (have := hMuu _ hk; have := hGx2 _ hS; omega) | (have := hMut _ hk; have := hGy _ hS; omega) | (have := hMuu _ hk; have := hGy _ hS; omega) | exact (hT4 _ hk).2.2.1 hS | exact (hT4 _ hk).2.2.2 hS)
                                  replace hJ4 := hJ4.upd hu23 (fun k hk hl hS => by rcases hk with hk | hk <;> first | exact (show False from hS).elim | exact hk.elim | (simp only [At] at hS; subst hS; first | (have := hMut _ hk; omega) | (have := hMuu _ hk; omega) | (have := hT4 _ hk; omega)) | (have := hMut _ hk; have := hGx2 _ hS; omega) | (have := hMuu _ hk; have := hGx2 _ hS; omega) | (have := hMut _ hk; have := hGy _ hS; omega) | (have := hMuu _ hk; have := hGy _ hS; omega) | exact (hT4 _ hk).2.2.1 hS | exact (hT4 _ hk).2.2.2 hS)
                                  replace hrx4 := hrx4.upd hu23 (fun k hk hl hS => by first | exact (show False from hS).elim | (simp only [At] at hS; have := hGx2 k hk; omega) | (have := hGx2 k hk; have := hGy k hS; omega))
                                  replace hta4 := hta4.upd hu23 (fun k hk hl hS => by first | exact (show False from hS).elim | (simp only [At] at hS; have := hT4 k hk; omega) | exact (hT4 k hk).2.2.1 hS | exact (hT4 k hk).2.2.2 hS)
                                  replace hd := hd.upd hu23 (fun k hk hl hS => by first | exact (show False from hS).elim | (simp only [At] at hS; omega) | (have := hGy k hS; omega) | (have := hGx2 k hS; omega))
                                  obtain ⟨S3, hS3⟩ : ∃ S3, S3 = w23.heap.size := ⟨_, rfl⟩
                                  replace he := he.mono (F' := fun k => S2 ≤ k ∧ k < S3) (fun k hk => by simp only [New] at hk; omega)
                                  refine WL.val rfl rfl rfl rfl (r_indexAddr rfl (ev_t rfl) (ev_t rfl) elem_26 size_28 (by omega) (by omega)) ?_
                                  refine WL.cons (SO.ownSet (i := i) (us := [_, _, _]) hol4 rfl (by omega) (Nat.zero_add _) rfl rfl (ev_t rfl) (ev_t rfl) size_28 rfl rfl rfl rfl ?_)
                                  intro w24 hu24 hol9 hz9
                                  have hs24 := hu24.size
                                  replace hU := hU.trans hu24 (by first | exact (fun _ _ h => h) | exact (fun _ _ h => h.elim) | (intro k hl hk; (try simp only [At, New, Grow, From, No] at hk ⊢); omega) | (intro k hl hk; first | (have := hMut k hk; omega) | (have := hMuu k hk; omega) | (have := hGx k hk; omega) | (have := hGx2 k hk; omega) | (have := hGy k hk; omega)))
                                  replace hxs := hxs.upd hu24 (fun k hk hl hS => by first | exact (show False from hS).elim | (simp only [At] at hS; have := hT4 k hk; omega) | exact (hT4 k hk).2.2.1 hS | exact (hT4 k hk).2.2.2 hS)
                                  replace hoy := hoy.upd hu24 (fun k hk hl hS => by first | exact (show False from hS).elim | (simp only [At] at hS; have := hGy k hk; omega) | (have := hGx2 k hS; have := hGy k hk; omega) | (rcases hk with hk | hk; have := hGx2 k hS; have := hGy k hk; omega; have := hGx2 k hS; omega))
                                  replace hyb := hyb.upd hu24 (fun k hk hl hS => by first | exact (show False from hS).elim | (simp only [At] at hS; have := hT4 k hk; omega) | exact (hT4 k hk).2.2.1 hS | exact (hT4 k hk).2.2.2 hS)
                                  replace hI4 := hI4.upd hu24 (fun k hk hl hS => by rcases hk with hk | hk <;> first | exact (show False from hS).elim | exact hk.elim | (simp only [At] at hS; subst hS; first | (have := hMut _ hk; omega) | (have := hMuu _ hk; omega) | (have := hT4 _ hk; omega)) | (have := hMut _ hk; have := hGx2 _ hS; omega) | (have := hMuu _ hk; have := hGx2 _ hS; omega) | (have := hMut _ hk; have := hGy _ hS; omega) | (have := hMuu _ hk; have := hGy _ hS; omega) | exact (hT4 _ hk).2.2.1 hS | exact (hT4 _ hk).2.2.2 hS)
                                  replace hJ4 := hJ4.upd hu24 (fun k hk hl hS => by rcases hk with hk | hk <;> first | exact (show False from hS).elim | exact hk.elim | (simp only [At] at hS; subst hS; first | (have := hMut _ hk; omega) | (have := hMuu _ hk; omega) | (have := hT4 _ hk; omega)) | (have := hMut _ hk; have := hGx2 _ hS; omega) | (have := hMuu _ hk; have := hGx2 _ hS; omega) | (have := hMut _ hk; have := hGy _ hS; omega) | (have := hMuu _ hk; have := hGy _ hS; omega) | exact (hT4 _ hk).2.2.1 hS | exact (hT4 _ hk).2.2.2 hS)
                                  replace hd := hd.upd hu24 (fun k hk hl hS => by first | exact (show False from hS).elim | (simp only [At] at hS; omega) | (have := hGy k hS; omega) | (have := hGx2 k hS; omega))
                                  replace he := he.upd hu24 (fun k hk hl hS => by first | exact (show False from hS).elim | (simp only [At] at hS; omega) | (have := hGy k hS; omega) | (have := hGx2 k hS; omega))
                                  have hlx : i < xa.length := by
                                    rcases Nat.lt_or_ge i xa.length with h9 | h9
                                    · exact h9
                                    · rw [List.getElem?_eq_none h9] at hxa; cases hxa
                                  have hol2 : Own w24 Gx typ 3 (.slice (some ⟨bx, 0, none⟩) m cl) m ((xa.set i (.string ⟨(ext (th σ) ta).nm.toArray⟩, .int .i64 me, .slice Ae (ext (th σ) ta).kids.length ke)).flatMap c3) := by
                                    rw [Nat.zero_add] at hol9
                                    rw [set_flat hlx]
                                    exact hol9
                                  refine WL.nil ?_
                                  refine WX.keep [(3, _), (4, _), (7, _), (8, _), (14, _)] ⟨rfl, rfl, rfl, rfl, rfl, trivial⟩ ?_
                                  refine WX.blockNormal ?_
                                  refine WX.next ?_
                                  refine WC.region ?_
                                  refine WL.val rfl rfl rfl rfl (r_move rfl (ev_t rfl)) ?_
                                  first | refine WL.val rfl rfl rfl rfl (r_addN rfl (ev_t rfl) ev_c (by simp only [inK]; omega)) ?_ | refine WL.val rfl rfl rfl rfl (r_add rfl (ev_t rfl) ev_c) ?_
                                  refine WL.val rfl rfl rfl rfl (r_assign rfl (ev_t rfl)) ?_
                                  refine WL.nil ?_
                                  refine WX.keep [(3, _), (4, _), (7, _), (8, _), (14, _)] ⟨rfl, rfl, rfl, rfl, rfl, trivial⟩ ?_
                                  refine WX.meet [(3, _), (4, _), (7, _), (8, _), (14, _)] ⟨rfl, rfl, rfl, rfl, rfl, trivial⟩ ?_
                                  refine ⟨m - (i + 1), by omega, i + 1, _, _, _, _, _, fun k => T4 k ∨ (wE.heap.size ≤ k ∧ k < S1) ∨ (S2 ≤ k ∧ k < S3), by omega, rfl, hU, by omega, hol2, ?_, hoy, ?_, hI4.mono fun k h => .inl h, hJ4.mono fun k h => .inl h, fun k hk => ?_, fun k hk => ?_, by simp⟩
                                  · rw [← hms]
                                    exact (hxs.mono fun k h => .inl h).set (he.mono fun k h => .inr (.inr h))
                                  · rw [take_map_snoc' hfa]
                                    exact (hyb.mono fun k h => .inl h).snoc (hd.mono fun k h => .inr (.inl h))
                                  · rcases hk with hk | hk
                                    · have := hGy k hk; omega
                                    · omega
                                  · rcases hk with hk | hk | hk
                                    · have h9 := hT4 k hk
                                      refine ⟨h9.1, by omega, h9.2.2.1, fun h => ?_⟩
                                      rcases h with h | h
                                      · exact h9.2.2.2 h
                                      · omega
                                    · refine ⟨by omega, by omega, fun h => by have := hGx2 k h; omega, fun h => ?_⟩
                                      rcases h with h | h
                                      · have := hGy k h; omega
                                      · omega
                                    · refine ⟨by omega, by omega, fun h => by have := hGx2 k h; omega, fun h => ?_⟩
                                      rcases h with h | h
                                      · have := hGy k h; omega
                                      · omega
                               · try (exfalso; first | (simp at hc29; done) | (simp only [decide_eq_true_eq, decide_eq_false_iff_not, Bool.not_eq_true', Bool.not_eq_false', Bool.not_eq_true, Bool.not_eq_false] at hc29; omega) | omega)
                                 all_goals
                                  try simp only [decide_eq_true_eq, decide_eq_false_iff_not, Bool.not_eq_true', Bool.not_eq_false', Bool.not_eq_true, Bool.not_eq_false, Option.isNone_none, Option.isNone_some, Option.isSome_none, Option.isSome_some, ne_eq, Decidable.not_not] at hc29
                                  obtain rfl : m = i := by omega
                                  rw [hml, mixT_all] at hxs
                                  rw [hml, List.take_length] at hyb
                                  have hc := hcan rfl (flat2 ps)
                                  have hbd := canon_bound hc (sz_star (t2_all (b := 1000) fun k t h hk => hszs k t h (by omega)))
                                  rw [List.length_map, hfl] at hbd
                                  have hra : Rd wE (fun _ => True) (.slice A m cl) ((flat2 ps).map (ext (th σ))).length 3 (xa.flatMap c3) := by rw [List.length_map, ← hml]; exact (hol4.rd (by omega)).mono fun _ _ => trivial
                                  have hrb : Rd wE (fun _ => True) (.slice Ay m cy) ((flat2 ps).map (ext (th ρ))).length 3 (yb.flatMap c3) := by rw [List.length_map, ← hml]; exact (hoy.rd (by omega)).mono fun _ _ => trivial
                                  refine WC.exit ?_
                                  refine WX.thenExit ?_
                                  refine WX.thenExit ?_
                                  refine WX.blockHere ?_
                                  refine WX.next ?_
                                  refine WC.seq ?_
                                  refine WC.region ?_
                                  refine WL.val rfl rfl rfl rfl (r_move rfl (ev_t rfl)) ?_
                                  refine WL.val rfl rfl rfl rfl (r_move rfl (ev_t rfl)) ?_
                                  refine WL.cons (SO.call (alike_ok hra (hxs.mono fun _ _ => trivial) hrb (hyb.mono fun _ _ => trivial) (by rw [List.length_map]; omega) (by rw [List.length_map]; omega) (by omega) (by omega)) rfl body_20 ⟨(ev_t rfl), (ev_t rfl), trivial⟩ rfl rfl rfl rfl ?_)
                                  rintro v w25 ⟨bb, rfl, hbb, hu25⟩
                                  obtain rfl := hbb.2 hc
                                  have hs25 := hu25.size
                                  replace hU := hU.trans hu25 (by first | exact (fun _ _ h => h) | exact (fun _ _ h => h.elim) | (intro k hl hk; (try simp only [At, New, Grow, From, No] at hk ⊢); omega) | (intro k hl hk; first | (have := hMut k hk; omega) | (have := hMuu k hk; omega) | (have := hGx k hk; omega) | (have := hGx2 k hk; omega) | (have := hGy k hk; omega)))
                                  replace hol4 := hol4.upd hu25 (fun k hk hl hS => by first | exact (show False from hS).elim | (simp only [At] at hS; have := hGx2 k hk; omega) | (have := hGx2 k hk; have := hGy k hS; omega))
                                  replace hxs := hxs.upd hu25 (fun k hk hl hS => by first | exact (show False from hS).elim | (simp only [At] at hS; have := hT4 k hk; omega) | exact (hT4 k hk).2.2.1 hS | exact (hT4 k hk).2.2.2 hS)
                                  replace hoy := hoy.upd hu25 (fun k hk hl hS => by first | exact (show False from hS).elim | (simp only [At] at hS; have := hGy k hk; omega) | (have := hGx2 k hS; have := hGy k hk; omega) | (rcases hk with hk | hk; have := hGx2 k hS; have := hGy k hk; omega; have := hGx2 k hS; omega))
                                  replace hyb := hyb.upd hu25 (fun k hk hl hS => by first | exact (show False from hS).elim | (simp only [At] at hS; have := hT4 k hk; omega) | exact (hT4 k hk).2.2.1 hS | exact (hT4 k hk).2.2.2 hS)
                                  replace hI4 := hI4.upd hu25 (fun k hk hl hS => by rcases hk with hk | hk <;> first | exact (show False from hS).elim | exact hk.elim | (simp only [At] at hS; subst hS; first | (have := hMut _ hk; omega) | (have := hMuu _ hk; omega) | (have := hT4 _ hk; omega)) | (have := hMut _ hk; have := hGx2 _ hS; omega) | (have := hMuu _ hk; have := hGx2 _ hS; omega) | (have := hMut _ hk; have := hGy _ hS; omega) | (have := hMuu _ hk; have := hGy _ hS; omega) | exact (hT4 _ hk).2.2.1 hS | exact (hT4 _ hk).2.2.2 hS)
                                  replace hJ4 := hJ4.upd hu25 (fun k hk hl hS => by rcases hk with hk | hk <;> first | exact (show False from hS).elim | exact hk.elim | (simp only [At] at hS; subst hS; first | (have := hMut _ hk; omega) | (have := hMuu _ hk; omega) | (have := hT4 _ hk; omega)) | (have := hMut _ hk; have := hGx2 _ hS; omega) | (have := hMuu _ hk; have := hGx2 _ hS; omega) | (have := hMut _ hk; have := hGy _ hS; omega) | (have := hMuu _ hk; have := hGy _ hS; omega) | exact (hT4 _ hk).2.2.1 hS | exact (hT4 _ hk).2.2.2 hS)
                                  refine WL.val rfl rfl rfl rfl (r_assign rfl (ev_t rfl)) ?_
                                  refine WL.nil ?_
                                  refine WX.keep [(2, _)] ⟨rfl, trivial⟩ ?_
                                  refine WX.next ?_
                                  refine WC.ret ?_
                                  refine WX.retE1 rfl rfl ?_
                                  exact ⟨rfl, hU⟩
end Go.Proofs.Ytncakfcafkfmfaa
