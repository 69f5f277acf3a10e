/-
  HeapCopies: a copy is the same, and apart.
-/
import Derived.Test.YtdpnnclkkbfihaaDoorHem
namespace Go.Proofs.YtdpnnclkkbfihaaDoor
open Go
set_option linter.unusedSimpArgs false
set_option linter.unusedVariables false

theorem leftM_fit {q d n : Nat} {mem : List Nat} (h : d + mem.length ≤ q) : leftM q d mem = mem ∧ leftN q d mem n = n := ⟨if_pos h, if_pos h⟩
def more : List UInt8 := [109, 111, 114, 101]
namespace heapCopies
set_option maxHeartbeats 4000000 in
theorem walk {w : World} {F : Nat → Prop} {v : Value} {l : List (List UInt8)} (hr : Rd w F v l.length 1 (l.map Str)) (hF : ∀ k, F k → k < w.heap.size) : Ret Tryd.prog 5 #[v] w fun v w' => v = .bool true ∧ Upd No w w' := by
  have hlm := hr.le
  obtain ⟨A, c, rfl, hc⟩ := hr.slice_form
  generalize hB : w.heap.size = B at *
  refine enterRet (vs := [_]) (N := 91) Tryd.func5 rfl rfl rfl ?_
  have hU := Upd.refl No w
  refine WC.keep [(0, _)] ⟨rfl, trivial⟩ ?_
  refine WC.seq ?_
  refine WC.region ?_
  refine WL.val rfl rfl rfl rfl (r_assign rfl ev_c) ?_
  refine WL.nil ?_
  refine WX.keep [(0, _)] ⟨rfl, trivial⟩ ?_
  refine WX.next ?_
  refine WC.seq ?_
  refine WC.seq ?_
  refine WC.region ?_
  refine WL.cons (SO.call (awake_ok) rfl body_9 trivial rfl rfl rfl rfl ?_)
  rintro v w1 ⟨rfl, hu1⟩
  have hs1 := hu1.size
  replace hU := hU.trans hu1 (by first | exact (fun _ _ h => h) | exact (fun _ _ h => h.elim) | (intro k hl hk; (try simp only [At, New, Grow, From, No] at hk ⊢); omega) | (intro k hl hk; first | exact (show False from hk).elim | (rcases hk with hk | hk; omega; first | (have h2 := hGB _ hk; omega) | (have h2 := hG2B _ hk; omega)) | (have h2 := hk.1; omega) | (have h2 := hRB _ (hGbl _ hk).1; omega)))
  replace hr := hr.upd hu1 (fun k hk hl hS => by have h1 := hF k hk; first | exact (show False from hS).elim | (simp only [At] at hS; omega) | (have h2 := hRB _ (hGbl _ hS).1; omega) | (have h2 := hS.1; simp only [ge_iff_le] at h2; omega) | (rcases hS with hS | hS; omega; first | (have h2 := hGB _ hS; omega) | (have h2 := hG2B _ hS; omega)))
  refine WL.val rfl rfl rfl rfl (r_not rfl (ev_t rfl)) ?_
  refine WL.val rfl rfl rfl rfl (r_move rfl (ev_t rfl)) ?_
  refine WL.cases 14 rfl (fun hb1_2 => ?_) (fun hb1_2 => ?_)
  · try (exfalso; first | (simp at hb1_2; done) | (simp only [decide_eq_true_eq, decide_eq_false_iff_not, Bool.not_eq_true', Bool.not_eq_false', Bool.not_eq_true, Bool.not_eq_false] at hb1_2; omega) | omega)
    all_goals
     try simp only [decide_eq_true_eq, decide_eq_false_iff_not, Bool.not_eq_true', Bool.not_eq_false', Bool.not_eq_true, Bool.not_eq_false, Option.isNone_none, Option.isNone_some, Option.isSome_none, Option.isSome_some, ne_eq, Decidable.not_not] at hb1_2
     refine WL.skip rfl rfl rfl ?_
     refine WL.skip rfl rfl rfl ?_
     refine WL.skip rfl rfl rfl ?_
     refine WL.val rfl rfl rfl rfl (r_pickT rfl (ev_t rfl) ev_c) ?_
     refine WL.nil ?_
     refine WX.keep [(0, _), (18, _)] ⟨rfl, rfl, trivial⟩ ?_
     refine WX.next ?_
     refine WC.cond_true rfl (ev_t rfl) ?_
     refine WC.seq ?_
     refine WC.region ?_
     refine WL.cons (SO.call (awake_ok) rfl body_9 trivial rfl rfl rfl rfl ?_)
     rintro v w2 ⟨rfl, hu2⟩
     have hs2 := hu2.size
     replace hU := hU.trans hu2 (by first | exact (fun _ _ h => h) | exact (fun _ _ h => h.elim) | (intro k hl hk; (try simp only [At, New, Grow, From, No] at hk ⊢); omega) | (intro k hl hk; first | exact (show False from hk).elim | (rcases hk with hk | hk; omega; first | (have h2 := hGB _ hk; omega) | (have h2 := hG2B _ hk; omega)) | (have h2 := hk.1; omega) | (have h2 := hRB _ (hGbl _ hk).1; omega)))
     replace hr := hr.upd hu2 (fun k hk hl hS => by have h1 := hF k hk; first | exact (show False from hS).elim | (simp only [At] at hS; omega) | (have h2 := hRB _ (hGbl _ hS).1; omega) | (have h2 := hS.1; simp only [ge_iff_le] at h2; omega) | (rcases hS with hS | hS; omega; first | (have h2 := hGB _ hS; omega) | (have h2 := hG2B _ hS; omega)))
     refine WL.val rfl rfl rfl rfl (r_assign rfl (ev_t rfl)) ?_
     refine WL.nil ?_
     refine WX.keep [(2, _)] ⟨rfl, trivial⟩ ?_
     refine WX.next ?_
     refine WC.ret ?_
     refine WX.thenRet ?_
     refine WX.retE1 rfl rfl ?_
     exact ⟨rfl, hU⟩
  · try (exfalso; first | (simp at hb1_2; done) | (simp only [decide_eq_true_eq, decide_eq_false_iff_not, Bool.not_eq_true', Bool.not_eq_false', Bool.not_eq_true, Bool.not_eq_false] at hb1_2; omega) | omega)
    all_goals
     try simp only [decide_eq_true_eq, decide_eq_false_iff_not, Bool.not_eq_true', Bool.not_eq_false', Bool.not_eq_true, Bool.not_eq_false, Option.isNone_none, Option.isNone_some, Option.isSome_none, Option.isSome_some, ne_eq, Decidable.not_not] at hb1_2
     refine WL.val rfl rfl rfl rfl (r_move rfl (ev_t rfl)) ?_
     refine WL.val rfl rfl rfl rfl (r_lenSlice (ts := #[]) rfl (ev_t rfl) elem_22) ?_
     refine WL.val rfl rfl rfl rfl (r_gtr rfl (ev_t rfl) ev_c) ?_
     refine WL.val rfl rfl rfl rfl (r_pickF rfl (ev_t rfl) (ev_t rfl)) ?_
     refine WL.nil ?_
     refine WX.keep [(0, _), (18, _)] ⟨rfl, rfl, trivial⟩ ?_
     refine WX.next ?_
     refine WC.cond rfl (ev_t rfl) (fun hc1 => ?_) (fun hc1 => ?_)
     · try (exfalso; first | (simp at hc1; done) | (simp only [decide_eq_true_eq, decide_eq_false_iff_not, Bool.not_eq_true', Bool.not_eq_false', Bool.not_eq_true, Bool.not_eq_false] at hc1; omega) | omega)
       all_goals
        try simp only [decide_eq_true_eq, decide_eq_false_iff_not, Bool.not_eq_true', Bool.not_eq_false', Bool.not_eq_true, Bool.not_eq_false, Option.isNone_none, Option.isNone_some, Option.isSome_none, Option.isSome_some, ne_eq, Decidable.not_not] at hc1
        refine WC.seq ?_
        refine WC.region ?_
        refine WL.cons (SO.call (awake_ok) rfl body_9 trivial rfl rfl rfl rfl ?_)
        rintro v w3 ⟨rfl, hu3⟩
        have hs3 := hu3.size
        replace hU := hU.trans hu3 (by first | exact (fun _ _ h => h) | exact (fun _ _ h => h.elim) | (intro k hl hk; (try simp only [At, New, Grow, From, No] at hk ⊢); omega) | (intro k hl hk; first | exact (show False from hk).elim | (rcases hk with hk | hk; omega; first | (have h2 := hGB _ hk; omega) | (have h2 := hG2B _ hk; omega)) | (have h2 := hk.1; omega) | (have h2 := hRB _ (hGbl _ hk).1; omega)))
        replace hr := hr.upd hu3 (fun k hk hl hS => by have h1 := hF k hk; first | exact (show False from hS).elim | (simp only [At] at hS; omega) | (have h2 := hRB _ (hGbl _ hS).1; omega) | (have h2 := hS.1; simp only [ge_iff_le] at h2; omega) | (rcases hS with hS | hS; omega; first | (have h2 := hGB _ hS; omega) | (have h2 := hG2B _ hS; omega)))
        refine WL.val rfl rfl rfl rfl (r_assign rfl (ev_t rfl)) ?_
        refine WL.nil ?_
        refine WX.keep [(2, _)] ⟨rfl, trivial⟩ ?_
        refine WX.next ?_
        refine WC.ret ?_
        refine WX.thenRet ?_
        refine WX.retE1 rfl rfl ?_
        exact ⟨rfl, hU⟩
     · try (exfalso; first | (simp at hc1; done) | (simp only [decide_eq_true_eq, decide_eq_false_iff_not, Bool.not_eq_true', Bool.not_eq_false', Bool.not_eq_true, Bool.not_eq_false] at hc1; omega) | omega)
       all_goals
        try simp only [decide_eq_true_eq, decide_eq_false_iff_not, Bool.not_eq_true', Bool.not_eq_false', Bool.not_eq_true, Bool.not_eq_false, Option.isNone_none, Option.isNone_some, Option.isSome_none, Option.isSome_some, ne_eq, Decidable.not_not] at hc1
        have hl30 : l.length ≤ 30 := by first | omega | (simp at hc1; omega) | (simp_all; omega)
        refine WC.skip ?_
        refine WX.next ?_
        refine WC.seq ?_
        refine WC.region ?_
        refine WL.cons (SO.call (new_ok (q := 100000) (by simp only [inK]; omega)) rfl body_11 ⟨ev_c, trivial⟩ rfl rfl rfl rfl ?_)
        rintro v w4 ⟨-, h2, hu4⟩
        obtain ⟨rfl, hb⟩ := h2 (by omega)
        have hpB := hU.size
        have hs4 := hu4.size
        replace hU := hU.trans hu4 (by first | exact (fun _ _ h => h) | exact (fun _ _ h => h.elim) | (intro k hl hk; (try simp only [At, New, Grow, From, No] at hk ⊢); omega) | (intro k hl hk; first | exact (show False from hk).elim | (rcases hk with hk | hk; omega; first | (have h2 := hGB _ hk; omega) | (have h2 := hG2B _ hk; omega)) | (have h2 := hk.1; omega) | (have h2 := hRB _ (hGbl _ hk).1; omega)))
        replace hr := hr.upd hu4 (fun k hk hl hS => by have h1 := hF k hk; first | exact (show False from hS).elim | (simp only [At] at hS; omega) | (have h2 := hRB _ (hGbl _ hS).1; omega) | (have h2 := hS.1; simp only [ge_iff_le] at h2; omega) | (rcases hS with hS | hS; omega; first | (have h2 := hGB _ hS; omega) | (have h2 := hG2B _ hS; omega)))
        have hH := HS.new (q := 100000) hb (by omega)
        have hpl := hb.lt
        refine WL.val rfl rfl rfl rfl (r_move rfl (ev_t rfl)) ?_
        refine WL.val rfl rfl rfl rfl (r_extract rfl (ev_t rfl) rfl) ?_
        refine WL.val rfl rfl rfl rfl (r_extract rfl (ev_t rfl) rfl) ?_
        refine WL.val rfl rfl rfl rfl (r_assign rfl (ev_t rfl)) ?_
        refine WL.val rfl rfl rfl rfl (r_assign rfl (ev_t rfl)) ?_
        refine WL.nil ?_
        refine WX.keep [(0, _), (3, _)] ⟨rfl, rfl, trivial⟩ ?_
        refine WX.next ?_
        refine WC.seq ?_
        refine WC.region ?_
        refine WL.val rfl rfl rfl rfl (r_assign rfl ev_c) ?_
        refine WL.nil ?_
        refine WX.keep [(0, _), (3, _), (5, _)] ⟨rfl, rfl, rfl, trivial⟩ ?_
        refine WX.next ?_
        refine WC.seq ?_
        refine WC.seq ?_
        refine WC.region ?_
        refine WL.val rfl rfl rfl rfl (r_assign rfl ev_c) ?_
        refine WL.nil ?_
        refine WX.keep [(0, _), (3, _), (5, _), (6, _)] ⟨rfl, rfl, rfl, rfl, trivial⟩ ?_
        refine WX.next ?_
        refine WC.block ?_
        -- loop 1: live [0, 3, 5, 6]
        refine WC.keep [(0, _), (3, _), (5, _), (6, _)] ⟨rfl, rfl, rfl, rfl, trivial⟩ ?_
        refine WC.loop (fun qq E wC => ∃ (j : Nat) (p : Nat) (G Gr : Nat → Prop) (A1 : Option Addr) (c1 : Nat) (vr : Value), j ≤ l.length ∧ qq = l.length - j ∧ (∀ i s, l[i]? = some s → i < j → s.length ≤ 1000) ∧ Upd No w wC ∧ Rd wC F (.slice A l.length c) l.length 1 (l.map Str) ∧ HS wC G p A1 c1 (memT (l.take j)) 100000 0 ∧ Own wC Gr tWord 1 vr j ((List.range j).map fun i => Wd (2 * placeT l i)) ∧ B ≤ p ∧ (∀ k, G k → B ≤ k) ∧ (∀ k, Gr k → B ≤ k ∧ k ≠ p ∧ ¬ G k) ∧ E = [(0, .slice A l.length c), (3, .pointer (some ⟨p, 0, none⟩)), (5, vr), (6, .int .i64 (j : Int))]) (l.length) ?_ ?_
        · exact ⟨0, _, No, No, _, _, _, by omega, by omega, fun i s _ h => absurd h (by omega), hU, hr, hH, Own.nil _ _ _ _, by omega, fun k h => h.elim, fun k h => h.elim, rfl⟩
        · clear hU hr hH
          rintro qq E wC ⟨j, p, G, Gr, A1, c1, vr, hj, rfl, hlen, hU, hr, hH, hR, hpB, hGB, hRB, rfl⟩
          have hUs := hU.size
          refine WC.seq ?_
          refine WC.seq ?_
          refine WC.region ?_
          refine WL.val rfl rfl rfl rfl (r_move rfl (ev_t rfl)) ?_
          refine WL.val rfl rfl rfl rfl (r_move rfl (ev_t rfl)) ?_
          refine WL.val rfl rfl rfl rfl (r_lenSlice (ts := #[]) rfl (ev_t rfl) elem_22) ?_
          refine WL.val rfl rfl rfl rfl (r_lss rfl (ev_t rfl) (ev_t rfl)) ?_
          refine WL.nil ?_
          refine WX.keep [(0, _), (3, _), (5, _), (6, _), (27, _)] ⟨rfl, rfl, rfl, rfl, rfl, trivial⟩ ?_
          refine WX.next ?_
          refine WC.cond rfl (ev_t rfl) (fun hc6 => ?_) (fun hc6 => ?_)
          · try (exfalso; first | (simp at hc6; done) | (simp only [decide_eq_true_eq, decide_eq_false_iff_not, Bool.not_eq_true', Bool.not_eq_false', Bool.not_eq_true, Bool.not_eq_false] at hc6; omega) | omega)
            all_goals
             try simp only [decide_eq_true_eq, decide_eq_false_iff_not, Bool.not_eq_true', Bool.not_eq_false', Bool.not_eq_true, Bool.not_eq_false, Option.isNone_none, Option.isNone_some, Option.isSome_none, Option.isSome_some, ne_eq, Decidable.not_not] at hc6
             have hjl : j < l.length := by simpa using hc6
             obtain ⟨b0, off, rfl, _⟩ := hr.open (by omega)
             have hgj : l[j]? = some l[j] := List.getElem?_eq_getElem hjl
             generalize l[j] = s at *
             refine WC.skip ?_
             refine WX.next ?_
             refine WC.seq ?_
             refine WC.block ?_
             refine WC.seq ?_
             refine WC.seq ?_
             refine WC.region ?_
             refine WL.val rfl rfl rfl rfl (r_move rfl (ev_t rfl)) ?_
             refine WL.val rfl rfl rfl rfl (r_move rfl (ev_t rfl)) ?_
             refine WL.val rfl rfl rfl rfl (r_indexAddr rfl (ev_t rfl) (ev_t rfl) elem_22 size_9 (by omega) (by omega)) ?_
             refine WL.val rfl rfl rfl rfl (r_load rfl (ev_t rfl) flat_9 (hr.cell (j := j) (u := Str s) (show off + (j : Int).toNat * 1 = off + j by omega) (by rw [List.getElem?_map, hgj]; rfl))) ?_
             refine WL.val rfl rfl rfl rfl (r_lenStrL rfl (ev_t rfl) str_9) ?_
             refine WL.val rfl rfl rfl rfl (r_gtr rfl (ev_t rfl) ev_c) ?_
             refine WL.nil ?_
             refine WX.keep [(0, _), (3, _), (5, _), (6, _), (35, _)] ⟨rfl, rfl, rfl, rfl, rfl, trivial⟩ ?_
             refine WX.next ?_
             refine WC.cond rfl (ev_t rfl) (fun hc8 => ?_) (fun hc8 => ?_)
             · try (exfalso; first | (simp at hc8; done) | (simp only [decide_eq_true_eq, decide_eq_false_iff_not, Bool.not_eq_true', Bool.not_eq_false', Bool.not_eq_true, Bool.not_eq_false] at hc8; omega) | omega)
               all_goals
                try simp only [decide_eq_true_eq, decide_eq_false_iff_not, Bool.not_eq_true', Bool.not_eq_false', Bool.not_eq_true, Bool.not_eq_false, Option.isNone_none, Option.isNone_some, Option.isSome_none, Option.isSome_some, ne_eq, Decidable.not_not] at hc8
                refine WC.seq ?_
                refine WC.region ?_
                refine WL.val rfl rfl rfl rfl (r_assign rfl ev_c) ?_
                refine WL.nil ?_
                refine WX.keep [(2, _)] ⟨rfl, trivial⟩ ?_
                refine WX.next ?_
                refine WC.ret ?_
                refine WX.thenRet ?_
                refine WX.blockRet ?_
                refine WX.thenRet ?_
                refine WX.thenRet ?_
                refine WX.blockRet ?_
                refine WX.thenRet ?_
                refine WX.retE1 rfl rfl ?_
                exact ⟨rfl, hU⟩
             · try (exfalso; first | (simp at hc8; done) | (simp only [decide_eq_true_eq, decide_eq_false_iff_not, Bool.not_eq_true', Bool.not_eq_false', Bool.not_eq_true, Bool.not_eq_false] at hc8; omega) | omega)
               all_goals
                try simp only [decide_eq_true_eq, decide_eq_false_iff_not, Bool.not_eq_true', Bool.not_eq_false', Bool.not_eq_true, Bool.not_eq_false, Option.isNone_none, Option.isNone_some, Option.isSome_none, Option.isSome_some, ne_eq, Decidable.not_not] at hc8
                have hs1 : s.length ≤ 1000 := by simp [Str] at hc8; omega
                have hml := memT_le (l.take j) (fun x hx => by obtain ⟨i, hi, rfl⟩ := List.mem_iff_getElem.1 hx; rw [List.length_take] at hi; exact hlen i _ (by rw [List.getElem_take]; exact List.getElem?_eq_getElem (by omega)) (by omega))
                have hml2 : (memT (l.take j)).length ≤ 3780 := by rw [List.length_take] at hml; omega
                have hfit : textN s + (memT (l.take j)).length ≤ 100000 := by unfold textN; omega
                obtain ⟨hm1, hm2⟩ := leftM_fit (n := 0) hfit
                refine WC.skip ?_
                refine WX.next ?_
                refine WC.seq ?_
                refine WC.region ?_
                refine WL.val rfl rfl rfl rfl (r_move rfl (ev_t rfl)) ?_
                refine WL.val rfl rfl rfl rfl (r_move rfl (ev_t rfl)) ?_
                refine WL.val rfl rfl rfl rfl (r_move rfl (ev_t rfl)) ?_
                refine WL.val rfl rfl rfl rfl (r_indexAddr rfl (ev_t rfl) (ev_t rfl) elem_22 size_9 (by omega) (by omega)) ?_
                refine WL.val rfl rfl rfl rfl (r_load rfl (ev_t rfl) flat_9 (hr.cell (j := j) (u := Str s) (show off + (j : Int).toNat * 1 = off + j by omega) (by rw [List.getElem?_map, hgj]; rfl))) ?_
                refine WL.cons (SO.call (puttext_ok (s := s) hH (by omega) (by omega)) rfl body_12 ⟨(ev_t rfl), (ev_t rfl), ev_c, trivial⟩ rfl rfl rfl rfl ?_)
                rintro v w5 ⟨G2, A2, c2, mem2, hH2, hG2, hu5, h3, -⟩
                rw [hm1] at h3
                rw [hm2] at hH2
                obtain ⟨rfl, rfl⟩ := h3 hfit
                replace hR := hR.bound
                generalize hGb : (fun k => Gr k ∧ k < wC.heap.size) = Gb at hR
                have hGbl : ∀ k, Gb k → Gr k ∧ k < wC.heap.size := by subst hGb; exact fun k h => h
                replace hR := hR.upd hu5 (fun k hk hl hS => by have h0 := hGbl k hk; have h1 := hRB k h0.1; rcases hS with hS | hS; exact h1.2.1 hS; exact h1.2.2 hS)
                have hs5 := hu5.size
                replace hU := hU.trans hu5 (by first | exact (fun _ _ h => h) | exact (fun _ _ h => h.elim) | (intro k hl hk; (try simp only [At, New, Grow, From, No] at hk ⊢); omega) | (intro k hl hk; first | exact (show False from hk).elim | (rcases hk with hk | hk; omega; first | (have h2 := hGB _ hk; omega) | (have h2 := hG2B _ hk; omega)) | (have h2 := hk.1; omega) | (have h2 := hRB _ (hGbl _ hk).1; omega)))
                replace hr := hr.upd hu5 (fun k hk hl hS => by have h1 := hF k hk; first | exact (show False from hS).elim | (simp only [At] at hS; omega) | (have h2 := hRB _ (hGbl _ hS).1; omega) | (have h2 := hS.1; simp only [ge_iff_le] at h2; omega) | (rcases hS with hS | hS; omega; first | (have h2 := hGB _ hS; omega) | (have h2 := hG2B _ hS; omega)))
                have hH := hH2
                have hlH := hH.lt
                have hlp := hH.hd.lt
                have hUp := hU.size
                refine WL.val rfl rfl rfl rfl (r_move rfl (ev_t rfl)) ?_
                refine WL.val rfl rfl rfl rfl (r_extract rfl (ev_t rfl) rfl) ?_
                refine WL.val rfl rfl rfl rfl (r_extract rfl (ev_t rfl) rfl) ?_
                refine WL.val rfl rfl rfl rfl (r_assign rfl (ev_t rfl)) ?_
                refine WL.val rfl rfl rfl rfl (r_assign rfl (ev_t rfl)) ?_
                refine WL.nil ?_
                refine WX.keep [(0, _), (3, _), (5, _), (6, _), (7, _), (8, _)] ⟨rfl, rfl, rfl, rfl, rfl, rfl, trivial⟩ ?_
                refine WX.next ?_
                refine WC.seq ?_
                refine WC.seq ?_
                refine WC.region ?_
                refine WL.val rfl rfl rfl rfl (r_move rfl (ev_t rfl)) ?_
                refine WL.val rfl rfl rfl rfl (r_neq rfl (ev_t rfl) ev_c) ?_
                refine WL.nil ?_
                refine WX.keep [(0, _), (3, _), (5, _), (6, _), (7, _), (46, _)] ⟨rfl, rfl, rfl, rfl, rfl, rfl, trivial⟩ ?_
                refine WX.next ?_
                refine WC.cond rfl (ev_t rfl) (fun hc11 => ?_) (fun hc11 => ?_)
                · try (exfalso; first | (simp at hc11; done) | (simp only [decide_eq_true_eq, decide_eq_false_iff_not, Bool.not_eq_true', Bool.not_eq_false', Bool.not_eq_true, Bool.not_eq_false] at hc11; omega) | omega)
                  all_goals
                   try simp only [decide_eq_true_eq, decide_eq_false_iff_not, Bool.not_eq_true', Bool.not_eq_false', Bool.not_eq_true, Bool.not_eq_false, Option.isNone_none, Option.isNone_some, Option.isSome_none, Option.isSome_some, ne_eq, Decidable.not_not] at hc11
                   refine WC.seq ?_
                   refine WC.region ?_
                   refine WL.val rfl rfl rfl rfl (r_assign rfl ev_c) ?_
                   refine WL.nil ?_
                   refine WX.keep [(2, _)] ⟨rfl, trivial⟩ ?_
                   refine WX.next ?_
                   refine WC.ret ?_
                   refine WX.thenRet ?_
                   refine WX.blockRet ?_
                   refine WX.thenRet ?_
                   refine WX.thenRet ?_
                   refine WX.blockRet ?_
                   refine WX.thenRet ?_
                   refine WX.retE1 rfl rfl ?_
                   fail
                · try (exfalso; first | (simp at hc11; done) | (simp only [decide_eq_true_eq, decide_eq_false_iff_not, Bool.not_eq_true', Bool.not_eq_false', Bool.not_eq_true, Bool.not_eq_false] at hc11; omega) | omega)
                  all_goals
                   try simp only [decide_eq_true_eq, decide_eq_false_iff_not, Bool.not_eq_true', Bool.not_eq_false', Bool.not_eq_true, Bool.not_eq_false, Option.isNone_none, Option.isNone_some, Option.isSome_none, Option.isSome_some, ne_eq, Decidable.not_not] at hc11
                   refine WC.skip ?_
                   refine WX.next ?_
                   refine WC.region ?_
                   refine WL.val rfl rfl rfl rfl (r_move rfl (ev_t rfl)) ?_
                   refine WL.val rfl rfl rfl rfl (r_move rfl (ev_t rfl)) ?_
                   refine WL.cons (SO.alloc rfl rfl rfl rfl (r_buildSlice1 (vs := [_]) rfl ⟨(ev_t rfl), trivial⟩ rfl row_30 rfl rfl) ?_)
                   intro w6 hu6 hB6 hz6
                   have hs6 := hu6.size
                   replace hU := hU.trans hu6 (by first | exact (fun _ _ h => h) | exact (fun _ _ h => h.elim) | (intro k hl hk; (try simp only [At, New, Grow, From, No] at hk ⊢); omega) | (intro k hl hk; first | exact (show False from hk).elim | (rcases hk with hk | hk; omega; first | (have h2 := hGB _ hk; omega) | (have h2 := hG2B _ hk; omega)) | (have h2 := hk.1; omega) | (have h2 := hRB _ (hGbl _ hk).1; omega)))
                   replace hr := hr.upd hu6 (fun k hk hl hS => by have h1 := hF k hk; first | exact (show False from hS).elim | (simp only [At] at hS; omega) | (have h2 := hRB _ (hGbl _ hS).1; omega) | (have h2 := hS.1; simp only [ge_iff_le] at h2; omega) | (rcases hS with hS | hS; omega; first | (have h2 := hGB _ hS; omega) | (have h2 := hG2B _ hS; omega)))
                   replace hR := hR.upd hu6 (fun k hk hl hS => by first | exact (show False from hS).elim | (simp only [At] at hS; have h2 := hRB k hk.1; exact h2.2.1 hS) | (have h1 := hk.2; rcases hS with hS | hS; omega; have := hG2B k hS; omega))
                   replace hH := hH.upd hu6 (fun k hk hl hS => by first | exact (show False from hS).elim | (have h2 := hGbl _ hS; have h3 := hRB _ h2.1; rcases hk with hk | hk; exact h3.2.1 hk; have h4 := hG2 _ hk; rcases h4 with h4 | h4; exact h3.2.2 h4; omega) | (rcases hk with hk | hk; (rcases hS with hS | hS; omega; have := hG2B k hS; omega); have h4 := hG3 k hk; rcases hS with hS | hS; omega; have h5 := hCG _ hS; omega))
                   refine WL.cons (SO.append hR (show Rd _ _ _ 1 1 [Wd (2 * (memT (l.take j)).length)] from Rd.of_blk (F := At _) (n := 1) (sz := 1) hB6 rfl rfl (by omega)) row_30 (fun u hu => by simp at hu; subst hu; rfl) (le_maxLen (by omega)) (by omega) rfl (ev_t rfl) (ev_t rfl) rfl rfl rfl rfl ?_)
                   intro v7 w7 hR hu7
                   have hs7 := hu7.size
                   replace hU := hU.trans hu7 (by first | exact (fun _ _ h => h) | exact (fun _ _ h => h.elim) | (intro k hl hk; (try simp only [At, New, Grow, From, No] at hk ⊢); omega) | (intro k hl hk; first | exact (show False from hk).elim | (rcases hk with hk | hk; omega; first | (have h2 := hGB _ hk; omega) | (have h2 := hG2B _ hk; omega)) | (have h2 := hk.1; omega) | (have h2 := hRB _ (hGbl _ hk).1; omega)))
                   replace hr := hr.upd hu7 (fun k hk hl hS => by have h1 := hF k hk; first | exact (show False from hS).elim | (simp only [At] at hS; omega) | (have h2 := hRB _ (hGbl _ hS).1; omega) | (have h2 := hS.1; simp only [ge_iff_le] at h2; omega) | (rcases hS with hS | hS; omega; first | (have h2 := hGB _ hS; omega) | (have h2 := hG2B _ hS; omega)))
                   replace hH := hH.upd hu7 (fun k hk hl hS => by first | exact (show False from hS).elim | (have h2 := hGbl _ hS; have h3 := hRB _ h2.1; rcases hk with hk | hk; exact h3.2.1 hk; have h4 := hG2 _ hk; rcases h4 with h4 | h4; exact h3.2.2 h4; omega) | (rcases hk with hk | hk; (rcases hS with hS | hS; omega; have := hG2B k hS; omega); have h4 := hG3 k hk; rcases hS with hS | hS; omega; have h5 := hCG _ hS; omega))
                   obtain ⟨A7, c7, rfl, hc7⟩ := Own.form hR
                   refine WL.val rfl rfl rfl rfl (r_assign rfl (ev_t rfl)) ?_
                   refine WL.nil ?_
                   refine WX.keep [(0, _), (3, _), (5, _), (6, _)] ⟨rfl, rfl, rfl, rfl, trivial⟩ ?_
                   refine WX.blockNormal ?_
                   refine WX.next ?_
                   refine WC.region ?_
                   refine WL.val rfl rfl rfl rfl (r_move rfl (ev_t rfl)) ?_
                   first | refine WL.val rfl rfl rfl rfl (r_addN rfl (ev_t rfl) ev_c (by simp only [inK]; omega)) ?_ | refine WL.val rfl rfl rfl rfl (r_add rfl (ev_t rfl) ev_c) ?_
                   refine WL.val rfl rfl rfl rfl (r_assign rfl (ev_t rfl)) ?_
                   refine WL.nil ?_
                   refine WX.keep [(0, _), (3, _), (5, _), (6, _)] ⟨rfl, rfl, rfl, rfl, trivial⟩ ?_
                   refine WX.meet [(0, _), (3, _), (5, _), (6, _)] ⟨rfl, rfl, rfl, rfl, trivial⟩ ?_
                   have e5 : memT (l.take j) ++ [s.length * 256 + 3] ++ encT s = memT (l.take (j + 1)) := by rw [take_get hgj, memT_snoc]
                   have hs9 := (hu7).size
                   rw [e5] at hH
                   have e6 : ((List.range j).map (fun i => Wd (2 * placeT l i)) ++ [Wd (2 * (memT (l.take j)).length)]) = (List.range (j + 1)).map (fun i => Wd (2 * placeT l i)) := by rw [List.range_succ, List.map_append]; rfl
                   rw [e6] at hR
                   refine ⟨l.length - (j + 1), by omega, j + 1, p, G2, _, _, _, _, by omega, rfl, ?_, hU, hr, hH, hR, hpB, ?_, ?_, rfl⟩
                   · intro i x hx hi
                     rcases Nat.lt_or_ge i j with h | h
                     · exact hlen i x hx h
                     · obtain rfl : i = j := by omega
                       rw [hgj] at hx
                       injection hx with hx
                       rw [← hx]
                       exact hs1
                   · intro k hk
                     rcases hG2 k hk with h | h
                     · exact hGB k h
                     · omega
                   · intro k hk
                     rcases hk with hk | hk
                     · have h0 := hGbl k hk
                       have h1 := hRB k h0.1
                       refine ⟨h1.1, h1.2.1, fun h => ?_⟩
                       rcases hG2 k h with h | h
                       · exact h1.2.2 h
                       · omega
                     · refine ⟨by omega, by omega, fun h => ?_⟩
                       have := hlH k h
                       omega
          · try (exfalso; first | (simp at hc6; done) | (simp only [decide_eq_true_eq, decide_eq_false_iff_not, Bool.not_eq_true', Bool.not_eq_false', Bool.not_eq_true, Bool.not_eq_false] at hc6; omega) | omega)
            all_goals
             try simp only [decide_eq_true_eq, decide_eq_false_iff_not, Bool.not_eq_true', Bool.not_eq_false', Bool.not_eq_true, Bool.not_eq_false, Option.isNone_none, Option.isNone_some, Option.isSome_none, Option.isSome_some, ne_eq, Decidable.not_not] at hc6
             refine WC.exit ?_
             refine WX.thenExit ?_
             refine WX.thenExit ?_
             refine WX.blockHere ?_
             refine WX.next ?_
             refine WC.seq ?_
             obtain rfl : j = l.length := by
               have : ¬ j < l.length := by simpa using hc6
               omega
             rw [List.take_length] at hH
             have hlen2 : ∀ s ∈ l, s.length ≤ 1000 := fun x hx => by obtain ⟨i, hi, rfl⟩ := List.mem_iff_getElem.1 hx; exact hlen i _ (List.getElem?_eq_getElem hi) hi
             have hml := memT_le l hlen2
             replace hR := hR.bound
             have hGl := hH.lt
             have hBs := hU.size
             have hpl := hH.hd.lt
             refine WC.region ?_
             refine WL.val rfl rfl rfl rfl (r_move rfl (ev_t rfl)) ?_
             refine WL.cons (SO.call (copy_ok hH) rfl body_20 ⟨(ev_t rfl), trivial⟩ rfl rfl rfl rfl ?_)
             rintro v w8 ⟨G2, p2, A2, c2, rfl, hC, hp2, hG2B, hu8⟩
             have hs8 := hu8.size
             replace hU := hU.trans hu8 (by first | exact (fun _ _ h => h) | exact (fun _ _ h => h.elim) | (intro k hl hk; (try simp only [At, New, Grow, From, No] at hk ⊢); omega) | (intro k hl hk; first | exact (show False from hk).elim | (rcases hk with hk | hk; omega; first | (have h2 := hGB _ hk; omega) | (have h2 := hG2B _ hk; omega)) | (have h2 := hk.1; omega) | (have h2 := hRB _ (hGbl _ hk).1; omega)))
             replace hr := hr.upd hu8 (fun k hk hl hS => by have h1 := hF k hk; first | exact (show False from hS).elim | (simp only [At] at hS; omega) | (have h2 := hRB _ (hGbl _ hS).1; omega) | (have h2 := hS.1; simp only [ge_iff_le] at h2; omega) | (rcases hS with hS | hS; omega; first | (have h2 := hGB _ hS; omega) | (have h2 := hG2B _ hS; omega)))
             replace hH := hH.upd hu8 (fun k hk hl hS => by first | exact (show False from hS).elim | (have h2 := hGbl _ hS; have h3 := hRB _ h2.1; rcases hk with hk | hk; exact h3.2.1 hk; have h4 := hG2 _ hk; rcases h4 with h4 | h4; exact h3.2.2 h4; omega) | (rcases hk with hk | hk; (rcases hS with hS | hS; omega; have := hG2B k hS; omega); have h4 := hG3 k hk; rcases hS with hS | hS; omega; have h5 := hCG _ hS; omega))
             replace hR := hR.upd hu8 (fun k hk hl hS => by first | exact (show False from hS).elim | (simp only [At] at hS; have h2 := hRB k hk.1; exact h2.2.1 hS) | (have h1 := hk.2; rcases hS with hS | hS; omega; have := hG2B k hS; omega))
             refine WL.val rfl rfl rfl rfl (r_assign rfl (ev_t rfl)) ?_
             refine WL.nil ?_
             refine WX.keep [(0, _), (3, _), (5, _), (9, _)] ⟨rfl, rfl, rfl, rfl, trivial⟩ ?_
             refine WX.next ?_
             refine WC.seq ?_
             have hpl2 := hH.hd.lt
             have hCl := hC.hd.lt
             have hCG := hC.lt
             refine WC.region ?_
             refine WL.val rfl rfl rfl rfl (r_move rfl (ev_t rfl)) ?_
             refine WL.cons (SO.call (hwords_ok hH) rfl body_22 ⟨(ev_t rfl), trivial⟩ rfl rfl rfl rfl ?_)
             rintro v1 w9 ⟨how1, hu9⟩
             have hs9 := hu9.size
             replace hU := hU.trans hu9 (by first | exact (fun _ _ h => h) | exact (fun _ _ h => h.elim) | (intro k hl hk; (try simp only [At, New, Grow, From, No] at hk ⊢); omega) | (intro k hl hk; first | exact (show False from hk).elim | (rcases hk with hk | hk; omega; first | (have h2 := hGB _ hk; omega) | (have h2 := hG2B _ hk; omega)) | (have h2 := hk.1; omega) | (have h2 := hRB _ (hGbl _ hk).1; omega)))
             replace hr := hr.upd hu9 (fun k hk hl hS => by have h1 := hF k hk; first | exact (show False from hS).elim | (simp only [At] at hS; omega) | (have h2 := hRB _ (hGbl _ hS).1; omega) | (have h2 := hS.1; simp only [ge_iff_le] at h2; omega) | (rcases hS with hS | hS; omega; first | (have h2 := hGB _ hS; omega) | (have h2 := hG2B _ hS; omega)))
             replace hH := hH.upd hu9 (fun k hk hl hS => by first | exact (show False from hS).elim | (have h2 := hGbl _ hS; have h3 := hRB _ h2.1; rcases hk with hk | hk; exact h3.2.1 hk; have h4 := hG2 _ hk; rcases h4 with h4 | h4; exact h3.2.2 h4; omega) | (rcases hk with hk | hk; (rcases hS with hS | hS; omega; have := hG2B k hS; omega); have h4 := hG3 k hk; rcases hS with hS | hS; omega; have h5 := hCG _ hS; omega))
             replace hR := hR.upd hu9 (fun k hk hl hS => by first | exact (show False from hS).elim | (simp only [At] at hS; have h2 := hRB k hk.1; exact h2.2.1 hS) | (have h1 := hk.2; rcases hS with hS | hS; omega; have := hG2B k hS; omega))
             replace hC := hC.upd hu9 (fun k hk hl hS => by first | exact (show False from hS).elim | (simp only [At] at hS; rcases hk with hk | hk; omega; have := hG2B k hk; omega))
             refine WL.cons (SO.call (lwords_ok (how1.rd (by omega)) (by omega)) rfl body_21 ⟨(ev_t rfl), trivial⟩ rfl rfl rfl rfl ?_)
             rintro v2 w10 ⟨how2, hu10⟩
             obtain ⟨A5, k5, rfl, hk5⟩ := how2.form
             have hs10 := hu10.size
             replace hU := hU.trans hu10 (by first | exact (fun _ _ h => h) | exact (fun _ _ h => h.elim) | (intro k hl hk; (try simp only [At, New, Grow, From, No] at hk ⊢); omega) | (intro k hl hk; first | exact (show False from hk).elim | (rcases hk with hk | hk; omega; first | (have h2 := hGB _ hk; omega) | (have h2 := hG2B _ hk; omega)) | (have h2 := hk.1; omega) | (have h2 := hRB _ (hGbl _ hk).1; omega)))
             replace hr := hr.upd hu10 (fun k hk hl hS => by have h1 := hF k hk; first | exact (show False from hS).elim | (simp only [At] at hS; omega) | (have h2 := hRB _ (hGbl _ hS).1; omega) | (have h2 := hS.1; simp only [ge_iff_le] at h2; omega) | (rcases hS with hS | hS; omega; first | (have h2 := hGB _ hS; omega) | (have h2 := hG2B _ hS; omega)))
             replace hH := hH.upd hu10 (fun k hk hl hS => by first | exact (show False from hS).elim | (have h2 := hGbl _ hS; have h3 := hRB _ h2.1; rcases hk with hk | hk; exact h3.2.1 hk; have h4 := hG2 _ hk; rcases h4 with h4 | h4; exact h3.2.2 h4; omega) | (rcases hk with hk | hk; (rcases hS with hS | hS; omega; have := hG2B k hS; omega); have h4 := hG3 k hk; rcases hS with hS | hS; omega; have h5 := hCG _ hS; omega))
             replace hR := hR.upd hu10 (fun k hk hl hS => by first | exact (show False from hS).elim | (simp only [At] at hS; have h2 := hRB k hk.1; exact h2.2.1 hS) | (have h1 := hk.2; rcases hS with hS | hS; omega; have := hG2B k hS; omega))
             replace hC := hC.upd hu10 (fun k hk hl hS => by first | exact (show False from hS).elim | (simp only [At] at hS; rcases hk with hk | hk; omega; have := hG2B k hk; omega))
             refine WL.val rfl rfl rfl rfl (r_assign rfl (ev_t rfl)) ?_
             refine WL.nil ?_
             refine WX.keep [(0, _), (3, _), (5, _), (9, _), (10, _)] ⟨rfl, rfl, rfl, rfl, rfl, trivial⟩ ?_
             refine WX.next ?_
             refine WC.seq ?_
             refine WC.region ?_
             refine WL.val rfl rfl rfl rfl (r_move rfl (ev_t rfl)) ?_
             refine WL.cons (SO.call (collect0_ok hH (by omega)) rfl body_14 ⟨(ev_t rfl), ev_c, trivial⟩ rfl rfl rfl rfl ?_)
             rintro v3 w11 ⟨G3, A3, c3, hH3, hG3, hu11⟩
             have hs11 := hu11.size
             replace hU := hU.trans hu11 (by first | exact (fun _ _ h => h) | exact (fun _ _ h => h.elim) | (intro k hl hk; (try simp only [At, New, Grow, From, No] at hk ⊢); omega) | (intro k hl hk; first | exact (show False from hk).elim | (rcases hk with hk | hk; omega; first | (have h2 := hGB _ hk; omega) | (have h2 := hG2B _ hk; omega)) | (have h2 := hk.1; omega) | (have h2 := hRB _ (hGbl _ hk).1; omega)))
             replace hr := hr.upd hu11 (fun k hk hl hS => by have h1 := hF k hk; first | exact (show False from hS).elim | (simp only [At] at hS; omega) | (have h2 := hRB _ (hGbl _ hS).1; omega) | (have h2 := hS.1; simp only [ge_iff_le] at h2; omega) | (rcases hS with hS | hS; omega; first | (have h2 := hGB _ hS; omega) | (have h2 := hG2B _ hS; omega)))
             replace hR := hR.upd hu11 (fun k hk hl hS => by first | exact (show False from hS).elim | (simp only [At] at hS; have h2 := hRB k hk.1; exact h2.2.1 hS) | (have h1 := hk.2; rcases hS with hS | hS; omega; have := hG2B k hS; omega))
             replace hC := hC.upd hu11 (fun k hk hl hS => by first | exact (show False from hS).elim | (simp only [At] at hS; rcases hk with hk | hk; omega; have := hG2B k hk; omega))
             replace how2 := how2.upd hu11 (fun k hk hl hS => by first | exact (show False from hS).elim | (have h1 := hk.1; first | (simp only [At] at hS; omega) | (rcases hS with hS | hS; omega; have := hCG k hS; omega)))
             have hH := hH3
             refine WL.nil ?_
             refine WX.keep [(0, _), (3, _), (5, _), (9, _), (10, _)] ⟨rfl, rfl, rfl, rfl, rfl, trivial⟩ ?_
             refine WX.next ?_
             refine WC.seq ?_
             have hfit2 : textN more + (memT l).length ≤ 100000 := by
               have : textN more = 2 := by decide
               omega
             obtain ⟨hm3, hm4⟩ := leftM_fit (n := 0) hfit2
             refine WC.region ?_
             refine WL.val rfl rfl rfl rfl (r_move rfl (ev_t rfl)) ?_
             refine WL.cons (SO.call (puttext_ok (s := more) hC (by omega) (by decide)) rfl body_12 ⟨(ev_t rfl), ev_c, ev_c, trivial⟩ rfl rfl rfl rfl ?_)
             rintro v4 w12 ⟨G4, A4, c4, mem4, hC2, hG4, hu12, h3, -⟩
             rw [hm3] at h3
             rw [hm4] at hC2
             obtain ⟨rfl, rfl⟩ := h3 hfit2
             have hs12 := hu12.size
             replace hU := hU.trans hu12 (by first | exact (fun _ _ h => h) | exact (fun _ _ h => h.elim) | (intro k hl hk; (try simp only [At, New, Grow, From, No] at hk ⊢); omega) | (intro k hl hk; first | exact (show False from hk).elim | (rcases hk with hk | hk; omega; first | (have h2 := hGB _ hk; omega) | (have h2 := hG2B _ hk; omega)) | (have h2 := hk.1; omega) | (have h2 := hRB _ (hGbl _ hk).1; omega)))
             replace hr := hr.upd hu12 (fun k hk hl hS => by have h1 := hF k hk; first | exact (show False from hS).elim | (simp only [At] at hS; omega) | (have h2 := hRB _ (hGbl _ hS).1; omega) | (have h2 := hS.1; simp only [ge_iff_le] at h2; omega) | (rcases hS with hS | hS; omega; first | (have h2 := hGB _ hS; omega) | (have h2 := hG2B _ hS; omega)))
             replace hR := hR.upd hu12 (fun k hk hl hS => by first | exact (show False from hS).elim | (simp only [At] at hS; have h2 := hRB k hk.1; exact h2.2.1 hS) | (have h1 := hk.2; rcases hS with hS | hS; omega; have := hG2B k hS; omega))
             replace how2 := how2.upd hu12 (fun k hk hl hS => by first | exact (show False from hS).elim | (have h1 := hk.1; first | (simp only [At] at hS; omega) | (rcases hS with hS | hS; omega; have := hCG k hS; omega)))
             replace hH := hH.upd hu12 (fun k hk hl hS => by first | exact (show False from hS).elim | (have h2 := hGbl _ hS; have h3 := hRB _ h2.1; rcases hk with hk | hk; exact h3.2.1 hk; have h4 := hG2 _ hk; rcases h4 with h4 | h4; exact h3.2.2 h4; omega) | (rcases hk with hk | hk; (rcases hS with hS | hS; omega; have := hG2B k hS; omega); have h4 := hG3 k hk; rcases hS with hS | hS; omega; have h5 := hCG _ hS; omega))
             have hC := hC2
             refine WL.nil ?_
             refine WX.keep [(0, _), (3, _), (5, _), (9, _), (10, _)] ⟨rfl, rfl, rfl, rfl, rfl, trivial⟩ ?_
             refine WX.next ?_
             refine WC.seq ?_
             refine WC.seq ?_
             have hC9 := hC.le.1
             refine WC.region ?_
             refine WL.val rfl rfl rfl rfl (r_move rfl (ev_t rfl)) ?_
             refine WL.cons (SO.call (used_ok hH) rfl body_23 ⟨(ev_t rfl), trivial⟩ rfl rfl rfl rfl ?_)
             rintro v5 w13 ⟨rfl, rfl⟩
             refine WL.val rfl rfl rfl rfl (r_neq rfl (ev_t rfl) ev_c) ?_
             refine WL.val rfl rfl rfl rfl (r_move rfl (ev_t rfl)) ?_
             refine WL.cases 63 rfl (fun hb18_3 => ?_) (fun hb18_3 => ?_)
             · try simp only [decide_eq_true_eq, decide_eq_false_iff_not, Bool.not_eq_true', Bool.not_eq_false', Bool.not_eq_true, Bool.not_eq_false, Option.isNone_none, Option.isNone_some, Option.isSome_none, Option.isSome_some, ne_eq, Decidable.not_not] at hb18_3
               exfalso
               simp at hb18_3
             · try (exfalso; first | (simp at hb18_3; done) | (simp only [decide_eq_true_eq, decide_eq_false_iff_not, Bool.not_eq_true', Bool.not_eq_false', Bool.not_eq_true, Bool.not_eq_false] at hb18_3; omega) | omega)
               all_goals
                try simp only [decide_eq_true_eq, decide_eq_false_iff_not, Bool.not_eq_true', Bool.not_eq_false', Bool.not_eq_true, Bool.not_eq_false, Option.isNone_none, Option.isNone_some, Option.isSome_none, Option.isSome_some, ne_eq, Decidable.not_not] at hb18_3
                refine WL.val rfl rfl rfl rfl (r_move rfl (ev_t rfl)) ?_
                refine WL.cons (SO.call (hwords_ok hC) rfl body_22 ⟨(ev_t rfl), trivial⟩ rfl rfl rfl rfl ?_)
                rintro v6 w14 ⟨how3, hu14⟩
                have hs14 := hu14.size
                replace hU := hU.trans hu14 (by first | exact (fun _ _ h => h) | exact (fun _ _ h => h.elim) | (intro k hl hk; (try simp only [At, New, Grow, From, No] at hk ⊢); omega) | (intro k hl hk; first | exact (show False from hk).elim | (rcases hk with hk | hk; omega; first | (have h2 := hGB _ hk; omega) | (have h2 := hG2B _ hk; omega)) | (have h2 := hk.1; omega) | (have h2 := hRB _ (hGbl _ hk).1; omega)))
                replace hr := hr.upd hu14 (fun k hk hl hS => by have h1 := hF k hk; first | exact (show False from hS).elim | (simp only [At] at hS; omega) | (have h2 := hRB _ (hGbl _ hS).1; omega) | (have h2 := hS.1; simp only [ge_iff_le] at h2; omega) | (rcases hS with hS | hS; omega; first | (have h2 := hGB _ hS; omega) | (have h2 := hG2B _ hS; omega)))
                replace hR := hR.upd hu14 (fun k hk hl hS => by first | exact (show False from hS).elim | (simp only [At] at hS; have h2 := hRB k hk.1; exact h2.2.1 hS) | (have h1 := hk.2; rcases hS with hS | hS; omega; have := hG2B k hS; omega))
                replace how2 := how2.upd hu14 (fun k hk hl hS => by first | exact (show False from hS).elim | (have h1 := hk.1; first | (simp only [At] at hS; omega) | (rcases hS with hS | hS; omega; have := hCG k hS; omega)))
                replace hH := hH.upd hu14 (fun k hk hl hS => by first | exact (show False from hS).elim | (have h2 := hGbl _ hS; have h3 := hRB _ h2.1; rcases hk with hk | hk; exact h3.2.1 hk; have h4 := hG2 _ hk; rcases h4 with h4 | h4; exact h3.2.2 h4; omega) | (rcases hk with hk | hk; (rcases hS with hS | hS; omega; have := hG2B k hS; omega); have h4 := hG3 k hk; rcases hS with hS | hS; omega; have h5 := hCG _ hS; omega))
                replace hC := hC.upd hu14 (fun k hk hl hS => by first | exact (show False from hS).elim | (simp only [At] at hS; rcases hk with hk | hk; omega; have := hG2B k hk; omega))
                refine WL.cons (SO.call (lwords_ok (how3.rd (by omega)) (by omega)) rfl body_21 ⟨(ev_t rfl), trivial⟩ rfl rfl rfl rfl ?_)
                rintro v7 w15 ⟨how4, hu15⟩
                obtain ⟨A6, k6, rfl, hk6⟩ := how4.form
                have hs15 := hu15.size
                replace hU := hU.trans hu15 (by first | exact (fun _ _ h => h) | exact (fun _ _ h => h.elim) | (intro k hl hk; (try simp only [At, New, Grow, From, No] at hk ⊢); omega) | (intro k hl hk; first | exact (show False from hk).elim | (rcases hk with hk | hk; omega; first | (have h2 := hGB _ hk; omega) | (have h2 := hG2B _ hk; omega)) | (have h2 := hk.1; omega) | (have h2 := hRB _ (hGbl _ hk).1; omega)))
                replace hr := hr.upd hu15 (fun k hk hl hS => by have h1 := hF k hk; first | exact (show False from hS).elim | (simp only [At] at hS; omega) | (have h2 := hRB _ (hGbl _ hS).1; omega) | (have h2 := hS.1; simp only [ge_iff_le] at h2; omega) | (rcases hS with hS | hS; omega; first | (have h2 := hGB _ hS; omega) | (have h2 := hG2B _ hS; omega)))
                replace hR := hR.upd hu15 (fun k hk hl hS => by first | exact (show False from hS).elim | (simp only [At] at hS; have h2 := hRB k hk.1; exact h2.2.1 hS) | (have h1 := hk.2; rcases hS with hS | hS; omega; have := hG2B k hS; omega))
                replace how2 := how2.upd hu15 (fun k hk hl hS => by first | exact (show False from hS).elim | (have h1 := hk.1; first | (simp only [At] at hS; omega) | (rcases hS with hS | hS; omega; have := hCG k hS; omega)))
                replace hH := hH.upd hu15 (fun k hk hl hS => by first | exact (show False from hS).elim | (have h2 := hGbl _ hS; have h3 := hRB _ h2.1; rcases hk with hk | hk; exact h3.2.1 hk; have h4 := hG2 _ hk; rcases h4 with h4 | h4; exact h3.2.2 h4; omega) | (rcases hk with hk | hk; (rcases hS with hS | hS; omega; have := hG2B k hS; omega); have h4 := hG3 k hk; rcases hS with hS | hS; omega; have h5 := hCG _ hS; omega))
                replace hC := hC.upd hu15 (fun k hk hl hS => by first | exact (show False from hS).elim | (simp only [At] at hS; rcases hk with hk | hk; omega; have := hG2B k hk; omega))
                have hml9 : (memT l).length ≤ (memT l ++ [more.length * 256 + 3] ++ encT more).length := by simp
                have hs4 := (how4.rd (by omega)).slice (l := 0) (h := (memT l).length) (by omega) hml9
                simp only [cutA_zero, Nat.sub_zero, Nat.mul_one, Nat.zero_mul, List.drop_zero, List.append_assoc, List.map_append] at hs4
                rw [List.take_left' (by simp)] at hs4
                refine WL.val rfl rfl rfl rfl (r_move rfl (ev_t rfl)) ?_
                refine WL.val rfl rfl rfl rfl (r_lenSlice (ts := #[]) rfl (ev_t rfl) elem_46) ?_
                refine WL.val rfl rfl rfl rfl (r_slice (l := 0) (h := (memT l).length) rfl (ev_t rfl) elem_46 size_31 bnd_none (bnd_some (ev_t rfl) (by omega)) (by omega) (by omega) (by omega)) ?_
                rw [cutA_zero]
                refine WL.val rfl rfl rfl rfl (r_move rfl (ev_t rfl)) ?_
                refine WL.cons (SO.call (same_ok (l := memT l) hs4 (how2.rd (by omega)) (by omega)) rfl body_24 ⟨(ev_t rfl), (ev_t rfl), trivial⟩ rfl rfl rfl rfl ?_)
                rintro v8 w16 ⟨rfl, hu16⟩
                have hs16 := hu16.size
                replace hU := hU.trans hu16 (by first | exact (fun _ _ h => h) | exact (fun _ _ h => h.elim) | (intro k hl hk; (try simp only [At, New, Grow, From, No] at hk ⊢); omega) | (intro k hl hk; first | exact (show False from hk).elim | (rcases hk with hk | hk; omega; first | (have h2 := hGB _ hk; omega) | (have h2 := hG2B _ hk; omega)) | (have h2 := hk.1; omega) | (have h2 := hRB _ (hGbl _ hk).1; omega)))
                replace hr := hr.upd hu16 (fun k hk hl hS => by have h1 := hF k hk; first | exact (show False from hS).elim | (simp only [At] at hS; omega) | (have h2 := hRB _ (hGbl _ hS).1; omega) | (have h2 := hS.1; simp only [ge_iff_le] at h2; omega) | (rcases hS with hS | hS; omega; first | (have h2 := hGB _ hS; omega) | (have h2 := hG2B _ hS; omega)))
                replace hR := hR.upd hu16 (fun k hk hl hS => by first | exact (show False from hS).elim | (simp only [At] at hS; have h2 := hRB k hk.1; exact h2.2.1 hS) | (have h1 := hk.2; rcases hS with hS | hS; omega; have := hG2B k hS; omega))
                replace how2 := how2.upd hu16 (fun k hk hl hS => by first | exact (show False from hS).elim | (have h1 := hk.1; first | (simp only [At] at hS; omega) | (rcases hS with hS | hS; omega; have := hCG k hS; omega)))
                replace hH := hH.upd hu16 (fun k hk hl hS => by first | exact (show False from hS).elim | (have h2 := hGbl _ hS; have h3 := hRB _ h2.1; rcases hk with hk | hk; exact h3.2.1 hk; have h4 := hG2 _ hk; rcases h4 with h4 | h4; exact h3.2.2 h4; omega) | (rcases hk with hk | hk; (rcases hS with hS | hS; omega; have := hG2B k hS; omega); have h4 := hG3 k hk; rcases hS with hS | hS; omega; have h5 := hCG _ hS; omega))
                replace hC := hC.upd hu16 (fun k hk hl hS => by first | exact (show False from hS).elim | (simp only [At] at hS; rcases hk with hk | hk; omega; have := hG2B k hk; omega))
                refine WL.val rfl rfl rfl rfl (r_not rfl (ev_t rfl)) ?_
                refine WL.val rfl rfl rfl rfl (r_pickF rfl (ev_t rfl) (ev_t rfl)) ?_
                refine WL.nil ?_
                refine WX.keep [(0, _), (5, _), (9, _), (73, _)] ⟨rfl, rfl, rfl, rfl, trivial⟩ ?_
                refine WX.next ?_
                refine WC.cond rfl (ev_t rfl) (fun hc18 => ?_) (fun hc18 => ?_)
                · try (exfalso; first | (simp at hc18; done) | (simp only [decide_eq_true_eq, decide_eq_false_iff_not, Bool.not_eq_true', Bool.not_eq_false', Bool.not_eq_true, Bool.not_eq_false] at hc18; omega) | omega)
                  all_goals
                   try simp only [decide_eq_true_eq, decide_eq_false_iff_not, Bool.not_eq_true', Bool.not_eq_false', Bool.not_eq_true, Bool.not_eq_false, Option.isNone_none, Option.isNone_some, Option.isSome_none, Option.isSome_some, ne_eq, Decidable.not_not] at hc18
                   refine WC.seq ?_
                   refine WC.region ?_
                   refine WL.val rfl rfl rfl rfl (r_assign rfl ev_c) ?_
                   refine WL.nil ?_
                   refine WX.keep [(2, _)] ⟨rfl, trivial⟩ ?_
                   refine WX.next ?_
                   refine WC.ret ?_
                   refine WX.thenRet ?_
                   refine WX.retE1 rfl rfl ?_
                   fail
                · try (exfalso; first | (simp at hc18; done) | (simp only [decide_eq_true_eq, decide_eq_false_iff_not, Bool.not_eq_true', Bool.not_eq_false', Bool.not_eq_true, Bool.not_eq_false] at hc18; omega) | omega)
                  all_goals
                   try simp only [decide_eq_true_eq, decide_eq_false_iff_not, Bool.not_eq_true', Bool.not_eq_false', Bool.not_eq_true, Bool.not_eq_false, Option.isNone_none, Option.isNone_some, Option.isSome_none, Option.isSome_some, ne_eq, Decidable.not_not] at hc18
                   refine WC.skip ?_
                   refine WX.next ?_
                   refine WC.seq ?_
                   refine WC.seq ?_
                   have hRd := hR.rd (by omega)
                   clear hR
                   obtain ⟨AR, kR, rfl, hkR⟩ := hRd.slice_form
                   refine WC.region ?_
                   refine WL.val rfl rfl rfl rfl (r_assign rfl ev_c) ?_
                   refine WL.nil ?_
                   refine WX.keep [(0, _), (5, _), (9, _), (11, _)] ⟨rfl, rfl, rfl, rfl, trivial⟩ ?_
                   refine WX.next ?_
                   refine WC.block ?_
                   -- loop 2: live [0, 5, 9, 11]
                   refine WC.keep [(0, _), (5, _), (9, _), (11, _)] ⟨rfl, rfl, rfl, rfl, trivial⟩ ?_
                   refine WC.loop (fun qq E wC => ∃ (j : Nat), j ≤ l.length ∧ qq = l.length - j ∧ Upd No w wC ∧ Rd wC F (.slice A l.length c) l.length 1 (l.map Str) ∧ HS wC G4 p2 A4 c4 (memT l ++ [more.length * 256 + 3] ++ encT more) 100000 0 ∧ (∃ Gz, Rd wC Gz (.slice AR l.length kR) l.length 1 ((List.range l.length).map fun i => Wd (2 * placeT l i))) ∧ E = [(0, .slice A l.length c), (5, .slice AR l.length kR), (9, .pointer (some ⟨p2, 0, none⟩)), (11, .int .i64 (j : Int))]) (l.length) ?_ ?_
                   · exact ⟨0, by omega, by omega, hU, hr, hC, ⟨_, hRd⟩, rfl⟩
                   · clear hU hr hC hRd
                     rintro qq E wD ⟨j, hj, rfl, hU, hr, hC, ⟨Gz, hR⟩, rfl⟩
                     have hUs := hU.size
                     refine WC.seq ?_
                     refine WC.seq ?_
                     refine WC.region ?_
                     refine WL.val rfl rfl rfl rfl (r_move rfl (ev_t rfl)) ?_
                     refine WL.val rfl rfl rfl rfl (r_move rfl (ev_t rfl)) ?_
                     refine WL.val rfl rfl rfl rfl (r_lenSlice (ts := #[]) rfl (ev_t rfl) elem_22) ?_
                     refine WL.val rfl rfl rfl rfl (r_lss rfl (ev_t rfl) (ev_t rfl)) ?_
                     refine WL.nil ?_
                     refine WX.keep [(0, _), (5, _), (9, _), (11, _), (77, _)] ⟨rfl, rfl, rfl, rfl, rfl, trivial⟩ ?_
                     refine WX.next ?_
                     refine WC.cond rfl (ev_t rfl) (fun hc21 => ?_) (fun hc21 => ?_)
                     · try (exfalso; first | (simp at hc21; done) | (simp only [decide_eq_true_eq, decide_eq_false_iff_not, Bool.not_eq_true', Bool.not_eq_false', Bool.not_eq_true, Bool.not_eq_false] at hc21; omega) | omega)
                       all_goals
                        try simp only [decide_eq_true_eq, decide_eq_false_iff_not, Bool.not_eq_true', Bool.not_eq_false', Bool.not_eq_true, Bool.not_eq_false, Option.isNone_none, Option.isNone_some, Option.isSome_none, Option.isSome_some, ne_eq, Decidable.not_not] at hc21
                        have hjl : j < l.length := by simpa using hc21
                        obtain ⟨b0, off, rfl, _⟩ := hr.open (by omega)
                        obtain ⟨b1, off1, rfl, _⟩ := hR.open (by omega)
                        have hgj : l[j]? = some l[j] := List.getElem?_eq_getElem hjl
                        generalize l[j] = s at *
                        have hta := (textAt_mem hgj).app (r := [more.length * 256 + 3] ++ encT more)
                        rw [← List.append_assoc] at hta
                        have hs1 := hlen2 s (List.mem_of_getElem? hgj)
                        refine WC.skip ?_
                        refine WX.next ?_
                        refine WC.seq ?_
                        refine WC.block ?_
                        refine WC.seq ?_
                        refine WC.draws' (fun u0_ u1_ => Upd No u0_ u1_) (fun j => [0, 0, 0, 0, 0, 1, 0, 0, 0, 0, 0].getD j 0) (.calm 0 (.calm 1 (.calm 2 (.calm 3 (.calm 6 (.calm 7 (.calm 8 (.held 4 (.held 9 (.one 5 (.calm 10 (.done)))))))))))) mixed (by kernel_rfl) (by repeat (first | with_reducible exact Deaf.body | with_reducible apply Deaf.then | with_reducible apply Deaf.block)) ?_
                        intro w17 hu17
                        have hz17 := congrArg Array.size hu17.2.2.2
                        replace hu17 := Upd.of_draw hu17
                        have hs17 := hu17.size
                        replace hU := hU.trans hu17 (by first | exact (fun _ _ h => h) | exact (fun _ _ h => h.elim) | (intro k hl hk; (try simp only [At, New, Grow, From, No] at hk ⊢); omega) | (intro k hl hk; first | exact (show False from hk).elim | (rcases hk with hk | hk; omega; first | (have h2 := hGB _ hk; omega) | (have h2 := hG2B _ hk; omega)) | (have h2 := hk.1; omega) | (have h2 := hRB _ (hGbl _ hk).1; omega)))
                        replace hr := hr.upd hu17 (fun k hk hl hS => by have h1 := hF k hk; first | exact (show False from hS).elim | (simp only [At] at hS; omega) | (have h2 := hRB _ (hGbl _ hS).1; omega) | (have h2 := hS.1; simp only [ge_iff_le] at h2; omega) | (rcases hS with hS | hS; omega; first | (have h2 := hGB _ hS; omega) | (have h2 := hG2B _ hS; omega)))
                        replace hC := hC.upd hu17 (fun k hk hl hS => by first | exact (show False from hS).elim | (simp only [At] at hS; rcases hk with hk | hk; omega; have := hG2B k hk; omega))
                        replace hR := hR.upd hu17 (fun k hk hl hS => by first | exact (show False from hS).elim | (simp only [At] at hS; have h2 := hRB k hk.1; exact h2.2.1 hS) | (have h1 := hk.2; rcases hS with hS | hS; omega; have := hG2B k hS; omega))
                        have hS23 := Upd.refl No w17
                        refine WN.calm _ rfl rfl rfl rfl rfl (fun _ => r_move rfl (ev_t rfl)) ?_
                        refine WN.calm _ rfl rfl rfl rfl rfl (fun _ => r_move rfl (ev_t rfl)) ?_
                        refine WN.calm _ rfl rfl rfl rfl rfl (fun _ => r_move rfl (ev_t rfl)) ?_
                        refine WN.calm _ rfl rfl rfl rfl rfl (fun _ => r_indexAddr rfl (ev_t rfl) (ev_t rfl) elem_30 size_32 (by omega) (by omega)) ?_
                        refine WN.calm _ rfl rfl rfl rfl rfl (fun _ => r_move rfl (ev_t rfl)) ?_
                        refine WN.calm _ rfl rfl rfl rfl rfl (fun _ => r_move rfl (ev_t rfl)) ?_
                        refine WN.calm _ rfl rfl rfl rfl rfl (fun _ => r_indexAddr rfl (ev_t rfl) (ev_t rfl) elem_22 size_9 (by omega) (by omega)) ?_
                        refine WN.held _ rfl rfl rfl rfl rfl hS23 (fun w' hS => r_load rfl (ev_t rfl) flat_32 ((hR.upd hS (fun _ _ _ h => h)).cell (j := j) (u := Wd (2 * placeT l j)) (show off1 + (j : Int).toNat * 1 = off1 + j by omega) (by rw [List.getElem?_map, List.getElem?_range hjl]; rfl))) ?_
                        refine WN.held _ rfl rfl rfl rfl rfl hS23 (fun w' hS => r_load rfl (ev_t rfl) flat_9 ((hr.upd hS (fun _ _ _ h => h)).cell (j := j) (u := Str s) (show off + (j : Int).toNat * 1 = off + j by omega) (by rw [List.getElem?_map, hgj]; rfl))) ?_
                        refine WN.step _ rfl (SO.call (text_ok hC hta (by omega)) rfl body_15 ⟨(ev_t rfl), (ev_t rfl), trivial⟩ rfl rfl rfl rfl ?_)
                        rintro v9 w18 ⟨rfl, hu18⟩
                        have hs18 := hu18.size
                        replace hS23 := Upd.transA hS23 hu18
                        replace hU := hU.trans hu18 (by first | exact (fun _ _ h => h) | exact (fun _ _ h => h.elim) | (intro k hl hk; (try simp only [At, New, Grow, From, No] at hk ⊢); omega) | (intro k hl hk; first | exact (show False from hk).elim | (rcases hk with hk | hk; omega; first | (have h2 := hGB _ hk; omega) | (have h2 := hG2B _ hk; omega)) | (have h2 := hk.1; omega) | (have h2 := hRB _ (hGbl _ hk).1; omega)))
                        replace hr := hr.upd hu18 (fun k hk hl hS => by have h1 := hF k hk; first | exact (show False from hS).elim | (simp only [At] at hS; omega) | (have h2 := hRB _ (hGbl _ hS).1; omega) | (have h2 := hS.1; simp only [ge_iff_le] at h2; omega) | (rcases hS with hS | hS; omega; first | (have h2 := hGB _ hS; omega) | (have h2 := hG2B _ hS; omega)))
                        replace hC := hC.upd hu18 (fun k hk hl hS => by first | exact (show False from hS).elim | (simp only [At] at hS; rcases hk with hk | hk; omega; have := hG2B k hk; omega))
                        replace hR := hR.upd hu18 (fun k hk hl hS => by first | exact (show False from hS).elim | (simp only [At] at hS; have h2 := hRB k hk.1; exact h2.2.1 hS) | (have h1 := hk.2; rcases hS with hS | hS; omega; have := hG2B k hS; omega))
                        refine ⟨hS23, ?_⟩
                        refine WN.calm _ rfl rfl rfl rfl rfl (fun _ => r_neqStrL rfl (ev_t rfl) (ev_t rfl)) ?_
                        refine WN.done ?_
                        refine WX.keep [(0, _), (5, _), (9, _), (11, _), (90, _)] ⟨rfl, rfl, rfl, rfl, rfl, trivial⟩ ?_
                        refine WX.next ?_
                        refine WC.cond rfl (ev_t rfl) (fun hc23 => ?_) (fun hc23 => ?_)
                        · try simp only [decide_eq_true_eq, decide_eq_false_iff_not, Bool.not_eq_true', Bool.not_eq_false', Bool.not_eq_true, Bool.not_eq_false, Option.isNone_none, Option.isNone_some, Option.isSome_none, Option.isSome_some, ne_eq, Decidable.not_not] at hc23
                          exfalso
                          simp [Str] at hc23
                        · try (exfalso; first | (simp at hc23; done) | (simp only [decide_eq_true_eq, decide_eq_false_iff_not, Bool.not_eq_true', Bool.not_eq_false', Bool.not_eq_true, Bool.not_eq_false] at hc23; omega) | omega)
                          all_goals
                           try simp only [decide_eq_true_eq, decide_eq_false_iff_not, Bool.not_eq_true', Bool.not_eq_false', Bool.not_eq_true, Bool.not_eq_false, Option.isNone_none, Option.isNone_some, Option.isSome_none, Option.isSome_some, ne_eq, Decidable.not_not] at hc23
                           refine WC.skip ?_
                           refine WX.blockNormal ?_
                           refine WX.next ?_
                           refine WC.region ?_
                           refine WL.val rfl rfl rfl rfl (r_move rfl (ev_t rfl)) ?_
                           first | refine WL.val rfl rfl rfl rfl (r_addN rfl (ev_t rfl) ev_c (by simp only [inK]; omega)) ?_ | refine WL.val rfl rfl rfl rfl (r_add rfl (ev_t rfl) ev_c) ?_
                           refine WL.val rfl rfl rfl rfl (r_assign rfl (ev_t rfl)) ?_
                           refine WL.nil ?_
                           refine WX.keep [(0, _), (5, _), (9, _), (11, _)] ⟨rfl, rfl, rfl, rfl, trivial⟩ ?_
                           refine WX.meet [(0, _), (5, _), (9, _), (11, _)] ⟨rfl, rfl, rfl, rfl, trivial⟩ ?_
                           exact ⟨l.length - (j + 1), by omega, j + 1, by omega, rfl, hU, hr, hC, ⟨_, hR⟩, rfl⟩
                     · try (exfalso; first | (simp at hc21; done) | (simp only [decide_eq_true_eq, decide_eq_false_iff_not, Bool.not_eq_true', Bool.not_eq_false', Bool.not_eq_true, Bool.not_eq_false] at hc21; omega) | omega)
                       all_goals
                        try simp only [decide_eq_true_eq, decide_eq_false_iff_not, Bool.not_eq_true', Bool.not_eq_false', Bool.not_eq_true, Bool.not_eq_false, Option.isNone_none, Option.isNone_some, Option.isSome_none, Option.isSome_some, ne_eq, Decidable.not_not] at hc21
                        refine WC.exit ?_
                        refine WX.thenExit ?_
                        refine WX.thenExit ?_
                        refine WX.blockHere ?_
                        refine WX.next ?_
                        refine WC.seq ?_
                        refine WC.region ?_
                        refine WL.val rfl rfl rfl rfl (r_assign rfl ev_c) ?_
                        refine WL.nil ?_
                        refine WX.keep [(2, _)] ⟨rfl, trivial⟩ ?_
                        refine WX.next ?_
                        refine WC.ret ?_
                        refine WX.retE1 rfl rfl ?_
                        exact ⟨rfl, hU⟩
end heapCopies
end Go.Proofs.YtdpnnclkkbfihaaDoor
