/-
  Several texts put together: Seo, Sep, SepO.
-/
import Derived.Test.YtipabhbnljadfaaZe
/-
  The reference's table: Ask, Put.
-/
namespace Go.Proofs.Ytipabhbnljadfaa
open Go
set_option linter.unusedSimpArgs false
set_option linter.unusedVariables false

theorem lbI_here {L : List Ls} {id i : Nat} {x : Ls} (hR : Rise L) (h : L[i]? = some x) (hx : x.id = id) : lbI L id = i ∧ isAt L id = true := by
  have hi : i < L.length := (List.getElem?_eq_some_iff.1 h).1
  have h1 : lbI L id = i := lbI_eq hR (by omega) (fun k y hk hki => by
      have h2 := List.pairwise_iff_getElem.1 hR k i (List.getElem?_eq_some_iff.1 hk).1 hi hki
      rw [(List.getElem?_eq_some_iff.1 hk).2, (List.getElem?_eq_some_iff.1 h).2] at h2
      omega) (fun k y hk hki => by
      rcases Nat.lt_or_ge i k with h3 | h3
      · have h2 := List.pairwise_iff_getElem.1 hR i k hi (List.getElem?_eq_some_iff.1 hk).1 h3
        rw [(List.getElem?_eq_some_iff.1 hk).2, (List.getElem?_eq_some_iff.1 h).2] at h2
        omega
      · obtain rfl : k = i := by omega
        rw [hk] at h
        have := Option.some.inj h
        subst this
        omega)
  refine ⟨h1, ?_⟩
  unfold isAt
  rw [h1, h]
  simpa using hx
theorem isAt_no {L : List Ls} {id : Nat} (hR : Rise L) (h : ∀ (i : Nat) (x : Ls), L[i]? = some x → x.id ≠ id) : isAt L id = false := by
  rw [Bool.eq_false_iff]
  intro h1
  obtain ⟨x, hx, he⟩ := (isAt_iff hR).1 h1
  obtain ⟨i, hi⟩ := List.mem_iff_getElem?.1 hx
  exact h i x hi he

set_option maxHeartbeats 1000000 in
theorem refAsk_ok {w : World} {R : Nat → Prop} {t : Nat} {L : List Ls} {id num : Nat} (hT : IsQ w R t L) (hL : TOK L) (hid : id < 18446744073709551616) (hnum : num < 18446744073709551616) :
    Ret Try.prog 16 #[.pointer (some ⟨t, 0, none⟩), .int .u64 (id : Int), .int .u64 (num : Int)] w fun u w' => ∃ v, u = .tuple #[v, .int .i64 ((askS L id num).2 : Int)] ∧ Rd w' R v (askS L id num).1.length 1 ((askS L id num).1.map U8) ∧ Upd No w w' := by
  obtain ⟨A, c, V, G, H, hB, hO, hD, hLV, hRt, htl, hG, hH⟩ := hT
  have hm := hL.most
  have hlen : V.length = L.length := by rw [← hLV, List.length_map]
  have hr := (hO.rd (by omega)).mono (F' := fun k => k < w.heap.size) (fun k hk => (hG k hk).2.2)
  obtain ⟨res, hres⟩ : ∃ res, askS L id num = res := ⟨_, rfl⟩
  rw [hres]
  unfold askS at hres
  refine enterRet (vs := [_, _, _]) (N := 70) Try.func16 rfl rfl rfl ?_
  have hU := Upd.refl No w
  refine WC.keep [(0, _), (1, _), (2, _)] ⟨rfl, rfl, rfl, trivial⟩ ?_
  refine WC.seq ?_
  refine WC.region ?_
  refine WL.val rfl rfl rfl rfl (r_assign rfl ev_c) ?_
  refine WL.val rfl rfl rfl rfl (r_assign rfl ev_c) ?_
  refine WL.nil ?_
  refine WX.keep [(0, _), (1, _), (2, _)] ⟨rfl, rfl, rfl, trivial⟩ ?_
  refine WX.next ?_
  refine WC.seq ?_
  refine WC.seq ?_
  refine WC.region ?_
  refine WL.val rfl rfl rfl rfl (r_move rfl (ev_t rfl)) ?_
  refine WL.val rfl rfl rfl rfl (r_eql rfl (ev_t rfl) ev_c) ?_
  refine WL.val rfl rfl rfl rfl (r_move rfl (ev_t rfl)) ?_
  refine WL.cases 11 rfl (fun hb1_2 => ?_) (fun hb1_2 => ?_)
  · try (exfalso; first | (simp at hb1_2; done) | (simp only [decide_eq_true_eq, decide_eq_false_iff_not, Bool.not_eq_true', Bool.not_eq_false', Bool.not_eq_true, Bool.not_eq_false] at hb1_2; omega) | omega)
    all_goals
     try simp only [decide_eq_true_eq, decide_eq_false_iff_not, Bool.not_eq_true', Bool.not_eq_false', Bool.not_eq_true, Bool.not_eq_false, Option.isNone_none, Option.isNone_some, Option.isSome_none, Option.isSome_some, ne_eq, Decidable.not_not] at hb1_2
     refine WL.skip rfl rfl rfl ?_
     refine WL.skip rfl rfl rfl ?_
     refine WL.val rfl rfl rfl rfl (r_pickT rfl (ev_t rfl) ev_c) ?_
     refine WL.nil ?_
     refine WX.keep [(0, _), (1, _), (2, _), (14, _)] ⟨rfl, rfl, rfl, rfl, trivial⟩ ?_
     refine WX.next ?_
     refine WC.cond_true rfl (ev_t rfl) ?_
     refine WC.seq ?_
     refine WC.region ?_
     refine WL.val rfl rfl rfl rfl (r_assign rfl ev_c) ?_
     refine WL.val rfl rfl rfl rfl (r_assign rfl ev_c) ?_
     refine WL.nil ?_
     refine WX.keep [(6, _), (7, _)] ⟨rfl, rfl, trivial⟩ ?_
     refine WX.next ?_
     refine WC.ret ?_
     refine WX.thenRet ?_
     refine WX.retE2 rfl rfl rfl ?_
     rw [if_pos (by omega)] at hres
     subst hres
     exact ⟨_, rfl, Rd.nil _ _ _, hU⟩
  · try (exfalso; first | (simp at hb1_2; done) | (simp only [decide_eq_true_eq, decide_eq_false_iff_not, Bool.not_eq_true', Bool.not_eq_false', Bool.not_eq_true, Bool.not_eq_false] at hb1_2; omega) | omega)
    all_goals
     try simp only [decide_eq_true_eq, decide_eq_false_iff_not, Bool.not_eq_true', Bool.not_eq_false', Bool.not_eq_true, Bool.not_eq_false, Option.isNone_none, Option.isNone_some, Option.isSome_none, Option.isSome_some, ne_eq, Decidable.not_not] at hb1_2
     refine WL.val rfl rfl rfl rfl (r_move rfl (ev_t rfl)) ?_
     refine WL.val rfl rfl rfl rfl (r_eql rfl (ev_t rfl) ev_c) ?_
     refine WL.val rfl rfl rfl rfl (r_pickF rfl (ev_t rfl) (ev_t rfl)) ?_
     refine WL.nil ?_
     refine WX.keep [(0, _), (1, _), (2, _), (14, _)] ⟨rfl, rfl, rfl, rfl, trivial⟩ ?_
     refine WX.next ?_
     refine WC.cond rfl (ev_t rfl) (fun hc1 => ?_) (fun hc1 => ?_)
     · try (exfalso; first | (simp at hc1; done) | (simp only [decide_eq_true_eq, decide_eq_false_iff_not, Bool.not_eq_true', Bool.not_eq_false', Bool.not_eq_true, Bool.not_eq_false] at hc1; omega) | omega)
       all_goals
        try simp only [decide_eq_true_eq, decide_eq_false_iff_not, Bool.not_eq_true', Bool.not_eq_false', Bool.not_eq_true, Bool.not_eq_false, Option.isNone_none, Option.isNone_some, Option.isSome_none, Option.isSome_some, ne_eq, Decidable.not_not] at hc1
        refine WC.seq ?_
        refine WC.region ?_
        refine WL.val rfl rfl rfl rfl (r_assign rfl ev_c) ?_
        refine WL.val rfl rfl rfl rfl (r_assign rfl ev_c) ?_
        refine WL.nil ?_
        refine WX.keep [(6, _), (7, _)] ⟨rfl, rfl, trivial⟩ ?_
        refine WX.next ?_
        refine WC.ret ?_
        refine WX.thenRet ?_
        refine WX.retE2 rfl rfl rfl ?_
        rw [if_pos (by omega)] at hres
        subst hres
        exact ⟨_, rfl, Rd.nil _ _ _, hU⟩
     · try (exfalso; first | (simp at hc1; done) | (simp only [decide_eq_true_eq, decide_eq_false_iff_not, Bool.not_eq_true', Bool.not_eq_false', Bool.not_eq_true, Bool.not_eq_false] at hc1; omega) | omega)
       all_goals
        try simp only [decide_eq_true_eq, decide_eq_false_iff_not, Bool.not_eq_true', Bool.not_eq_false', Bool.not_eq_true, Bool.not_eq_false, Option.isNone_none, Option.isNone_some, Option.isSome_none, Option.isSome_some, ne_eq, Decidable.not_not] at hc1
        refine WC.skip ?_
        refine WX.next ?_
        refine WC.seq ?_
        refine WC.seq ?_
        refine WC.region ?_
        refine WL.val rfl rfl rfl rfl (r_assign rfl ev_c) ?_
        refine WL.nil ?_
        refine WX.keep [(0, _), (1, _), (2, _), (8, _)] ⟨rfl, rfl, rfl, rfl, trivial⟩ ?_
        refine WX.next ?_
        refine WC.block ?_
        -- loop 1: live [0, 1, 2, 8]
        refine WC.keep [(0, _), (1, _), (2, _), (8, _)] ⟨rfl, rfl, rfl, rfl, trivial⟩ ?_
        refine WC.loop (fun q E w' => ∃ i : Nat, i ≤ L.length ∧ q = L.length - i ∧ Upd No w w' ∧ (∀ k x, L[k]? = some x → k < i → x.id ≠ id) ∧   E = [(0, .pointer (some ⟨t, 0, none⟩)), (1, .int .u64 (id : Int)), (2, .int .u64 (num : Int)), (8, .int .i64 (i : Int))]) (L.length) ?_ ?_
        · exact ⟨0, by omega, by omega, hU, (fun k x _ h => by omega), rfl⟩
        · clear hU
          rintro q E w' ⟨i, hi, rfl, hU, hno, rfl⟩
          refine WC.seq ?_
          refine WC.seq ?_
          refine WC.region ?_
          refine WL.val rfl rfl rfl rfl (r_move rfl (ev_t rfl)) ?_
          refine WL.val rfl rfl rfl rfl (r_move rfl (ev_t rfl)) ?_
          refine WL.val rfl rfl rfl rfl (r_nilCheck rfl (ev_t rfl)) ?_
          first | refine WL.val rfl rfl rfl rfl (r_field0 rfl (ev_t rfl) fld_42_0) ?_ | refine WL.val rfl rfl rfl rfl (r_fieldAt rfl (ev_t rfl) fld_42_0) ?_
          refine WL.val rfl rfl rfl rfl (r_load rfl (ev_t rfl) flat_40 (Blk.cell (hB.upd hU (fun h => h)) rfl)) ?_
          refine WL.val rfl rfl rfl rfl (r_lenSlice (ts := #[]) rfl (ev_t rfl) elem_40) ?_
          refine WL.val rfl rfl rfl rfl (r_lss rfl (ev_t rfl) (ev_t rfl)) ?_
          refine WL.nil ?_
          refine WX.keep [(0, _), (1, _), (2, _), (8, _), (21, _)] ⟨rfl, rfl, rfl, rfl, rfl, trivial⟩ ?_
          refine WX.next ?_
          refine WC.cond rfl (ev_t rfl) (fun hc4 => ?_) (fun hc4 => ?_)
          · try (exfalso; first | (simp at hc4; done) | (simp only [decide_eq_true_eq, decide_eq_false_iff_not, Bool.not_eq_true', Bool.not_eq_false', Bool.not_eq_true, Bool.not_eq_false] at hc4; omega) | omega)
            all_goals
             try simp only [decide_eq_true_eq, decide_eq_false_iff_not, Bool.not_eq_true', Bool.not_eq_false', Bool.not_eq_true, Bool.not_eq_false, Option.isNone_none, Option.isNone_some, Option.isSome_none, Option.isSome_some, ne_eq, Decidable.not_not] at hc4
             obtain ⟨r, hg⟩ : ∃ r, V[i]? = some r := ⟨_, List.getElem?_eq_getElem (by omega)⟩
             have hLi : L[i]? = some r.x := by rw [← hLV, List.getElem?_map, hg]; rfl
             obtain ⟨b, off, rfl, _⟩ := hr.open (by omega)
             have hcell := flatMap_get LsV.cells_len hg
             refine WC.skip ?_
             refine WX.next ?_
             refine WC.seq ?_
             refine WC.block ?_
             refine WC.seq ?_
             refine WC.seq ?_
             refine WC.region ?_
             refine WL.val rfl rfl rfl rfl (r_move rfl (ev_t rfl)) ?_
             refine WL.val rfl rfl rfl rfl (r_nilCheck rfl (ev_t rfl)) ?_
             first | refine WL.val rfl rfl rfl rfl (r_field0 rfl (ev_t rfl) fld_42_0) ?_ | refine WL.val rfl rfl rfl rfl (r_fieldAt rfl (ev_t rfl) fld_42_0) ?_
             refine WL.val rfl rfl rfl rfl (r_load rfl (ev_t rfl) flat_40 (Blk.cell (hB.upd hU (fun h => h)) rfl)) ?_
             refine WL.val rfl rfl rfl rfl (r_move rfl (ev_t rfl)) ?_
             refine WL.val rfl rfl rfl rfl (r_indexAddr rfl (ev_t rfl) (ev_t rfl) elem_40 size_68 (by omega) (by omega)) ?_
             first | refine WL.val rfl rfl rfl rfl (r_field0 rfl (ev_t rfl) fld_68_0) ?_ | refine WL.val rfl rfl rfl rfl (r_fieldAt rfl (ev_t rfl) fld_68_0) ?_
             refine WL.val rfl rfl rfl rfl (r_load rfl (ev_t rfl) flat_27 (Rd.cell (hr.upd hU (fun _ _ _ h => h)) (j := i * 3) (by omega) (hcell 0 _ rfl))) ?_
             refine WL.val rfl rfl rfl rfl (r_move rfl (ev_t rfl)) ?_
             refine WL.val rfl rfl rfl rfl (r_neq rfl (ev_t rfl) (ev_t rfl)) ?_
             refine WL.nil ?_
             refine WX.keep [(0, _), (1, _), (2, _), (8, _), (33, _)] ⟨rfl, rfl, rfl, rfl, rfl, trivial⟩ ?_
             refine WX.next ?_
             refine WC.cond rfl (ev_t rfl) (fun hc6 => ?_) (fun hc6 => ?_)
             · try (exfalso; first | (simp at hc6; done) | (simp only [decide_eq_true_eq, decide_eq_false_iff_not, Bool.not_eq_true', Bool.not_eq_false', Bool.not_eq_true, Bool.not_eq_false] at hc6; omega) | omega)
               all_goals
                try simp only [decide_eq_true_eq, decide_eq_false_iff_not, Bool.not_eq_true', Bool.not_eq_false', Bool.not_eq_true, Bool.not_eq_false, Option.isNone_none, Option.isNone_some, Option.isSome_none, Option.isSome_some, ne_eq, Decidable.not_not] at hc6
                refine WC.exit ?_
                refine WX.thenExit ?_
                refine WX.blockHere ?_
                refine WX.next ?_
                refine WC.region ?_
                refine WL.val rfl rfl rfl rfl (r_move rfl (ev_t rfl)) ?_
                first | refine WL.val rfl rfl rfl rfl (r_addN rfl (ev_t rfl) ev_c (by simp only [inK]; omega)) ?_ | refine WL.val rfl rfl rfl rfl (r_add rfl (ev_t rfl) ev_c) ?_
                refine WL.val rfl rfl rfl rfl (r_assign rfl (ev_t rfl)) ?_
                refine WL.nil ?_
                refine WX.keep [(0, _), (1, _), (2, _), (8, _)] ⟨rfl, rfl, rfl, rfl, trivial⟩ ?_
                refine WX.meet [(0, _), (1, _), (2, _), (8, _)] ⟨rfl, rfl, rfl, rfl, trivial⟩ ?_
                exact ⟨L.length - (i + 1), by omega, i + 1, by omega, rfl, hU, fun k x hk hki => by
                  rcases Nat.lt_or_ge k i with h | h
                  · exact hno k x hk h
                  · obtain rfl : k = i := by omega
                    rw [hLi] at hk
                    have := Option.some.inj hk
                    subst this
                    omega, rfl⟩
             · try (exfalso; first | (simp at hc6; done) | (simp only [decide_eq_true_eq, decide_eq_false_iff_not, Bool.not_eq_true', Bool.not_eq_false', Bool.not_eq_true, Bool.not_eq_false] at hc6; omega) | omega)
               all_goals
                try simp only [decide_eq_true_eq, decide_eq_false_iff_not, Bool.not_eq_true', Bool.not_eq_false', Bool.not_eq_true, Bool.not_eq_false, Option.isNone_none, Option.isNone_some, Option.isSome_none, Option.isSome_some, ne_eq, Decidable.not_not] at hc6
                refine WC.skip ?_
                refine WX.next ?_
                refine WC.seq ?_
                refine WC.block ?_
                refine WC.seq ?_
                obtain ⟨hl1, hl2⟩ := lbI_here (id := id) hL.rise hLi (by omega)
                rw [if_neg (show ¬ (id = 0 ∨ num = 0) by omega), if_pos hl2, hl1, hLi] at hres
                simp only at hres
                refine WC.region ?_
                refine WL.val rfl rfl rfl rfl (r_move rfl (ev_t rfl)) ?_
                refine WL.val rfl rfl rfl rfl (r_nilCheck rfl (ev_t rfl)) ?_
                first | refine WL.val rfl rfl rfl rfl (r_field0 rfl (ev_t rfl) fld_42_0) ?_ | refine WL.val rfl rfl rfl rfl (r_fieldAt rfl (ev_t rfl) fld_42_0) ?_
                refine WL.val rfl rfl rfl rfl (r_load rfl (ev_t rfl) flat_40 (Blk.cell (hB.upd hU (fun h => h)) rfl)) ?_
                refine WL.val rfl rfl rfl rfl (r_move rfl (ev_t rfl)) ?_
                refine WL.val rfl rfl rfl rfl (r_indexAddr rfl (ev_t rfl) (ev_t rfl) elem_40 size_68 (by omega) (by omega)) ?_
                first | refine WL.val rfl rfl rfl rfl (r_field0 rfl (ev_t rfl) fld_68_1) ?_ | refine WL.val rfl rfl rfl rfl (r_fieldAt rfl (ev_t rfl) fld_68_1) ?_
                refine WL.val rfl rfl rfl rfl (r_load rfl (ev_t rfl) flat_27 (Rd.cell (hr.upd hU (fun _ _ _ h => h)) (j := i * 3 + 1) (by omega) (hcell 1 _ rfl))) ?_
                refine WL.val rfl rfl rfl rfl (r_move rfl (ev_t rfl)) ?_
                refine WL.val rfl rfl rfl rfl (r_lss rfl (ev_t rfl) (ev_t rfl)) ?_
                refine WL.val rfl rfl rfl rfl (r_assign rfl (ev_t rfl)) ?_
                refine WL.nil ?_
                refine WX.keep [(0, _), (2, _), (8, _), (34, _)] ⟨rfl, rfl, rfl, rfl, trivial⟩ ?_
                refine WX.next ?_
                refine WC.cond rfl (ev_t rfl) (fun hc7 => ?_) (fun hc7 => ?_)
                · try (exfalso; first | (simp at hc7; done) | (simp only [decide_eq_true_eq, decide_eq_false_iff_not, Bool.not_eq_true', Bool.not_eq_false', Bool.not_eq_true, Bool.not_eq_false] at hc7; omega) | omega)
                  all_goals
                   try simp only [decide_eq_true_eq, decide_eq_false_iff_not, Bool.not_eq_true', Bool.not_eq_false', Bool.not_eq_true, Bool.not_eq_false, Option.isNone_none, Option.isNone_some, Option.isSome_none, Option.isSome_some, ne_eq, Decidable.not_not] at hc7
                   refine WC.seq ?_
                   refine WC.region ?_
                   refine WL.val rfl rfl rfl rfl (r_assign rfl ev_c) ?_
                   refine WL.val rfl rfl rfl rfl (r_assign rfl ev_c) ?_
                   refine WL.nil ?_
                   refine WX.keep [(6, _), (7, _)] ⟨rfl, rfl, trivial⟩ ?_
                   refine WX.next ?_
                   refine WC.ret ?_
                   refine WX.blockRet ?_
                   refine WX.thenRet ?_
                   refine WX.blockRet ?_
                   refine WX.thenRet ?_
                   refine WX.thenRet ?_
                   refine WX.blockRet ?_
                   refine WX.thenRet ?_
                   refine WX.retE2 rfl rfl rfl ?_
                   rw [if_pos (by omega)] at hres
                   subst hres
                   exact ⟨_, rfl, Rd.nil _ _ _, hU⟩
                · try (exfalso; first | (simp at hc7; done) | (simp only [decide_eq_true_eq, decide_eq_false_iff_not, Bool.not_eq_true', Bool.not_eq_false', Bool.not_eq_true, Bool.not_eq_false] at hc7; omega) | omega)
                  all_goals
                   try simp only [decide_eq_true_eq, decide_eq_false_iff_not, Bool.not_eq_true', Bool.not_eq_false', Bool.not_eq_true, Bool.not_eq_false, Option.isNone_none, Option.isNone_some, Option.isSome_none, Option.isSome_some, ne_eq, Decidable.not_not] at hc7
                   refine WC.seq ?_
                   refine WC.region ?_
                   refine WL.val rfl rfl rfl rfl (r_move rfl (ev_t rfl)) ?_
                   refine WL.val rfl rfl rfl rfl (r_nilCheck rfl (ev_t rfl)) ?_
                   first | refine WL.val rfl rfl rfl rfl (r_field0 rfl (ev_t rfl) fld_42_0) ?_ | refine WL.val rfl rfl rfl rfl (r_fieldAt rfl (ev_t rfl) fld_42_0) ?_
                   refine WL.val rfl rfl rfl rfl (r_load rfl (ev_t rfl) flat_40 (Blk.cell (hB.upd hU (fun h => h)) rfl)) ?_
                   refine WL.val rfl rfl rfl rfl (r_move rfl (ev_t rfl)) ?_
                   refine WL.val rfl rfl rfl rfl (r_indexAddr rfl (ev_t rfl) (ev_t rfl) elem_40 size_68 (by omega) (by omega)) ?_
                   first | refine WL.val rfl rfl rfl rfl (r_field0 rfl (ev_t rfl) fld_68_1) ?_ | refine WL.val rfl rfl rfl rfl (r_fieldAt rfl (ev_t rfl) fld_68_1) ?_
                   refine WL.val rfl rfl rfl rfl (r_load rfl (ev_t rfl) flat_27 (Rd.cell (hr.upd hU (fun _ _ _ h => h)) (j := i * 3 + 1) (by omega) (hcell 1 _ rfl))) ?_
                   refine WL.val rfl rfl rfl rfl (r_move rfl (ev_t rfl)) ?_
                   refine WL.val rfl rfl rfl rfl (r_gtr rfl (ev_t rfl) (ev_t rfl)) ?_
                   refine WL.val rfl rfl rfl rfl (r_assign rfl (ev_t rfl)) ?_
                   refine WL.nil ?_
                   refine WX.keep [(0, _), (8, _), (45, _)] ⟨rfl, rfl, rfl, trivial⟩ ?_
                   refine WX.next ?_
                   refine WC.cond rfl (ev_t rfl) (fun hc9 => ?_) (fun hc9 => ?_)
                   · try (exfalso; first | (simp at hc9; done) | (simp only [decide_eq_true_eq, decide_eq_false_iff_not, Bool.not_eq_true', Bool.not_eq_false', Bool.not_eq_true, Bool.not_eq_false] at hc9; omega) | omega)
                     all_goals
                      try simp only [decide_eq_true_eq, decide_eq_false_iff_not, Bool.not_eq_true', Bool.not_eq_false', Bool.not_eq_true, Bool.not_eq_false, Option.isNone_none, Option.isNone_some, Option.isSome_none, Option.isSome_some, ne_eq, Decidable.not_not] at hc9
                      refine WC.seq ?_
                      refine WC.region ?_
                      refine WL.val rfl rfl rfl rfl (r_assign rfl ev_c) ?_
                      refine WL.val rfl rfl rfl rfl (r_assign rfl ev_c) ?_
                      refine WL.nil ?_
                      refine WX.keep [(6, _), (7, _)] ⟨rfl, rfl, trivial⟩ ?_
                      refine WX.next ?_
                      refine WC.ret ?_
                      refine WX.blockRet ?_
                      refine WX.thenRet ?_
                      refine WX.blockRet ?_
                      refine WX.thenRet ?_
                      refine WX.thenRet ?_
                      refine WX.blockRet ?_
                      refine WX.thenRet ?_
                      refine WX.retE2 rfl rfl rfl ?_
                      rw [if_neg (by omega), if_pos (by omega)] at hres
                      subst hres
                      exact ⟨_, rfl, Rd.nil _ _ _, hU⟩
                   · try (exfalso; first | (simp at hc9; done) | (simp only [decide_eq_true_eq, decide_eq_false_iff_not, Bool.not_eq_true', Bool.not_eq_false', Bool.not_eq_true, Bool.not_eq_false] at hc9; omega) | omega)
                     all_goals
                      try simp only [decide_eq_true_eq, decide_eq_false_iff_not, Bool.not_eq_true', Bool.not_eq_false', Bool.not_eq_true, Bool.not_eq_false, Option.isNone_none, Option.isNone_some, Option.isSome_none, Option.isSome_some, ne_eq, Decidable.not_not] at hc9
                      refine WC.skip ?_
                      refine WX.blockNormal ?_
                      refine WX.next ?_
                      refine WC.seq ?_
                      refine WC.region ?_
                      refine WL.val rfl rfl rfl rfl (r_move rfl (ev_t rfl)) ?_
                      refine WL.val rfl rfl rfl rfl (r_nilCheck rfl (ev_t rfl)) ?_
                      first | refine WL.val rfl rfl rfl rfl (r_field0 rfl (ev_t rfl) fld_42_0) ?_ | refine WL.val rfl rfl rfl rfl (r_fieldAt rfl (ev_t rfl) fld_42_0) ?_
                      refine WL.val rfl rfl rfl rfl (r_load rfl (ev_t rfl) flat_40 (Blk.cell (hB.upd hU (fun h => h)) rfl)) ?_
                      refine WL.val rfl rfl rfl rfl (r_move rfl (ev_t rfl)) ?_
                      refine WL.val rfl rfl rfl rfl (r_indexAddr rfl (ev_t rfl) (ev_t rfl) elem_40 size_68 (by omega) (by omega)) ?_
                      first | refine WL.val rfl rfl rfl rfl (r_field0 rfl (ev_t rfl) fld_68_2) ?_ | refine WL.val rfl rfl rfl rfl (r_fieldAt rfl (ev_t rfl) fld_68_2) ?_
                      refine WL.val rfl rfl rfl rfl (r_load rfl (ev_t rfl) flat_23 (Rd.cell (hr.upd hU (fun _ _ _ h => h)) (j := i * 3 + 2) (by omega) (hcell 2 _ rfl))) ?_
                      refine WL.val rfl rfl rfl rfl (r_assign rfl (ev_t rfl)) ?_
                      refine WL.val rfl rfl rfl rfl (r_assign rfl ev_c) ?_
                      refine WL.nil ?_
                      refine WX.keep [(6, _), (7, _)] ⟨rfl, rfl, trivial⟩ ?_
                      refine WX.next ?_
                      refine WC.ret ?_
                      refine WX.blockRet ?_
                      refine WX.thenRet ?_
                      refine WX.thenRet ?_
                      refine WX.blockRet ?_
                      refine WX.thenRet ?_
                      refine WX.retE2 rfl rfl rfl ?_
                      rw [if_neg (by omega), if_neg (by omega)] at hres
                      subst hres
                      exact ⟨_, rfl, ((hD r (List.mem_of_getElem? hg)).upd hU (fun _ _ _ h => h)).mono (fun k hk => (hH k hk).1), hU⟩
          · try (exfalso; first | (simp at hc4; done) | (simp only [decide_eq_true_eq, decide_eq_false_iff_not, Bool.not_eq_true', Bool.not_eq_false', Bool.not_eq_true, Bool.not_eq_false] at hc4; omega) | omega)
            all_goals
             try simp only [decide_eq_true_eq, decide_eq_false_iff_not, Bool.not_eq_true', Bool.not_eq_false', Bool.not_eq_true, Bool.not_eq_false, Option.isNone_none, Option.isNone_some, Option.isSome_none, Option.isSome_some, ne_eq, Decidable.not_not] at hc4
             refine WC.exit ?_
             refine WX.thenExit ?_
             refine WX.thenExit ?_
             refine WX.blockHere ?_
             refine WX.next ?_
             refine WC.seq ?_
             refine WC.seq ?_
             have hat := isAt_no hL.rise (fun k x hk => hno k x hk (by have := (List.getElem?_eq_some_iff.1 hk).1; omega))
             rw [if_neg (show ¬ (id = 0 ∨ num = 0) by omega), if_neg (by rw [hat]; simp)] at hres
             refine WC.region ?_
             refine WL.val rfl rfl rfl rfl (r_move rfl (ev_t rfl)) ?_
             refine WL.val rfl rfl rfl rfl (r_nilCheck rfl (ev_t rfl)) ?_
             first | refine WL.val rfl rfl rfl rfl (r_field0 rfl (ev_t rfl) fld_42_0) ?_ | refine WL.val rfl rfl rfl rfl (r_fieldAt rfl (ev_t rfl) fld_42_0) ?_
             refine WL.val rfl rfl rfl rfl (r_load rfl (ev_t rfl) flat_40 (Blk.cell (hB.upd hU (fun h => h)) rfl)) ?_
             refine WL.val rfl rfl rfl rfl (r_lenSlice (ts := #[]) rfl (ev_t rfl) elem_40) ?_
             refine WL.val rfl rfl rfl rfl (r_geq rfl (ev_t rfl) ev_c) ?_
             refine WL.nil ?_
             refine WX.keep [(69, _)] ⟨rfl, trivial⟩ ?_
             refine WX.next ?_
             refine WC.cond rfl (ev_t rfl) (fun hc12 => ?_) (fun hc12 => ?_)
             · try (exfalso; first | (simp at hc12; done) | (simp only [decide_eq_true_eq, decide_eq_false_iff_not, Bool.not_eq_true', Bool.not_eq_false', Bool.not_eq_true, Bool.not_eq_false] at hc12; omega) | omega)
               all_goals
                try simp only [decide_eq_true_eq, decide_eq_false_iff_not, Bool.not_eq_true', Bool.not_eq_false', Bool.not_eq_true, Bool.not_eq_false, Option.isNone_none, Option.isNone_some, Option.isSome_none, Option.isSome_some, ne_eq, Decidable.not_not] at hc12
                refine WC.seq ?_
                refine WC.region ?_
                refine WL.val rfl rfl rfl rfl (r_assign rfl ev_c) ?_
                refine WL.val rfl rfl rfl rfl (r_assign rfl ev_c) ?_
                refine WL.nil ?_
                refine WX.keep [(6, _), (7, _)] ⟨rfl, rfl, trivial⟩ ?_
                refine WX.next ?_
                refine WC.ret ?_
                refine WX.thenRet ?_
                refine WX.retE2 rfl rfl rfl ?_
                rw [if_pos (by omega)] at hres
                subst hres
                exact ⟨_, rfl, Rd.nil _ _ _, hU⟩
             · try (exfalso; first | (simp at hc12; done) | (simp only [decide_eq_true_eq, decide_eq_false_iff_not, Bool.not_eq_true', Bool.not_eq_false', Bool.not_eq_true, Bool.not_eq_false] at hc12; omega) | omega)
               all_goals
                try simp only [decide_eq_true_eq, decide_eq_false_iff_not, Bool.not_eq_true', Bool.not_eq_false', Bool.not_eq_true, Bool.not_eq_false, Option.isNone_none, Option.isNone_some, Option.isSome_none, Option.isSome_some, ne_eq, Decidable.not_not] at hc12
                refine WC.skip ?_
                refine WX.next ?_
                refine WC.seq ?_
                refine WC.region ?_
                refine WL.val rfl rfl rfl rfl (r_assign rfl ev_c) ?_
                refine WL.val rfl rfl rfl rfl (r_assign rfl ev_c) ?_
                refine WL.nil ?_
                refine WX.keep [(6, _), (7, _)] ⟨rfl, rfl, trivial⟩ ?_
                refine WX.next ?_
                refine WC.ret ?_
                refine WX.retE2 rfl rfl rfl ?_
                rw [if_neg (by omega)] at hres
                subst hres
                exact ⟨_, rfl, Rd.nil _ _ _, hU⟩

/-- what the reference's Put lays, element by element -/
def rStep (n : LsV) (s : List LsV × Bool) (x : LsV) : List LsV × Bool :=
  let a := if s.2 = false ∧ n.x.id ≤ x.x.id then (s.1 ++ [n], true) else s
  if x.x.id = n.x.id then a else (a.1 ++ [x], a.2)
theorem rStep_true {n : LsV} : ∀ {V acc : List LsV}, (∀ x ∈ V, n.x.id < x.x.id) → V.foldl (rStep n) (acc, true) = (acc ++ V, true)
  | [], acc, _ => by simp
  | x :: V, acc, h => by
    have h1 := h x List.mem_cons_self
    rw [List.foldl_cons]
    have e : rStep n (acc, true) x = (acc ++ [x], true) := by
      unfold rStep
      simp
      omega
    rw [e, rStep_true (fun y hy => h y (List.mem_cons_of_mem _ hy))]
    simp
def rFin (n : LsV) (s : List LsV × Bool) : List LsV := if s.2 = false then s.1 ++ [n] else s.1
theorem rFin_ins {n : LsV} : ∀ {V acc : List LsV}, Rise (lsOf V) → rFin n (V.foldl (rStep n) (acc, false)) = acc ++ (if isAt (lsOf V) n.x.id = true then V.set (lbI (lsOf V) n.x.id) n else V.take (lbI (lsOf V) n.x.id) ++ n :: V.drop (lbI (lsOf V) n.x.id))
  | [], acc, _ => by simp [rFin, isAt, lbI]
  | x :: V, acc, h => by
    obtain ⟨h1, h2⟩ := List.pairwise_cons.1 h
    have hgt : ∀ y ∈ V, x.x.id < y.x.id := fun y hy => h1 y.x (List.mem_map.2 ⟨y, hy, rfl⟩)
    rw [List.foldl_cons]
    rcases Nat.lt_trichotomy x.x.id n.x.id with hc | hc | hc
    · have e : rStep n (acc, false) x = (acc ++ [x], false) := by
        unfold rStep
        simp only [true_and]
        rw [if_neg (by omega), if_neg (by omega)]
      have e1 : lbI (lsOf (x :: V)) n.x.id = lbI (lsOf V) n.x.id + 1 := by
        show (if x.x.id < n.x.id then _ else _) = _
        rw [if_pos hc]
      have e2 : isAt (lsOf (x :: V)) n.x.id = isAt (lsOf V) n.x.id := by
        unfold isAt
        rw [e1]
        rfl
      rw [e, rFin_ins h2, e1, e2]
      split <;> simp
    · have e : rStep n (acc, false) x = (acc ++ [n], true) := by
        unfold rStep
        simp only [true_and]
        rw [if_pos hc, if_pos (by omega)]
      have e1 : lbI (lsOf (x :: V)) n.x.id = 0 := by
        show (if x.x.id < n.x.id then _ else _) = _
        rw [if_neg (by omega)]
      have e2 : isAt (lsOf (x :: V)) n.x.id = true := by
        unfold isAt
        rw [e1]
        simpa using hc
      rw [e, rStep_true (fun y hy => by have := hgt y hy; omega), e1, e2]
      simp [rFin]
    · have e : rStep n (acc, false) x = (acc ++ [n] ++ [x], true) := by
        unfold rStep
        simp only [true_and]
        rw [if_neg (show ¬ x.x.id = n.x.id by omega), if_pos (show n.x.id ≤ x.x.id by omega)]
      have e1 : lbI (lsOf (x :: V)) n.x.id = 0 := by
        show (if x.x.id < n.x.id then _ else _) = _
        rw [if_neg (by omega)]
      have e2 : ¬ isAt (lsOf (x :: V)) n.x.id = true := by
        unfold isAt
        rw [e1]
        simp
        omega
      rw [e, rStep_true (fun y hy => by have := hgt y hy; omega), e1, if_neg e2]
      simp [rFin]
theorem rFin_lsOf {n : LsV} {V : List LsV} {L : List Ls} (hLV : lsOf V = L) (hR : Rise L) : lsOf (rFin n (V.foldl (rStep n) ([], false))) = insS L n.x := by
  rw [rFin_ins (by rw [hLV]; exact hR), List.nil_append, hLV]
  unfold insS
  split
  · rw [lsOf, List.map_set, ← hLV]
  · rw [lsOf, List.map_append, List.map_cons, List.map_take, List.map_drop, ← hLV]
theorem rStep_mem {n x : LsV} {s : List LsV × Bool} {y : LsV} (h : y ∈ (rStep n s x).1) : y ∈ s.1 ∨ y = n ∨ y = x := by
  unfold rStep at h
  simp only at h
  split at h <;> split at h
  · rcases List.mem_append.1 h with h | h
    · exact .inl h
    · exact .inr (.inl (by simpa using h))
  · exact .inl h
  · rcases List.mem_append.1 h with h | h
    · rcases List.mem_append.1 h with h | h
      · exact .inl h
      · exact .inr (.inl (by simpa using h))
    · exact .inr (.inr (by simpa using h))
  · rcases List.mem_append.1 h with h | h
    · exact .inl h
    · exact .inr (.inr (by simpa using h))
theorem rFold_mem {n : LsV} : ∀ {V : List LsV} {s : List LsV × Bool} {y : LsV}, y ∈ (V.foldl (rStep n) s).1 → y ∈ s.1 ∨ y = n ∨ y ∈ V
  | [], s, y, h => .inl h
  | x :: V, s, y, h => by
    rw [List.foldl_cons] at h
    rcases rFold_mem h with h | h | h
    · rcases rStep_mem h with h | h | h
      · exact .inl h
      · exact .inr (.inl h)
      · exact .inr (.inr (h ▸ List.mem_cons_self))
    · exact .inr (.inl h)
    · exact .inr (.inr (List.mem_cons_of_mem _ h))
theorem rFin_mem {n : LsV} {V : List LsV} {y : LsV} (h : y ∈ rFin n (V.foldl (rStep n) ([], false))) : y = n ∨ y ∈ V := by
  unfold rFin at h
  split at h
  · rcases List.mem_append.1 h with h | h
    · rcases rFold_mem h with h | h
      · cases h
      · exact h
    · exact .inl (by simpa using h)
  · rcases rFold_mem h with h | h
    · cases h
    · exact h
theorem rStep_len {n x : LsV} {s : List LsV × Bool} : (rStep n s x).1.length ≤ s.1.length + 2 := by
  unfold rStep
  simp only
  split <;> split <;> simp

theorem rStep_A {n x : LsV} {acc : List LsV} (h1 : n.x.id ≤ x.x.id) (h2 : x.x.id ≠ n.x.id) : rStep n (acc, false) x = (acc ++ [n] ++ [x], true) := by
  unfold rStep
  simp only [true_and]
  rw [if_neg h2, if_pos h1]
theorem rStep_B {n x : LsV} {acc : List LsV} (h : x.x.id = n.x.id) : rStep n (acc, false) x = (acc ++ [n], true) := by
  unfold rStep
  simp only [true_and]
  rw [if_pos h, if_pos (by omega)]
theorem rStep_C {n x : LsV} {acc : List LsV} (h : x.x.id < n.x.id) : rStep n (acc, false) x = (acc ++ [x], false) := by
  unfold rStep
  simp only [true_and]
  rw [if_neg (by omega), if_neg (by omega)]
theorem rStep_D {n x : LsV} {acc : List LsV} (h : x.x.id ≠ n.x.id) : rStep n (acc, true) x = (acc ++ [x], true) := by
  unfold rStep
  simp [h]
theorem rStep_E {n x : LsV} {acc : List LsV} (h : x.x.id = n.x.id) : rStep n (acc, true) x = (acc, true) := by
  unfold rStep
  simp [h]

theorem IsTG.swap {TT TE : TypeId} {w w1 w2 : World} {R G G' H C : Nat → Prop} {t wb cn : Nat} {V Vn : List LsV} {An : Option Addr} {nw : LsV}
    (hD : ∀ r ∈ V, Rd w H r.v r.x.data.length 1 (r.x.data.map U8)) (hRt : R t) (htl : t < w.heap.size) (hH : ∀ k, H k → R k ∧ k ≠ t ∧ ¬ G k ∧ k < w.heap.size)
    (hU : Upd No w w1) (hnw : Rd w1 C nw.v nw.x.data.length 1 (nw.x.data.map U8)) (hC : ∀ k, C k → w.heap.size ≤ k ∧ k < wb) (hl : Own w1 G' TE 3 (.slice An Vn.length cn) Vn.length (Vn.flatMap LsV.cells))
    (hG : ∀ k, G' k → wb ≤ k ∧ k < w1.heap.size) (hm : ∀ y ∈ Vn, y = nw ∨ y ∈ V) (hB : Blk w2 t #[.slice An Vn.length cn] TT) (hS : Upd (At t) w1 w2) (hb : w.heap.size ≤ wb ∧ wb ≤ w1.heap.size) : IsTG TT TE w2 (Grow R w w2) t (lsOf Vn) := by
  have h1 := hU.size
  have h2 := hS.size
  refine ⟨An, cn, Vn, G', fun k => H k ∨ C k, hB, hl.upd hS (fun k hk _ hS => by simp only [At] at hS; have := hG k hk; omega), fun r hr => ?_, rfl, .inl hRt, by omega, fun k hk => ?_, fun k hk => ?_⟩
  · rcases hm r hr with rfl | hr
    · exact (hnw.upd hS (fun k hk _ hS => by simp only [At] at hS; have := hC k hk; omega)).mono fun k hk => .inr hk
    · exact (((hD r hr).upd hU (fun _ _ _ h => h)).upd hS (fun k hk _ hS => by simp only [At] at hS; exact (hH k hk).2.1 hS)).mono fun k hk => .inl hk
  · have := hG k hk
    exact ⟨.inr ⟨by omega, by omega⟩, by omega, by omega⟩
  · rcases hk with hk | hk
    · have := hH k hk
      exact ⟨.inl this.1, this.2.1, fun h => by have := hG k h; omega, by omega⟩
    · have := hC k hk
      exact ⟨.inr ⟨by omega, by omega⟩, by omega, fun h => by have := hG k h; omega, by omega⟩

set_option maxHeartbeats 4000000 in
theorem refPut_ok {w : World} {R K : Nat → Prop} {t : Nat} {L : List Ls} {id num : Nat} {pv : Value} {data : List UInt8} (hT : IsQ w R t L) (hL : TOK L) (hid : id < 18446744073709551616) (hnum : num < 18446744073709551616)
    (hp : Rd w K pv data.length 1 (data.map U8)) :
    Ret Try.prog 15 #[.pointer (some ⟨t, 0, none⟩), .int .u64 (id : Int), .int .u64 (num : Int), pv] w fun u w' => u = .int .i64 ((putS L ⟨id, num, data⟩).2 : Int) ∧ IsQ w' (Grow R w w') t (putS L ⟨id, num, data⟩).1 ∧ Upd (At t) w w' := by
  have hput : putS L ⟨id, num, data⟩ = if (askS L id num).2 = 6 then (insS L ⟨id, num, data⟩, 0) else if (askS L id num).2 = 0 then (L, 7) else (L, (askS L id num).2) := rfl
  have hT' := hT
  obtain ⟨A, c, V, G, H, hB, hO, hD, hLV, hRt, htl, hG, hH⟩ := hT'
  have hm := hL.most
  have hlen : V.length = L.length := by rw [← hLV, List.length_map]
  have hr := (hO.rd (by omega)).mono (F' := fun k => k < w.heap.size) (fun k hk => (hG k hk).2.2)
  generalize hask : (askS L id num).2 = e at hput
  have hpm := hp.le
  obtain ⟨Ap, cp, rfl, hcp⟩ := hp.slice_form
  refine enterRet (vs := [_, _, _, _]) (N := 93) Try.func15 rfl rfl rfl ?_
  have hU := Upd.refl No w
  refine WC.keep [(0, _), (1, _), (2, _), (3, _)] ⟨rfl, rfl, rfl, rfl, trivial⟩ ?_
  refine WC.seq ?_
  refine WC.region ?_
  refine WL.val rfl rfl rfl rfl (r_assign rfl ev_c) ?_
  refine WL.nil ?_
  refine WX.keep [(0, _), (1, _), (2, _), (3, _)] ⟨rfl, rfl, rfl, rfl, trivial⟩ ?_
  refine WX.next ?_
  refine WC.seq ?_
  refine WC.region ?_
  refine WL.val rfl rfl rfl rfl (r_move rfl (ev_t rfl)) ?_
  refine WL.val rfl rfl rfl rfl (r_move rfl (ev_t rfl)) ?_
  refine WL.val rfl rfl rfl rfl (r_move rfl (ev_t rfl)) ?_
  refine WL.cons (SO.call (refAsk_ok hT hL hid hnum) rfl body_16 ⟨(ev_t rfl), (ev_t rfl), (ev_t rfl), trivial⟩ rfl rfl rfl rfl ?_)
  rintro v w1 ⟨v9, rfl, _, hu1⟩
  rw [hask]
  have hs1 := hu1.size
  replace hU := hU.trans hu1 (by first | exact (fun _ _ h => h) | exact (fun _ _ h => h.elim) | (intro k hl hk; (try simp only [At, New, Grow, From, No] at hk ⊢); omega) | (intro k hl hk; (try simp only [At, New, Grow, From, No] at *); omega))
  refine WL.val rfl rfl rfl rfl (r_move rfl (ev_t rfl)) ?_
  refine WL.val rfl rfl rfl rfl (r_extract rfl (ev_t rfl) rfl) ?_
  refine WL.val rfl rfl rfl rfl (r_extract rfl (ev_t rfl) rfl) ?_
  refine WL.val rfl rfl rfl rfl (r_assign rfl (ev_t rfl)) ?_
  refine WL.val rfl rfl rfl rfl (r_assign rfl (ev_t rfl)) ?_
  refine WL.nil ?_
  refine WX.keep [(0, _), (1, _), (2, _), (3, _), (10, _)] ⟨rfl, rfl, rfl, rfl, rfl, trivial⟩ ?_
  refine WX.next ?_
  refine WC.seq ?_
  refine WC.seq ?_
  refine WC.region ?_
  refine WL.val rfl rfl rfl rfl (r_move rfl (ev_t rfl)) ?_
  refine WL.val rfl rfl rfl rfl (r_eql rfl (ev_t rfl) ev_c) ?_
  refine WL.nil ?_
  refine WX.keep [(0, _), (1, _), (2, _), (3, _), (10, _), (23, _)] ⟨rfl, rfl, rfl, rfl, rfl, rfl, trivial⟩ ?_
  refine WX.next ?_
  refine WC.cond rfl (ev_t rfl) (fun hc2 => ?_) (fun hc2 => ?_)
  · try (exfalso; first | (simp at hc2; done) | (simp only [decide_eq_true_eq, decide_eq_false_iff_not, Bool.not_eq_true', Bool.not_eq_false', Bool.not_eq_true, Bool.not_eq_false] at hc2; omega) | omega)
    all_goals
     try simp only [decide_eq_true_eq, decide_eq_false_iff_not, Bool.not_eq_true', Bool.not_eq_false', Bool.not_eq_true, Bool.not_eq_false, Option.isNone_none, Option.isNone_some, Option.isSome_none, Option.isSome_some, ne_eq, Decidable.not_not] at hc2
     refine WC.seq ?_
     refine WC.region ?_
     refine WL.val rfl rfl rfl rfl (r_assign rfl ev_c) ?_
     refine WL.nil ?_
     refine WX.keep [(8, _)] ⟨rfl, trivial⟩ ?_
     refine WX.next ?_
     refine WC.ret ?_
     refine WX.thenRet ?_
     refine WX.retE1 rfl rfl ?_
     have e9 : putS L ⟨id, num, data⟩ = (L, 7) := by rw [hput, if_neg (by omega), if_pos (by omega)]
     rw [e9]
     exact ⟨rfl, (hT.upd hU (fun _ _ _ h => h)).mono (fun k hk _ => .inl hk), hU.mono (fun _ _ h => h.elim)⟩
  · try (exfalso; first | (simp at hc2; done) | (simp only [decide_eq_true_eq, decide_eq_false_iff_not, Bool.not_eq_true', Bool.not_eq_false', Bool.not_eq_true, Bool.not_eq_false] at hc2; omega) | omega)
    all_goals
     try simp only [decide_eq_true_eq, decide_eq_false_iff_not, Bool.not_eq_true', Bool.not_eq_false', Bool.not_eq_true, Bool.not_eq_false, Option.isNone_none, Option.isNone_some, Option.isSome_none, Option.isSome_some, ne_eq, Decidable.not_not] at hc2
     refine WC.skip ?_
     refine WX.next ?_
     refine WC.seq ?_
     refine WC.seq ?_
     refine WC.region ?_
     refine WL.val rfl rfl rfl rfl (r_move rfl (ev_t rfl)) ?_
     refine WL.val rfl rfl rfl rfl (r_neq rfl (ev_t rfl) ev_c) ?_
     refine WL.nil ?_
     refine WX.keep [(0, _), (1, _), (2, _), (3, _), (10, _), (25, _)] ⟨rfl, rfl, rfl, rfl, rfl, rfl, trivial⟩ ?_
     refine WX.next ?_
     refine WC.cond rfl (ev_t rfl) (fun hc4 => ?_) (fun hc4 => ?_)
     · try (exfalso; first | (simp at hc4; done) | (simp only [decide_eq_true_eq, decide_eq_false_iff_not, Bool.not_eq_true', Bool.not_eq_false', Bool.not_eq_true, Bool.not_eq_false] at hc4; omega) | omega)
       all_goals
        try simp only [decide_eq_true_eq, decide_eq_false_iff_not, Bool.not_eq_true', Bool.not_eq_false', Bool.not_eq_true, Bool.not_eq_false, Option.isNone_none, Option.isNone_some, Option.isSome_none, Option.isSome_some, ne_eq, Decidable.not_not] at hc4
        refine WC.seq ?_
        refine WC.region ?_
        refine WL.val rfl rfl rfl rfl (r_move rfl (ev_t rfl)) ?_
        refine WL.val rfl rfl rfl rfl (r_assign rfl (ev_t rfl)) ?_
        refine WL.nil ?_
        refine WX.keep [(8, _)] ⟨rfl, trivial⟩ ?_
        refine WX.next ?_
        refine WC.ret ?_
        refine WX.thenRet ?_
        refine WX.retE1 rfl rfl ?_
        have e9 : putS L ⟨id, num, data⟩ = (L, e) := by rw [hput, if_neg (by omega), if_neg (by omega)]
        rw [e9]
        exact ⟨rfl, (hT.upd hU (fun _ _ _ h => h)).mono (fun k hk _ => .inl hk), hU.mono (fun _ _ h => h.elim)⟩
     · try (exfalso; first | (simp at hc4; done) | (simp only [decide_eq_true_eq, decide_eq_false_iff_not, Bool.not_eq_true', Bool.not_eq_false', Bool.not_eq_true, Bool.not_eq_false] at hc4; omega) | omega)
       all_goals
        try simp only [decide_eq_true_eq, decide_eq_false_iff_not, Bool.not_eq_true', Bool.not_eq_false', Bool.not_eq_true, Bool.not_eq_false, Option.isNone_none, Option.isNone_some, Option.isSome_none, Option.isSome_some, ne_eq, Decidable.not_not] at hc4
        refine WC.skip ?_
        refine WX.next ?_
        refine WC.seq ?_
        refine WC.region ?_
        refine WL.val rfl rfl rfl rfl (r_assign rfl ev_c) ?_
        refine WL.nil ?_
        refine WX.keep [(0, _), (1, _), (2, _), (3, _), (11, _)] ⟨rfl, rfl, rfl, rfl, rfl, trivial⟩ ?_
        refine WX.next ?_
        refine WC.seq ?_
        refine WC.region ?_
        refine WL.val rfl rfl rfl rfl (r_move rfl (ev_t rfl)) ?_
        refine WL.val rfl rfl rfl rfl (r_move rfl (ev_t rfl)) ?_
        refine WL.cons (SO.append (Own.nil _ (fun _ => False) _ _) (hp.upd hU (fun _ _ _ h => h)) row_23 (U8_one _) (le_maxLen (by omega)) (by omega) rfl (ev_t rfl) (ev_t rfl) rfl rfl rfl rfl ?_)
        intro v2 w2 hb hu2
        have hs2 := hu2.size
        replace hU := hU.trans hu2 (by first | exact (fun _ _ h => h) | exact (fun _ _ h => h.elim) | (intro k hl hk; (try simp only [At, New, Grow, From, No] at hk ⊢); omega) | (intro k hl hk; (try simp only [At, New, Grow, From, No] at *); omega))
        obtain ⟨A2, c2, rfl, hc2⟩ := Own.form hb
        simp only [Nat.zero_add, List.nil_append] at hb ⊢
        replace hb := Own.nilGrow hb
        have hbn : ∀ k, New w1 w2 k → w.heap.size ≤ k ∧ k < w2.heap.size := fun k hk => by have := hu2.size; simp only [New] at hk; omega
        generalize New w1 w2 = C at *
        refine WL.val rfl rfl rfl rfl (r_assign rfl (ev_t rfl)) ?_
        refine WL.nil ?_
        refine WX.keep [(0, _), (1, _), (2, _), (11, _)] ⟨rfl, rfl, rfl, rfl, trivial⟩ ?_
        obtain ⟨nw, hnw⟩ : ∃ nw : LsV, nw = ⟨⟨id, num, data⟩, .slice A2 data.length c2⟩ := ⟨_, rfl⟩
        have hni : nw.x.id = id := by rw [hnw]
        have hwb := Upd.refl No w2
        have hbs := hU.size
        refine WX.next ?_
        refine WC.seq ?_
        refine WC.region ?_
        refine WL.val rfl rfl rfl rfl (r_assign rfl ev_c) ?_
        refine WL.nil ?_
        refine WX.keep [(0, _), (1, _), (2, _), (11, _), (12, _)] ⟨rfl, rfl, rfl, rfl, rfl, trivial⟩ ?_
        refine WX.next ?_
        refine WC.seq ?_
        refine WC.region ?_
        refine WL.val rfl rfl rfl rfl (r_assign rfl ev_c) ?_
        refine WL.nil ?_
        refine WX.keep [(0, _), (1, _), (2, _), (11, _), (12, _), (13, _)] ⟨rfl, rfl, rfl, rfl, rfl, rfl, trivial⟩ ?_
        refine WX.next ?_
        refine WC.seq ?_
        refine WC.seq ?_
        refine WC.region ?_
        refine WL.val rfl rfl rfl rfl (r_assign rfl ev_c) ?_
        refine WL.nil ?_
        refine WX.keep [(0, _), (1, _), (2, _), (11, _), (12, _), (13, _), (14, _)] ⟨rfl, rfl, rfl, rfl, rfl, rfl, rfl, trivial⟩ ?_
        refine WX.next ?_
        refine WC.block ?_
        -- loop 1: live [0, 1, 2, 11, 12, 13, 14]
        refine WC.keep [(0, _), (1, _), (2, _), (11, _), (12, _), (13, _), (14, _)] ⟨rfl, rfl, rfl, rfl, rfl, rfl, rfl, trivial⟩ ?_
        refine WC.loop (fun q E w' => ∃ (i : Nat) (acc : List LsV) (dn : Bool) (Al : Option Addr) (cl : Nat), i ≤ V.length ∧ q = V.length - i ∧ Upd No w w' ∧ Upd No w2 w' ∧ acc.length ≤ 2 * i ∧ (V.take i).foldl (rStep nw) ([], false) = (acc, dn) ∧ Own w' (New w2 w') 68 3 (.slice Al acc.length cl) acc.length (acc.flatMap LsV.cells) ∧   E = [(0, .pointer (some ⟨t, 0, none⟩)), (1, .int .u64 (id : Int)), (2, .int .u64 (num : Int)), (11, .slice A2 data.length c2), (12, .slice Al acc.length cl), (13, .bool dn), (14, .int .i64 (i : Int))]) (V.length) ?_ ?_
        · exact ⟨0, [], false, none, 0, by omega, by omega, hU, hwb, by simp, rfl, Own.nil _ _ _ _, rfl⟩
        · clear hU hwb
          rintro q E w' ⟨i, acc, dn, Al, cl, hi, rfl, hU, hwb, hal, hfo, hl, rfl⟩
          have hw0 := hU.size
          have hw2 := hwb.size
          refine WC.seq ?_
          refine WC.seq ?_
          refine WC.region ?_
          refine WL.val rfl rfl rfl rfl (r_move rfl (ev_t rfl)) ?_
          refine WL.val rfl rfl rfl rfl (r_move rfl (ev_t rfl)) ?_
          refine WL.val rfl rfl rfl rfl (r_nilCheck rfl (ev_t rfl)) ?_
          first | refine WL.val rfl rfl rfl rfl (r_field0 rfl (ev_t rfl) fld_42_0) ?_ | refine WL.val rfl rfl rfl rfl (r_fieldAt rfl (ev_t rfl) fld_42_0) ?_
          refine WL.val rfl rfl rfl rfl (r_load rfl (ev_t rfl) flat_40 (Blk.cell (hB.upd hU (fun h => h)) rfl)) ?_
          refine WL.val rfl rfl rfl rfl (r_lenSlice (ts := #[]) rfl (ev_t rfl) elem_40) ?_
          refine WL.val rfl rfl rfl rfl (r_lss rfl (ev_t rfl) (ev_t rfl)) ?_
          refine WL.nil ?_
          refine WX.keep [(0, _), (1, _), (2, _), (11, _), (12, _), (13, _), (14, _), (36, _)] ⟨rfl, rfl, rfl, rfl, rfl, rfl, rfl, rfl, trivial⟩ ?_
          refine WX.next ?_
          refine WC.cond rfl (ev_t rfl) (fun hc11 => ?_) (fun hc11 => ?_)
          · try (exfalso; first | (simp at hc11; done) | (simp only [decide_eq_true_eq, decide_eq_false_iff_not, Bool.not_eq_true', Bool.not_eq_false', Bool.not_eq_true, Bool.not_eq_false] at hc11; omega) | omega)
            all_goals
             try simp only [decide_eq_true_eq, decide_eq_false_iff_not, Bool.not_eq_true', Bool.not_eq_false', Bool.not_eq_true, Bool.not_eq_false, Option.isNone_none, Option.isNone_some, Option.isSome_none, Option.isSome_some, ne_eq, Decidable.not_not] at hc11
             obtain ⟨r, hg⟩ : ∃ r, V[i]? = some r := ⟨_, List.getElem?_eq_getElem (by omega)⟩
             obtain ⟨b, off, rfl, _⟩ := hr.open (by omega)
             have hcell := flatMap_get LsV.cells_len hg
             have hrv : r.v.oneCell' = true := by obtain ⟨_, _, e1, _⟩ := hD r (List.mem_of_getElem? hg); rw [e1]; rfl
             have hfs : (V.take (i + 1)).foldl (rStep nw) ([], false) = rStep nw (acc, dn) r := by rw [List.take_add_one, hg, Option.toList_some, List.foldl_append, hfo]; rfl
             refine WC.skip ?_
             refine WX.next ?_
             refine WC.seq ?_
             refine WC.block ?_
             refine WC.seq ?_
             refine WC.seq ?_
             refine WC.region ?_
             refine WL.val rfl rfl rfl rfl (r_move rfl (ev_t rfl)) ?_
             refine WL.val rfl rfl rfl rfl (r_not rfl (ev_t rfl)) ?_
             refine WL.val rfl rfl rfl rfl (r_move rfl (ev_t rfl)) ?_
             refine WL.cases 41 rfl (fun hb13_2 => ?_) (fun hb13_2 => ?_)
             · try (exfalso; first | (simp at hb13_2; done) | (simp only [decide_eq_true_eq, decide_eq_false_iff_not, Bool.not_eq_true', Bool.not_eq_false', Bool.not_eq_true, Bool.not_eq_false] at hb13_2; omega) | omega)
               all_goals
                try simp only [decide_eq_true_eq, decide_eq_false_iff_not, Bool.not_eq_true', Bool.not_eq_false', Bool.not_eq_true, Bool.not_eq_false, Option.isNone_none, Option.isNone_some, Option.isSome_none, Option.isSome_some, ne_eq, Decidable.not_not] at hb13_2
                subst hb13_2
                refine WL.val rfl rfl rfl rfl (r_move rfl (ev_t rfl)) ?_
                refine WL.val rfl rfl rfl rfl (r_nilCheck rfl (ev_t rfl)) ?_
                first | refine WL.val rfl rfl rfl rfl (r_field0 rfl (ev_t rfl) fld_42_0) ?_ | refine WL.val rfl rfl rfl rfl (r_fieldAt rfl (ev_t rfl) fld_42_0) ?_
                refine WL.val rfl rfl rfl rfl (r_load rfl (ev_t rfl) flat_40 (Blk.cell (hB.upd hU (fun h => h)) rfl)) ?_
                refine WL.val rfl rfl rfl rfl (r_move rfl (ev_t rfl)) ?_
                refine WL.val rfl rfl rfl rfl (r_indexAddr rfl (ev_t rfl) (ev_t rfl) elem_40 size_68 (by omega) (by omega)) ?_
                first | refine WL.val rfl rfl rfl rfl (r_field0 rfl (ev_t rfl) fld_68_0) ?_ | refine WL.val rfl rfl rfl rfl (r_fieldAt rfl (ev_t rfl) fld_68_0) ?_
                refine WL.val rfl rfl rfl rfl (r_load rfl (ev_t rfl) flat_27 (Rd.cell (hr.upd hU (fun _ _ _ h => h)) (j := i * 3) (by omega) (hcell 0 _ rfl))) ?_
                refine WL.val rfl rfl rfl rfl (r_move rfl (ev_t rfl)) ?_
                refine WL.val rfl rfl rfl rfl (r_geq rfl (ev_t rfl) (ev_t rfl)) ?_
                refine WL.val rfl rfl rfl rfl (r_pickT rfl (ev_t rfl) (ev_t rfl)) ?_
                refine WL.nil ?_
                refine WX.keep [(0, _), (1, _), (2, _), (11, _), (12, _), (13, _), (14, _), (52, _)] ⟨rfl, rfl, rfl, rfl, rfl, rfl, rfl, rfl, trivial⟩ ?_
                refine WX.next ?_
                refine WC.cond rfl (ev_t rfl) (fun hc13 => ?_) (fun hc13 => ?_)
                · try (exfalso; first | (simp at hc13; done) | (simp only [decide_eq_true_eq, decide_eq_false_iff_not, Bool.not_eq_true', Bool.not_eq_false', Bool.not_eq_true, Bool.not_eq_false] at hc13; omega) | omega)
                  all_goals
                   try simp only [decide_eq_true_eq, decide_eq_false_iff_not, Bool.not_eq_true', Bool.not_eq_false', Bool.not_eq_true, Bool.not_eq_false, Option.isNone_none, Option.isNone_some, Option.isSome_none, Option.isSome_some, ne_eq, Decidable.not_not] at hc13
                   refine WC.seq ?_
                   refine WC.region ?_
                   refine WL.val rfl rfl rfl rfl (r_move rfl (ev_t rfl)) ?_
                   refine WL.val rfl rfl rfl rfl (r_move rfl (ev_t rfl)) ?_
                   refine WL.val rfl rfl rfl rfl (r_move rfl (ev_t rfl)) ?_
                   refine WL.val rfl rfl rfl rfl (r_move rfl (ev_t rfl)) ?_
                   refine WL.val rfl rfl rfl rfl (r_build (cs := #[_, _, _]) (vs := [(0, _), (1, _), (2, _)]) rfl ⟨⟨rfl, (ev_t rfl)⟩, ⟨rfl, (ev_t rfl)⟩, ⟨rfl, (ev_t rfl)⟩, trivial⟩ plc_68 zero_68 rfl) ?_
                   refine WL.cons (SO.alloc rfl rfl rfl rfl (r_buildSlice (cs := #[_, _, _]) (vs := [(0, _)]) rfl ⟨⟨rfl, (ev_t rfl)⟩, trivial⟩ row_40 rfl rfl) ?_)
                   intro w3 hu3 hB3 hz3
                   have hs3 := hu3.size
                   replace hU := hU.trans hu3 (by first | exact (fun _ _ h => h) | exact (fun _ _ h => h.elim) | (intro k hl hk; (try simp only [At, New, Grow, From, No] at hk ⊢); omega) | (intro k hl hk; (try simp only [At, New, Grow, From, No] at *); omega))
                   replace hl := hl.upd hu3 (by first | exact (fun _ _ _ h => h) | (intro k hk hl hS; simp only [At, New] at *; omega))
                   replace hwb := hwb.upd hu3 (by first | exact (fun _ _ h => h) | exact (fun _ _ h => h.elim) | (intro k hl hk; (try simp only [At, New, Grow, From, No] at *); omega))
                   refine WL.cons (SO.append hl (Rd.of_blk (F := At _) (n := 1) (sz := 3) hB3 rfl rfl (by omega)) row_40 (by intro u hu; simp only [List.mem_cons, List.not_mem_nil, or_false, Array.toList] at hu; rcases hu with rfl | rfl | rfl <;> rfl) (le_maxLen (by omega)) (by omega) rfl (ev_t rfl) (ev_t rfl) rfl rfl rfl rfl ?_)
                   intro v4 w4 hl hu4
                   have hs4 := hu4.size
                   replace hU := hU.trans hu4 (by first | exact (fun _ _ h => h) | exact (fun _ _ h => h.elim) | (intro k hl hk; (try simp only [At, New, Grow, From, No] at hk ⊢); omega) | (intro k hl hk; (try simp only [At, New, Grow, From, No] at *); omega))
                   replace hwb := hwb.upd hu4 (by first | exact (fun _ _ h => h) | exact (fun _ _ h => h.elim) | (intro k hl hk; (try simp only [At, New, Grow, From, No] at *); omega))
                   obtain ⟨A4, c4, rfl, hc4⟩ := Own.form hl
                   replace hl := hl.mono (F' := New w2 w4) (fun k hk => by have := hu4.size; simp only [New, Grow] at *; omega)
                   replace hl : Own w4 (New w2 w4) 68 3 (.slice A4 (acc.length + 1) c4) (acc.length + 1) ((acc ++ [nw]).flatMap LsV.cells) := by rw [List.flatMap_append, List.flatMap_singleton, hnw]; exact hl
                   refine WL.val rfl rfl rfl rfl (r_assign rfl (ev_t rfl)) ?_
                   refine WL.nil ?_
                   refine WX.keep [(0, _), (1, _), (2, _), (11, _), (12, _), (14, _)] ⟨rfl, rfl, rfl, rfl, rfl, rfl, trivial⟩ ?_
                   refine WX.next ?_
                   refine WC.region ?_
                   refine WL.val rfl rfl rfl rfl (r_assign rfl ev_c) ?_
                   refine WL.nil ?_
                   refine WX.keep [(0, _), (1, _), (2, _), (11, _), (12, _), (13, _), (14, _)] ⟨rfl, rfl, rfl, rfl, rfl, rfl, rfl, trivial⟩ ?_
                   refine WX.next ?_
                   refine WC.seq ?_
                   refine WC.region ?_
                   refine WL.val rfl rfl rfl rfl (r_move rfl (ev_t rfl)) ?_
                   refine WL.val rfl rfl rfl rfl (r_nilCheck rfl (ev_t rfl)) ?_
                   first | refine WL.val rfl rfl rfl rfl (r_field0 rfl (ev_t rfl) fld_42_0) ?_ | refine WL.val rfl rfl rfl rfl (r_fieldAt rfl (ev_t rfl) fld_42_0) ?_
                   refine WL.val rfl rfl rfl rfl (r_load rfl (ev_t rfl) flat_40 (Blk.cell (hB.upd hU (fun h => h)) rfl)) ?_
                   refine WL.val rfl rfl rfl rfl (r_move rfl (ev_t rfl)) ?_
                   refine WL.val rfl rfl rfl rfl (r_indexAddr rfl (ev_t rfl) (ev_t rfl) elem_40 size_68 (by omega) (by omega)) ?_
                   first | refine WL.val rfl rfl rfl rfl (r_field0 rfl (ev_t rfl) fld_68_0) ?_ | refine WL.val rfl rfl rfl rfl (r_fieldAt rfl (ev_t rfl) fld_68_0) ?_
                   refine WL.val rfl rfl rfl rfl (r_load rfl (ev_t rfl) flat_27 (Rd.cell (hr.upd hU (fun _ _ _ h => h)) (j := i * 3) (by omega) (hcell 0 _ rfl))) ?_
                   refine WL.val rfl rfl rfl rfl (r_move rfl (ev_t rfl)) ?_
                   refine WL.val rfl rfl rfl rfl (r_neq rfl (ev_t rfl) (ev_t rfl)) ?_
                   refine WL.nil ?_
                   refine WX.keep [(0, _), (1, _), (2, _), (11, _), (12, _), (13, _), (14, _), (69, _)] ⟨rfl, rfl, rfl, rfl, rfl, rfl, rfl, rfl, trivial⟩ ?_
                   refine WX.next ?_
                   refine WC.cond rfl (ev_t rfl) (fun hc16 => ?_) (fun hc16 => ?_)
                   · try (exfalso; first | (simp at hc16; done) | (simp only [decide_eq_true_eq, decide_eq_false_iff_not, Bool.not_eq_true', Bool.not_eq_false', Bool.not_eq_true, Bool.not_eq_false] at hc16; omega) | omega)
                     all_goals
                      try simp only [decide_eq_true_eq, decide_eq_false_iff_not, Bool.not_eq_true', Bool.not_eq_false', Bool.not_eq_true, Bool.not_eq_false, Option.isNone_none, Option.isNone_some, Option.isSome_none, Option.isSome_some, ne_eq, Decidable.not_not] at hc16
                      refine WC.region ?_
                      refine WL.val rfl rfl rfl rfl (r_move rfl (ev_t rfl)) ?_
                      refine WL.val rfl rfl rfl rfl (r_move rfl (ev_t rfl)) ?_
                      refine WL.val rfl rfl rfl rfl (r_nilCheck rfl (ev_t rfl)) ?_
                      first | refine WL.val rfl rfl rfl rfl (r_field0 rfl (ev_t rfl) fld_42_0) ?_ | refine WL.val rfl rfl rfl rfl (r_fieldAt rfl (ev_t rfl) fld_42_0) ?_
                      refine WL.val rfl rfl rfl rfl (r_load rfl (ev_t rfl) flat_40 (Blk.cell (hB.upd hU (fun h => h)) rfl)) ?_
                      refine WL.val rfl rfl rfl rfl (r_move rfl (ev_t rfl)) ?_
                      refine WL.val rfl rfl rfl rfl (r_indexAddr rfl (ev_t rfl) (ev_t rfl) elem_40 size_68 (by omega) (by omega)) ?_
                      refine WL.val rfl rfl rfl rfl (r_loadAgg (vs := [_, _, _]) rfl (ev_t rfl) agg_68 size_68 (Rd.cellsL (us := [.int .u64 (r.x.id : Int), .int .u64 (r.x.num : Int), r.v]) (hr.upd hU (fun _ _ _ h => h)) (i := i * 3) (by omega) hcell)) ?_
                      refine WL.cons (SO.alloc rfl rfl rfl rfl (r_buildSlice (cs := #[_, _, _]) (vs := [(0, _)]) rfl ⟨⟨rfl, (ev_t rfl)⟩, trivial⟩ row_40 rfl rfl) ?_)
                      intro w5 hu5 hB5 hz5
                      have hs5 := hu5.size
                      replace hU := hU.trans hu5 (by first | exact (fun _ _ h => h) | exact (fun _ _ h => h.elim) | (intro k hl hk; (try simp only [At, New, Grow, From, No] at hk ⊢); omega) | (intro k hl hk; (try simp only [At, New, Grow, From, No] at *); omega))
                      replace hl := hl.upd hu5 (by first | exact (fun _ _ _ h => h) | (intro k hk hl hS; simp only [At, New] at *; omega))
                      replace hwb := hwb.upd hu5 (by first | exact (fun _ _ h => h) | exact (fun _ _ h => h.elim) | (intro k hl hk; (try simp only [At, New, Grow, From, No] at *); omega))
                      refine WL.cons (SO.append hl (Rd.of_blk (F := At _) (n := 1) (sz := 3) hB5 rfl rfl (by omega)) row_40 (by intro u hu; simp only [List.mem_cons, List.not_mem_nil, or_false, Array.toList] at hu; rcases hu with rfl | rfl | rfl; rfl; rfl; exact hrv) (le_maxLen (by omega)) (by omega) rfl (ev_t rfl) (ev_t rfl) rfl rfl rfl rfl ?_)
                      intro v6 w6 hl hu6
                      have hs6 := hu6.size
                      replace hU := hU.trans hu6 (by first | exact (fun _ _ h => h) | exact (fun _ _ h => h.elim) | (intro k hl hk; (try simp only [At, New, Grow, From, No] at hk ⊢); omega) | (intro k hl hk; (try simp only [At, New, Grow, From, No] at *); omega))
                      replace hwb := hwb.upd hu6 (by first | exact (fun _ _ h => h) | exact (fun _ _ h => h.elim) | (intro k hl hk; (try simp only [At, New, Grow, From, No] at *); omega))
                      obtain ⟨A6, c6, rfl, hc6⟩ := Own.form hl
                      replace hl := hl.mono (F' := New w2 w6) (fun k hk => by have := hu6.size; simp only [New, Grow] at *; omega)
                      first
                        | replace hl : Own w6 (New w2 w6) 68 3 (.slice A6 (acc.length + 1 + 1) c6) (acc.length + 1 + 1) ((acc ++ [nw] ++ [r]).flatMap LsV.cells) := by rw [List.flatMap_append (xs := acc ++ [nw]), List.flatMap_singleton]; exact hl
                        | replace hl : Own w6 (New w2 w6) 68 3 (.slice A8 (acc.length + 1) c8) (acc.length + 1) ((acc ++ [r]).flatMap LsV.cells) := by rw [List.flatMap_append, List.flatMap_singleton]; exact hl
                        | replace hl : Own w6 (New w2 w6) 68 3 (.slice A10 (acc.length + 1) c10) (acc.length + 1) ((acc ++ [r]).flatMap LsV.cells) := by rw [List.flatMap_append, List.flatMap_singleton]; exact hl
                      refine WL.val rfl rfl rfl rfl (r_assign rfl (ev_t rfl)) ?_
                      refine WL.nil ?_
                      refine WX.keep [(0, _), (1, _), (2, _), (11, _), (12, _), (13, _), (14, _)] ⟨rfl, rfl, rfl, rfl, rfl, rfl, rfl, trivial⟩ ?_
                      refine WX.blockNormal ?_
                      refine WX.next ?_
                      refine WC.region ?_
                      refine WL.val rfl rfl rfl rfl (r_move rfl (ev_t rfl)) ?_
                      first | refine WL.val rfl rfl rfl rfl (r_addN rfl (ev_t rfl) ev_c (by simp only [inK]; omega)) ?_ | refine WL.val rfl rfl rfl rfl (r_add rfl (ev_t rfl) ev_c) ?_
                      refine WL.val rfl rfl rfl rfl (r_assign rfl (ev_t rfl)) ?_
                      refine WL.nil ?_
                      refine WX.keep [(0, _), (1, _), (2, _), (11, _), (12, _), (13, _), (14, _)] ⟨rfl, rfl, rfl, rfl, rfl, rfl, rfl, trivial⟩ ?_
                      refine WX.meet [(0, _), (1, _), (2, _), (11, _), (12, _), (13, _), (14, _)] ⟨rfl, rfl, rfl, rfl, rfl, rfl, rfl, trivial⟩ ?_
                      first
                        | (rw [rStep_A (by omega) (by omega)] at hfs; exact ⟨V.length - (i + 1), by omega, i + 1, acc ++ [nw] ++ [r], true, A6, c6, by omega, rfl, hU, hwb, by (simp; omega), hfs, by (rw [show (acc ++ [nw] ++ [r]).length = acc.length + 1 + 1 by simp]; exact hl), by simp⟩)
                        | (rw [rStep_B (by omega)] at hfs; exact ⟨V.length - (i + 1), by omega, i + 1, acc ++ [nw], true, A4, c4, by omega, rfl, hU, hwb, by (simp; omega), hfs, by (rw [show (acc ++ [nw]).length = acc.length + 1 by simp]; exact hl), by simp⟩)
                        | (rw [rStep_C (by omega)] at hfs; exact ⟨V.length - (i + 1), by omega, i + 1, acc ++ [r], false, A8, c8, by omega, rfl, hU, hwb, by (simp; omega), hfs, by (rw [show (acc ++ [r]).length = acc.length + 1 by simp]; exact hl), by simp⟩)
                        | (rw [rStep_D (by omega)] at hfs; exact ⟨V.length - (i + 1), by omega, i + 1, acc ++ [r], true, A10, c10, by omega, rfl, hU, hwb, by (simp; omega), hfs, by (rw [show (acc ++ [r]).length = acc.length + 1 by simp]; exact hl), by simp⟩)
                        | (rw [rStep_E (by omega)] at hfs; exact ⟨V.length - (i + 1), by omega, i + 1, acc, true, Al, cl, by omega, rfl, hU, hwb, by omega, hfs, hl, rfl⟩)
                   · try (exfalso; first | (simp at hc16; done) | (simp only [decide_eq_true_eq, decide_eq_false_iff_not, Bool.not_eq_true', Bool.not_eq_false', Bool.not_eq_true, Bool.not_eq_false] at hc16; omega) | omega)
                     all_goals
                      try simp only [decide_eq_true_eq, decide_eq_false_iff_not, Bool.not_eq_true', Bool.not_eq_false', Bool.not_eq_true, Bool.not_eq_false, Option.isNone_none, Option.isNone_some, Option.isSome_none, Option.isSome_some, ne_eq, Decidable.not_not] at hc16
                      refine WC.skip ?_
                      refine WX.blockNormal ?_
                      refine WX.next ?_
                      refine WC.region ?_
                      refine WL.val rfl rfl rfl rfl (r_move rfl (ev_t rfl)) ?_
                      first | refine WL.val rfl rfl rfl rfl (r_addN rfl (ev_t rfl) ev_c (by simp only [inK]; omega)) ?_ | refine WL.val rfl rfl rfl rfl (r_add rfl (ev_t rfl) ev_c) ?_
                      refine WL.val rfl rfl rfl rfl (r_assign rfl (ev_t rfl)) ?_
                      refine WL.nil ?_
                      refine WX.keep [(0, _), (1, _), (2, _), (11, _), (12, _), (13, _), (14, _)] ⟨rfl, rfl, rfl, rfl, rfl, rfl, rfl, trivial⟩ ?_
                      refine WX.meet [(0, _), (1, _), (2, _), (11, _), (12, _), (13, _), (14, _)] ⟨rfl, rfl, rfl, rfl, rfl, rfl, rfl, trivial⟩ ?_
                      first
                        | (rw [rStep_A (by omega) (by omega)] at hfs; exact ⟨V.length - (i + 1), by omega, i + 1, acc ++ [nw] ++ [r], true, A6, c6, by omega, rfl, hU, hwb, by (simp; omega), hfs, by (rw [show (acc ++ [nw] ++ [r]).length = acc.length + 1 + 1 by simp]; exact hl), by simp⟩)
                        | (rw [rStep_B (by omega)] at hfs; exact ⟨V.length - (i + 1), by omega, i + 1, acc ++ [nw], true, A4, c4, by omega, rfl, hU, hwb, by (simp; omega), hfs, by (rw [show (acc ++ [nw]).length = acc.length + 1 by simp]; exact hl), by simp⟩)
                        | (rw [rStep_C (by omega)] at hfs; exact ⟨V.length - (i + 1), by omega, i + 1, acc ++ [r], false, A8, c8, by omega, rfl, hU, hwb, by (simp; omega), hfs, by (rw [show (acc ++ [r]).length = acc.length + 1 by simp]; exact hl), by simp⟩)
                        | (rw [rStep_D (by omega)] at hfs; exact ⟨V.length - (i + 1), by omega, i + 1, acc ++ [r], true, A10, c10, by omega, rfl, hU, hwb, by (simp; omega), hfs, by (rw [show (acc ++ [r]).length = acc.length + 1 by simp]; exact hl), by simp⟩)
                        | (rw [rStep_E (by omega)] at hfs; exact ⟨V.length - (i + 1), by omega, i + 1, acc, true, Al, cl, by omega, rfl, hU, hwb, by omega, hfs, hl, rfl⟩)
                · try (exfalso; first | (simp at hc13; done) | (simp only [decide_eq_true_eq, decide_eq_false_iff_not, Bool.not_eq_true', Bool.not_eq_false', Bool.not_eq_true, Bool.not_eq_false] at hc13; omega) | omega)
                  all_goals
                   try simp only [decide_eq_true_eq, decide_eq_false_iff_not, Bool.not_eq_true', Bool.not_eq_false', Bool.not_eq_true, Bool.not_eq_false, Option.isNone_none, Option.isNone_some, Option.isSome_none, Option.isSome_some, ne_eq, Decidable.not_not] at hc13
                   refine WC.skip ?_
                   refine WX.next ?_
                   refine WC.seq ?_
                   refine WC.region ?_
                   refine WL.val rfl rfl rfl rfl (r_move rfl (ev_t rfl)) ?_
                   refine WL.val rfl rfl rfl rfl (r_nilCheck rfl (ev_t rfl)) ?_
                   first | refine WL.val rfl rfl rfl rfl (r_field0 rfl (ev_t rfl) fld_42_0) ?_ | refine WL.val rfl rfl rfl rfl (r_fieldAt rfl (ev_t rfl) fld_42_0) ?_
                   refine WL.val rfl rfl rfl rfl (r_load rfl (ev_t rfl) flat_40 (Blk.cell (hB.upd hU (fun h => h)) rfl)) ?_
                   refine WL.val rfl rfl rfl rfl (r_move rfl (ev_t rfl)) ?_
                   refine WL.val rfl rfl rfl rfl (r_indexAddr rfl (ev_t rfl) (ev_t rfl) elem_40 size_68 (by omega) (by omega)) ?_
                   first | refine WL.val rfl rfl rfl rfl (r_field0 rfl (ev_t rfl) fld_68_0) ?_ | refine WL.val rfl rfl rfl rfl (r_fieldAt rfl (ev_t rfl) fld_68_0) ?_
                   refine WL.val rfl rfl rfl rfl (r_load rfl (ev_t rfl) flat_27 (Rd.cell (hr.upd hU (fun _ _ _ h => h)) (j := i * 3) (by omega) (hcell 0 _ rfl))) ?_
                   refine WL.val rfl rfl rfl rfl (r_move rfl (ev_t rfl)) ?_
                   refine WL.val rfl rfl rfl rfl (r_neq rfl (ev_t rfl) (ev_t rfl)) ?_
                   refine WL.nil ?_
                   refine WX.keep [(0, _), (1, _), (2, _), (11, _), (12, _), (13, _), (14, _), (69, _)] ⟨rfl, rfl, rfl, rfl, rfl, rfl, rfl, rfl, trivial⟩ ?_
                   refine WX.next ?_
                   refine WC.cond rfl (ev_t rfl) (fun hc16 => ?_) (fun hc16 => ?_)
                   · try (exfalso; first | (simp at hc16; done) | (simp only [decide_eq_true_eq, decide_eq_false_iff_not, Bool.not_eq_true', Bool.not_eq_false', Bool.not_eq_true, Bool.not_eq_false] at hc16; omega) | omega)
                     all_goals
                      try simp only [decide_eq_true_eq, decide_eq_false_iff_not, Bool.not_eq_true', Bool.not_eq_false', Bool.not_eq_true, Bool.not_eq_false, Option.isNone_none, Option.isNone_some, Option.isSome_none, Option.isSome_some, ne_eq, Decidable.not_not] at hc16
                      refine WC.region ?_
                      refine WL.val rfl rfl rfl rfl (r_move rfl (ev_t rfl)) ?_
                      refine WL.val rfl rfl rfl rfl (r_move rfl (ev_t rfl)) ?_
                      refine WL.val rfl rfl rfl rfl (r_nilCheck rfl (ev_t rfl)) ?_
                      first | refine WL.val rfl rfl rfl rfl (r_field0 rfl (ev_t rfl) fld_42_0) ?_ | refine WL.val rfl rfl rfl rfl (r_fieldAt rfl (ev_t rfl) fld_42_0) ?_
                      refine WL.val rfl rfl rfl rfl (r_load rfl (ev_t rfl) flat_40 (Blk.cell (hB.upd hU (fun h => h)) rfl)) ?_
                      refine WL.val rfl rfl rfl rfl (r_move rfl (ev_t rfl)) ?_
                      refine WL.val rfl rfl rfl rfl (r_indexAddr rfl (ev_t rfl) (ev_t rfl) elem_40 size_68 (by omega) (by omega)) ?_
                      refine WL.val rfl rfl rfl rfl (r_loadAgg (vs := [_, _, _]) rfl (ev_t rfl) agg_68 size_68 (Rd.cellsL (us := [.int .u64 (r.x.id : Int), .int .u64 (r.x.num : Int), r.v]) (hr.upd hU (fun _ _ _ h => h)) (i := i * 3) (by omega) hcell)) ?_
                      refine WL.cons (SO.alloc rfl rfl rfl rfl (r_buildSlice (cs := #[_, _, _]) (vs := [(0, _)]) rfl ⟨⟨rfl, (ev_t rfl)⟩, trivial⟩ row_40 rfl rfl) ?_)
                      intro w7 hu7 hB7 hz7
                      have hs7 := hu7.size
                      replace hU := hU.trans hu7 (by first | exact (fun _ _ h => h) | exact (fun _ _ h => h.elim) | (intro k hl hk; (try simp only [At, New, Grow, From, No] at hk ⊢); omega) | (intro k hl hk; (try simp only [At, New, Grow, From, No] at *); omega))
                      replace hl := hl.upd hu7 (by first | exact (fun _ _ _ h => h) | (intro k hk hl hS; simp only [At, New] at *; omega))
                      replace hwb := hwb.upd hu7 (by first | exact (fun _ _ h => h) | exact (fun _ _ h => h.elim) | (intro k hl hk; (try simp only [At, New, Grow, From, No] at *); omega))
                      refine WL.cons (SO.append hl (Rd.of_blk (F := At _) (n := 1) (sz := 3) hB7 rfl rfl (by omega)) row_40 (by intro u hu; simp only [List.mem_cons, List.not_mem_nil, or_false, Array.toList] at hu; rcases hu with rfl | rfl | rfl; rfl; rfl; exact hrv) (le_maxLen (by omega)) (by omega) rfl (ev_t rfl) (ev_t rfl) rfl rfl rfl rfl ?_)
                      intro v8 w8 hl hu8
                      have hs8 := hu8.size
                      replace hU := hU.trans hu8 (by first | exact (fun _ _ h => h) | exact (fun _ _ h => h.elim) | (intro k hl hk; (try simp only [At, New, Grow, From, No] at hk ⊢); omega) | (intro k hl hk; (try simp only [At, New, Grow, From, No] at *); omega))
                      replace hwb := hwb.upd hu8 (by first | exact (fun _ _ h => h) | exact (fun _ _ h => h.elim) | (intro k hl hk; (try simp only [At, New, Grow, From, No] at *); omega))
                      obtain ⟨A8, c8, rfl, hc8⟩ := Own.form hl
                      replace hl := hl.mono (F' := New w2 w8) (fun k hk => by have := hu8.size; simp only [New, Grow] at *; omega)
                      first
                        | replace hl : Own w8 (New w2 w8) 68 3 (.slice A6 (acc.length + 1 + 1) c6) (acc.length + 1 + 1) ((acc ++ [nw] ++ [r]).flatMap LsV.cells) := by rw [List.flatMap_append (xs := acc ++ [nw]), List.flatMap_singleton]; exact hl
                        | replace hl : Own w8 (New w2 w8) 68 3 (.slice A8 (acc.length + 1) c8) (acc.length + 1) ((acc ++ [r]).flatMap LsV.cells) := by rw [List.flatMap_append, List.flatMap_singleton]; exact hl
                        | replace hl : Own w8 (New w2 w8) 68 3 (.slice A10 (acc.length + 1) c10) (acc.length + 1) ((acc ++ [r]).flatMap LsV.cells) := by rw [List.flatMap_append, List.flatMap_singleton]; exact hl
                      refine WL.val rfl rfl rfl rfl (r_assign rfl (ev_t rfl)) ?_
                      refine WL.nil ?_
                      refine WX.keep [(0, _), (1, _), (2, _), (11, _), (12, _), (13, _), (14, _)] ⟨rfl, rfl, rfl, rfl, rfl, rfl, rfl, trivial⟩ ?_
                      refine WX.blockNormal ?_
                      refine WX.next ?_
                      refine WC.region ?_
                      refine WL.val rfl rfl rfl rfl (r_move rfl (ev_t rfl)) ?_
                      first | refine WL.val rfl rfl rfl rfl (r_addN rfl (ev_t rfl) ev_c (by simp only [inK]; omega)) ?_ | refine WL.val rfl rfl rfl rfl (r_add rfl (ev_t rfl) ev_c) ?_
                      refine WL.val rfl rfl rfl rfl (r_assign rfl (ev_t rfl)) ?_
                      refine WL.nil ?_
                      refine WX.keep [(0, _), (1, _), (2, _), (11, _), (12, _), (13, _), (14, _)] ⟨rfl, rfl, rfl, rfl, rfl, rfl, rfl, trivial⟩ ?_
                      refine WX.meet [(0, _), (1, _), (2, _), (11, _), (12, _), (13, _), (14, _)] ⟨rfl, rfl, rfl, rfl, rfl, rfl, rfl, trivial⟩ ?_
                      first
                        | (rw [rStep_A (by omega) (by omega)] at hfs; exact ⟨V.length - (i + 1), by omega, i + 1, acc ++ [nw] ++ [r], true, A6, c6, by omega, rfl, hU, hwb, by (simp; omega), hfs, by (rw [show (acc ++ [nw] ++ [r]).length = acc.length + 1 + 1 by simp]; exact hl), by simp⟩)
                        | (rw [rStep_B (by omega)] at hfs; exact ⟨V.length - (i + 1), by omega, i + 1, acc ++ [nw], true, A4, c4, by omega, rfl, hU, hwb, by (simp; omega), hfs, by (rw [show (acc ++ [nw]).length = acc.length + 1 by simp]; exact hl), by simp⟩)
                        | (rw [rStep_C (by omega)] at hfs; exact ⟨V.length - (i + 1), by omega, i + 1, acc ++ [r], false, A8, c8, by omega, rfl, hU, hwb, by (simp; omega), hfs, by (rw [show (acc ++ [r]).length = acc.length + 1 by simp]; exact hl), by simp⟩)
                        | (rw [rStep_D (by omega)] at hfs; exact ⟨V.length - (i + 1), by omega, i + 1, acc ++ [r], true, A10, c10, by omega, rfl, hU, hwb, by (simp; omega), hfs, by (rw [show (acc ++ [r]).length = acc.length + 1 by simp]; exact hl), by simp⟩)
                        | (rw [rStep_E (by omega)] at hfs; exact ⟨V.length - (i + 1), by omega, i + 1, acc, true, Al, cl, by omega, rfl, hU, hwb, by omega, hfs, hl, rfl⟩)
                   · try (exfalso; first | (simp at hc16; done) | (simp only [decide_eq_true_eq, decide_eq_false_iff_not, Bool.not_eq_true', Bool.not_eq_false', Bool.not_eq_true, Bool.not_eq_false] at hc16; omega) | omega)
                     all_goals
                      try simp only [decide_eq_true_eq, decide_eq_false_iff_not, Bool.not_eq_true', Bool.not_eq_false', Bool.not_eq_true, Bool.not_eq_false, Option.isNone_none, Option.isNone_some, Option.isSome_none, Option.isSome_some, ne_eq, Decidable.not_not] at hc16
                      refine WC.skip ?_
                      refine WX.blockNormal ?_
                      refine WX.next ?_
                      refine WC.region ?_
                      refine WL.val rfl rfl rfl rfl (r_move rfl (ev_t rfl)) ?_
                      first | refine WL.val rfl rfl rfl rfl (r_addN rfl (ev_t rfl) ev_c (by simp only [inK]; omega)) ?_ | refine WL.val rfl rfl rfl rfl (r_add rfl (ev_t rfl) ev_c) ?_
                      refine WL.val rfl rfl rfl rfl (r_assign rfl (ev_t rfl)) ?_
                      refine WL.nil ?_
                      refine WX.keep [(0, _), (1, _), (2, _), (11, _), (12, _), (13, _), (14, _)] ⟨rfl, rfl, rfl, rfl, rfl, rfl, rfl, trivial⟩ ?_
                      refine WX.meet [(0, _), (1, _), (2, _), (11, _), (12, _), (13, _), (14, _)] ⟨rfl, rfl, rfl, rfl, rfl, rfl, rfl, trivial⟩ ?_
                      first
                        | (rw [rStep_A (by omega) (by omega)] at hfs; exact ⟨V.length - (i + 1), by omega, i + 1, acc ++ [nw] ++ [r], true, A6, c6, by omega, rfl, hU, hwb, by (simp; omega), hfs, by (rw [show (acc ++ [nw] ++ [r]).length = acc.length + 1 + 1 by simp]; exact hl), by simp⟩)
                        | (rw [rStep_B (by omega)] at hfs; exact ⟨V.length - (i + 1), by omega, i + 1, acc ++ [nw], true, A4, c4, by omega, rfl, hU, hwb, by (simp; omega), hfs, by (rw [show (acc ++ [nw]).length = acc.length + 1 by simp]; exact hl), by simp⟩)
                        | (rw [rStep_C (by omega)] at hfs; exact ⟨V.length - (i + 1), by omega, i + 1, acc ++ [r], false, A8, c8, by omega, rfl, hU, hwb, by (simp; omega), hfs, by (rw [show (acc ++ [r]).length = acc.length + 1 by simp]; exact hl), by simp⟩)
                        | (rw [rStep_D (by omega)] at hfs; exact ⟨V.length - (i + 1), by omega, i + 1, acc ++ [r], true, A10, c10, by omega, rfl, hU, hwb, by (simp; omega), hfs, by (rw [show (acc ++ [r]).length = acc.length + 1 by simp]; exact hl), by simp⟩)
                        | (rw [rStep_E (by omega)] at hfs; exact ⟨V.length - (i + 1), by omega, i + 1, acc, true, Al, cl, by omega, rfl, hU, hwb, by omega, hfs, hl, rfl⟩)
             · try (exfalso; first | (simp at hb13_2; done) | (simp only [decide_eq_true_eq, decide_eq_false_iff_not, Bool.not_eq_true', Bool.not_eq_false', Bool.not_eq_true, Bool.not_eq_false] at hb13_2; omega) | omega)
               all_goals
                try simp only [decide_eq_true_eq, decide_eq_false_iff_not, Bool.not_eq_true', Bool.not_eq_false', Bool.not_eq_true, Bool.not_eq_false, Option.isNone_none, Option.isNone_some, Option.isSome_none, Option.isSome_some, ne_eq, Decidable.not_not] at hb13_2
                subst hb13_2
                refine WL.skip rfl rfl rfl ?_
                refine WL.skip rfl rfl rfl ?_
                refine WL.skip rfl rfl rfl ?_
                refine WL.skip rfl rfl rfl ?_
                refine WL.skip rfl rfl rfl ?_
                refine WL.skip rfl rfl rfl ?_
                refine WL.skip rfl rfl rfl ?_
                refine WL.skip rfl rfl rfl ?_
                refine WL.skip rfl rfl rfl ?_
                refine WL.skip rfl rfl rfl ?_
                refine WL.val rfl rfl rfl rfl (r_pickF rfl (ev_t rfl) ev_c) ?_
                refine WL.nil ?_
                refine WX.keep [(0, _), (1, _), (2, _), (11, _), (12, _), (13, _), (14, _), (52, _)] ⟨rfl, rfl, rfl, rfl, rfl, rfl, rfl, rfl, trivial⟩ ?_
                refine WX.next ?_
                refine WC.cond_false rfl (ev_t rfl) ?_
                refine WC.skip ?_
                refine WX.next ?_
                refine WC.seq ?_
                refine WC.region ?_
                refine WL.val rfl rfl rfl rfl (r_move rfl (ev_t rfl)) ?_
                refine WL.val rfl rfl rfl rfl (r_nilCheck rfl (ev_t rfl)) ?_
                first | refine WL.val rfl rfl rfl rfl (r_field0 rfl (ev_t rfl) fld_42_0) ?_ | refine WL.val rfl rfl rfl rfl (r_fieldAt rfl (ev_t rfl) fld_42_0) ?_
                refine WL.val rfl rfl rfl rfl (r_load rfl (ev_t rfl) flat_40 (Blk.cell (hB.upd hU (fun h => h)) rfl)) ?_
                refine WL.val rfl rfl rfl rfl (r_move rfl (ev_t rfl)) ?_
                refine WL.val rfl rfl rfl rfl (r_indexAddr rfl (ev_t rfl) (ev_t rfl) elem_40 size_68 (by omega) (by omega)) ?_
                first | refine WL.val rfl rfl rfl rfl (r_field0 rfl (ev_t rfl) fld_68_0) ?_ | refine WL.val rfl rfl rfl rfl (r_fieldAt rfl (ev_t rfl) fld_68_0) ?_
                refine WL.val rfl rfl rfl rfl (r_load rfl (ev_t rfl) flat_27 (Rd.cell (hr.upd hU (fun _ _ _ h => h)) (j := i * 3) (by omega) (hcell 0 _ rfl))) ?_
                refine WL.val rfl rfl rfl rfl (r_move rfl (ev_t rfl)) ?_
                refine WL.val rfl rfl rfl rfl (r_neq rfl (ev_t rfl) (ev_t rfl)) ?_
                refine WL.nil ?_
                refine WX.keep [(0, _), (1, _), (2, _), (11, _), (12, _), (13, _), (14, _), (69, _)] ⟨rfl, rfl, rfl, rfl, rfl, rfl, rfl, rfl, trivial⟩ ?_
                refine WX.next ?_
                refine WC.cond rfl (ev_t rfl) (fun hc16 => ?_) (fun hc16 => ?_)
                · try (exfalso; first | (simp at hc16; done) | (simp only [decide_eq_true_eq, decide_eq_false_iff_not, Bool.not_eq_true', Bool.not_eq_false', Bool.not_eq_true, Bool.not_eq_false] at hc16; omega) | omega)
                  all_goals
                   try simp only [decide_eq_true_eq, decide_eq_false_iff_not, Bool.not_eq_true', Bool.not_eq_false', Bool.not_eq_true, Bool.not_eq_false, Option.isNone_none, Option.isNone_some, Option.isSome_none, Option.isSome_some, ne_eq, Decidable.not_not] at hc16
                   refine WC.region ?_
                   refine WL.val rfl rfl rfl rfl (r_move rfl (ev_t rfl)) ?_
                   refine WL.val rfl rfl rfl rfl (r_move rfl (ev_t rfl)) ?_
                   refine WL.val rfl rfl rfl rfl (r_nilCheck rfl (ev_t rfl)) ?_
                   first | refine WL.val rfl rfl rfl rfl (r_field0 rfl (ev_t rfl) fld_42_0) ?_ | refine WL.val rfl rfl rfl rfl (r_fieldAt rfl (ev_t rfl) fld_42_0) ?_
                   refine WL.val rfl rfl rfl rfl (r_load rfl (ev_t rfl) flat_40 (Blk.cell (hB.upd hU (fun h => h)) rfl)) ?_
                   refine WL.val rfl rfl rfl rfl (r_move rfl (ev_t rfl)) ?_
                   refine WL.val rfl rfl rfl rfl (r_indexAddr rfl (ev_t rfl) (ev_t rfl) elem_40 size_68 (by omega) (by omega)) ?_
                   refine WL.val rfl rfl rfl rfl (r_loadAgg (vs := [_, _, _]) rfl (ev_t rfl) agg_68 size_68 (Rd.cellsL (us := [.int .u64 (r.x.id : Int), .int .u64 (r.x.num : Int), r.v]) (hr.upd hU (fun _ _ _ h => h)) (i := i * 3) (by omega) hcell)) ?_
                   refine WL.cons (SO.alloc rfl rfl rfl rfl (r_buildSlice (cs := #[_, _, _]) (vs := [(0, _)]) rfl ⟨⟨rfl, (ev_t rfl)⟩, trivial⟩ row_40 rfl rfl) ?_)
                   intro w9 hu9 hB9 hz9
                   have hs9 := hu9.size
                   replace hU := hU.trans hu9 (by first | exact (fun _ _ h => h) | exact (fun _ _ h => h.elim) | (intro k hl hk; (try simp only [At, New, Grow, From, No] at hk ⊢); omega) | (intro k hl hk; (try simp only [At, New, Grow, From, No] at *); omega))
                   replace hl := hl.upd hu9 (by first | exact (fun _ _ _ h => h) | (intro k hk hl hS; simp only [At, New] at *; omega))
                   replace hwb := hwb.upd hu9 (by first | exact (fun _ _ h => h) | exact (fun _ _ h => h.elim) | (intro k hl hk; (try simp only [At, New, Grow, From, No] at *); omega))
                   refine WL.cons (SO.append hl (Rd.of_blk (F := At _) (n := 1) (sz := 3) hB9 rfl rfl (by omega)) row_40 (by intro u hu; simp only [List.mem_cons, List.not_mem_nil, or_false, Array.toList] at hu; rcases hu with rfl | rfl | rfl; rfl; rfl; exact hrv) (le_maxLen (by omega)) (by omega) rfl (ev_t rfl) (ev_t rfl) rfl rfl rfl rfl ?_)
                   intro v10 w10 hl hu10
                   have hs10 := hu10.size
                   replace hU := hU.trans hu10 (by first | exact (fun _ _ h => h) | exact (fun _ _ h => h.elim) | (intro k hl hk; (try simp only [At, New, Grow, From, No] at hk ⊢); omega) | (intro k hl hk; (try simp only [At, New, Grow, From, No] at *); omega))
                   replace hwb := hwb.upd hu10 (by first | exact (fun _ _ h => h) | exact (fun _ _ h => h.elim) | (intro k hl hk; (try simp only [At, New, Grow, From, No] at *); omega))
                   obtain ⟨A10, c10, rfl, hc10⟩ := Own.form hl
                   replace hl := hl.mono (F' := New w2 w10) (fun k hk => by have := hu10.size; simp only [New, Grow] at *; omega)
                   first
                     | replace hl : Own w10 (New w2 w10) 68 3 (.slice A6 (acc.length + 1 + 1) c6) (acc.length + 1 + 1) ((acc ++ [nw] ++ [r]).flatMap LsV.cells) := by rw [List.flatMap_append (xs := acc ++ [nw]), List.flatMap_singleton]; exact hl
                     | replace hl : Own w10 (New w2 w10) 68 3 (.slice A8 (acc.length + 1) c8) (acc.length + 1) ((acc ++ [r]).flatMap LsV.cells) := by rw [List.flatMap_append, List.flatMap_singleton]; exact hl
                     | replace hl : Own w10 (New w2 w10) 68 3 (.slice A10 (acc.length + 1) c10) (acc.length + 1) ((acc ++ [r]).flatMap LsV.cells) := by rw [List.flatMap_append, List.flatMap_singleton]; exact hl
                   refine WL.val rfl rfl rfl rfl (r_assign rfl (ev_t rfl)) ?_
                   refine WL.nil ?_
                   refine WX.keep [(0, _), (1, _), (2, _), (11, _), (12, _), (13, _), (14, _)] ⟨rfl, rfl, rfl, rfl, rfl, rfl, rfl, trivial⟩ ?_
                   refine WX.blockNormal ?_
                   refine WX.next ?_
                   refine WC.region ?_
                   refine WL.val rfl rfl rfl rfl (r_move rfl (ev_t rfl)) ?_
                   first | refine WL.val rfl rfl rfl rfl (r_addN rfl (ev_t rfl) ev_c (by simp only [inK]; omega)) ?_ | refine WL.val rfl rfl rfl rfl (r_add rfl (ev_t rfl) ev_c) ?_
                   refine WL.val rfl rfl rfl rfl (r_assign rfl (ev_t rfl)) ?_
                   refine WL.nil ?_
                   refine WX.keep [(0, _), (1, _), (2, _), (11, _), (12, _), (13, _), (14, _)] ⟨rfl, rfl, rfl, rfl, rfl, rfl, rfl, trivial⟩ ?_
                   refine WX.meet [(0, _), (1, _), (2, _), (11, _), (12, _), (13, _), (14, _)] ⟨rfl, rfl, rfl, rfl, rfl, rfl, rfl, trivial⟩ ?_
                   first
                     | (rw [rStep_A (by omega) (by omega)] at hfs; exact ⟨V.length - (i + 1), by omega, i + 1, acc ++ [nw] ++ [r], true, A6, c6, by omega, rfl, hU, hwb, by (simp; omega), hfs, by (rw [show (acc ++ [nw] ++ [r]).length = acc.length + 1 + 1 by simp]; exact hl), by simp⟩)
                     | (rw [rStep_B (by omega)] at hfs; exact ⟨V.length - (i + 1), by omega, i + 1, acc ++ [nw], true, A4, c4, by omega, rfl, hU, hwb, by (simp; omega), hfs, by (rw [show (acc ++ [nw]).length = acc.length + 1 by simp]; exact hl), by simp⟩)
                     | (rw [rStep_C (by omega)] at hfs; exact ⟨V.length - (i + 1), by omega, i + 1, acc ++ [r], false, A8, c8, by omega, rfl, hU, hwb, by (simp; omega), hfs, by (rw [show (acc ++ [r]).length = acc.length + 1 by simp]; exact hl), by simp⟩)
                     | (rw [rStep_D (by omega)] at hfs; exact ⟨V.length - (i + 1), by omega, i + 1, acc ++ [r], true, A10, c10, by omega, rfl, hU, hwb, by (simp; omega), hfs, by (rw [show (acc ++ [r]).length = acc.length + 1 by simp]; exact hl), by simp⟩)
                     | (rw [rStep_E (by omega)] at hfs; exact ⟨V.length - (i + 1), by omega, i + 1, acc, true, Al, cl, by omega, rfl, hU, hwb, by omega, hfs, hl, rfl⟩)
                · try (exfalso; first | (simp at hc16; done) | (simp only [decide_eq_true_eq, decide_eq_false_iff_not, Bool.not_eq_true', Bool.not_eq_false', Bool.not_eq_true, Bool.not_eq_false] at hc16; omega) | omega)
                  all_goals
                   try simp only [decide_eq_true_eq, decide_eq_false_iff_not, Bool.not_eq_true', Bool.not_eq_false', Bool.not_eq_true, Bool.not_eq_false, Option.isNone_none, Option.isNone_some, Option.isSome_none, Option.isSome_some, ne_eq, Decidable.not_not] at hc16
                   refine WC.skip ?_
                   refine WX.blockNormal ?_
                   refine WX.next ?_
                   refine WC.region ?_
                   refine WL.val rfl rfl rfl rfl (r_move rfl (ev_t rfl)) ?_
                   first | refine WL.val rfl rfl rfl rfl (r_addN rfl (ev_t rfl) ev_c (by simp only [inK]; omega)) ?_ | refine WL.val rfl rfl rfl rfl (r_add rfl (ev_t rfl) ev_c) ?_
                   refine WL.val rfl rfl rfl rfl (r_assign rfl (ev_t rfl)) ?_
                   refine WL.nil ?_
                   refine WX.keep [(0, _), (1, _), (2, _), (11, _), (12, _), (13, _), (14, _)] ⟨rfl, rfl, rfl, rfl, rfl, rfl, rfl, trivial⟩ ?_
                   refine WX.meet [(0, _), (1, _), (2, _), (11, _), (12, _), (13, _), (14, _)] ⟨rfl, rfl, rfl, rfl, rfl, rfl, rfl, trivial⟩ ?_
                   first
                     | (rw [rStep_A (by omega) (by omega)] at hfs; exact ⟨V.length - (i + 1), by omega, i + 1, acc ++ [nw] ++ [r], true, A6, c6, by omega, rfl, hU, hwb, by (simp; omega), hfs, by (rw [show (acc ++ [nw] ++ [r]).length = acc.length + 1 + 1 by simp]; exact hl), by simp⟩)
                     | (rw [rStep_B (by omega)] at hfs; exact ⟨V.length - (i + 1), by omega, i + 1, acc ++ [nw], true, A4, c4, by omega, rfl, hU, hwb, by (simp; omega), hfs, by (rw [show (acc ++ [nw]).length = acc.length + 1 by simp]; exact hl), by simp⟩)
                     | (rw [rStep_C (by omega)] at hfs; exact ⟨V.length - (i + 1), by omega, i + 1, acc ++ [r], false, A8, c8, by omega, rfl, hU, hwb, by (simp; omega), hfs, by (rw [show (acc ++ [r]).length = acc.length + 1 by simp]; exact hl), by simp⟩)
                     | (rw [rStep_D (by omega)] at hfs; exact ⟨V.length - (i + 1), by omega, i + 1, acc ++ [r], true, A10, c10, by omega, rfl, hU, hwb, by (simp; omega), hfs, by (rw [show (acc ++ [r]).length = acc.length + 1 by simp]; exact hl), by simp⟩)
                     | (rw [rStep_E (by omega)] at hfs; exact ⟨V.length - (i + 1), by omega, i + 1, acc, true, Al, cl, by omega, rfl, hU, hwb, by omega, hfs, hl, rfl⟩)
          · try (exfalso; first | (simp at hc11; done) | (simp only [decide_eq_true_eq, decide_eq_false_iff_not, Bool.not_eq_true', Bool.not_eq_false', Bool.not_eq_true, Bool.not_eq_false] at hc11; omega) | omega)
            all_goals
             try simp only [decide_eq_true_eq, decide_eq_false_iff_not, Bool.not_eq_true', Bool.not_eq_false', Bool.not_eq_true, Bool.not_eq_false, Option.isNone_none, Option.isNone_some, Option.isSome_none, Option.isSome_some, ne_eq, Decidable.not_not] at hc11
             refine WC.exit ?_
             refine WX.thenExit ?_
             refine WX.thenExit ?_
             refine WX.blockHere ?_
             refine WX.next ?_
             refine WC.seq ?_
             refine WC.seq ?_
             obtain rfl : i = V.length := by omega
             rw [List.take_length] at hfo
             have hrl := rFin_lsOf (n := nw) hLV hL.rise
             rw [hfo] at hrl
             refine WC.region ?_
             refine WL.val rfl rfl rfl rfl (r_move rfl (ev_t rfl)) ?_
             refine WL.val rfl rfl rfl rfl (r_not rfl (ev_t rfl)) ?_
             refine WL.nil ?_
             refine WX.keep [(0, _), (1, _), (2, _), (11, _), (12, _), (81, _)] ⟨rfl, rfl, rfl, rfl, rfl, rfl, trivial⟩ ?_
             refine WX.next ?_
             refine WC.cond rfl (ev_t rfl) (fun hc18 => ?_) (fun hc18 => ?_)
             · try (exfalso; first | (simp at hc18; done) | (simp only [decide_eq_true_eq, decide_eq_false_iff_not, Bool.not_eq_true', Bool.not_eq_false', Bool.not_eq_true, Bool.not_eq_false] at hc18; omega) | omega)
               all_goals
                try simp only [decide_eq_true_eq, decide_eq_false_iff_not, Bool.not_eq_true', Bool.not_eq_false', Bool.not_eq_true, Bool.not_eq_false, Option.isNone_none, Option.isNone_some, Option.isSome_none, Option.isSome_some, ne_eq, Decidable.not_not] at hc18
                subst hc18
                refine WC.region ?_
                refine WL.val rfl rfl rfl rfl (r_move rfl (ev_t rfl)) ?_
                refine WL.val rfl rfl rfl rfl (r_move rfl (ev_t rfl)) ?_
                refine WL.val rfl rfl rfl rfl (r_move rfl (ev_t rfl)) ?_
                refine WL.val rfl rfl rfl rfl (r_move rfl (ev_t rfl)) ?_
                refine WL.val rfl rfl rfl rfl (r_build (cs := #[_, _, _]) (vs := [(0, _), (1, _), (2, _)]) rfl ⟨⟨rfl, (ev_t rfl)⟩, ⟨rfl, (ev_t rfl)⟩, ⟨rfl, (ev_t rfl)⟩, trivial⟩ plc_68 zero_68 rfl) ?_
                refine WL.cons (SO.alloc rfl rfl rfl rfl (r_buildSlice (cs := #[_, _, _]) (vs := [(0, _)]) rfl ⟨⟨rfl, (ev_t rfl)⟩, trivial⟩ row_40 rfl rfl) ?_)
                intro w11 hu11 hB11 hz11
                have hs11 := hu11.size
                replace hU := hU.trans hu11 (by first | exact (fun _ _ h => h) | exact (fun _ _ h => h.elim) | (intro k hl hk; (try simp only [At, New, Grow, From, No] at hk ⊢); omega) | (intro k hl hk; (try simp only [At, New, Grow, From, No] at *); omega))
                replace hl := hl.upd hu11 (by first | exact (fun _ _ _ h => h) | (intro k hk hl hS; simp only [At, New] at *; omega))
                replace hwb := hwb.upd hu11 (by first | exact (fun _ _ h => h) | exact (fun _ _ h => h.elim) | (intro k hl hk; (try simp only [At, New, Grow, From, No] at *); omega))
                refine WL.cons (SO.append hl (Rd.of_blk (F := At _) (n := 1) (sz := 3) hB11 rfl rfl (by omega)) row_40 (by intro u hu; simp only [List.mem_cons, List.not_mem_nil, or_false, Array.toList] at hu; rcases hu with rfl | rfl | rfl <;> rfl) (le_maxLen (by omega)) (by omega) rfl (ev_t rfl) (ev_t rfl) rfl rfl rfl rfl ?_)
                intro v12 w12 hl hu12
                have hs12 := hu12.size
                replace hU := hU.trans hu12 (by first | exact (fun _ _ h => h) | exact (fun _ _ h => h.elim) | (intro k hl hk; (try simp only [At, New, Grow, From, No] at hk ⊢); omega) | (intro k hl hk; (try simp only [At, New, Grow, From, No] at *); omega))
                replace hwb := hwb.upd hu12 (by first | exact (fun _ _ h => h) | exact (fun _ _ h => h.elim) | (intro k hl hk; (try simp only [At, New, Grow, From, No] at *); omega))
                obtain ⟨A12, c12, rfl, hc12⟩ := Own.form hl
                replace hl := hl.mono (F' := New w2 w12) (fun k hk => by have := hu12.size; simp only [New, Grow] at *; omega)
                replace hl : Own w12 (New w2 w12) 68 3 (.slice A12 (acc.length + 1) c12) (acc.length + 1) ((acc ++ [nw]).flatMap LsV.cells) := by rw [List.flatMap_append, List.flatMap_singleton, hnw]; exact hl
                refine WL.val rfl rfl rfl rfl (r_assign rfl (ev_t rfl)) ?_
                refine WL.nil ?_
                refine WX.keep [(0, _), (12, _)] ⟨rfl, rfl, trivial⟩ ?_
                have hrl2 : lsOf (acc ++ [nw]) = insS L nw.x := by simpa [rFin] using hrl
                have hmm : ∀ y ∈ acc ++ [nw], y = nw ∨ y ∈ V := fun y hy => rFin_mem (n := nw) (V := V) (by rw [hfo]; simpa [rFin] using hy)
                obtain ⟨Vn, hVn⟩ : ∃ Vn, Vn = acc ++ [nw] := ⟨_, rfl⟩
                rw [show acc.length + 1 = Vn.length by rw [hVn]; simp] at hl ⊢
                rw [← hVn] at hl hrl2 hmm
                refine WX.next ?_
                refine WC.seq ?_
                refine WC.region ?_
                refine WL.val rfl rfl rfl rfl (r_move rfl (ev_t rfl)) ?_
                refine WL.val rfl rfl rfl rfl (r_move rfl (ev_t rfl)) ?_
                refine WL.val rfl rfl rfl rfl (r_nilCheck rfl (ev_t rfl)) ?_
                first | refine WL.val rfl rfl rfl rfl (r_field0 rfl (ev_t rfl) fld_42_0) ?_ | refine WL.val rfl rfl rfl rfl (r_fieldAt rfl (ev_t rfl) fld_42_0) ?_
                have hbx := (hb.rd (by omega)).upd hwb (fun _ _ _ h => h)
                refine WL.cons (SO.store rfl (ev_t rfl) (ev_t rfl) size_40 (hB.upd hU (fun h => h)) rfl rfl rfl rfl rfl ?_)
                intro w13 hu13 hB2 hz
                have hFin := IsTG.swap (TT := 42) (nw := nw) (wb := w2.heap.size) hD hRt htl hH hU (by rw [hnw]; exact hbx) (fun k hk => by have := hbn k hk; omega) hl (fun k hk => by simp only [New] at hk; omega) hmm hB2 hu13 (by omega)
                rw [hrl2, hnw] at hFin
                have hUf := (hU.mono (fun _ _ h => h.elim)).trans_same hu13
                refine WL.nil ?_
                refine WX.keep [] trivial ?_
                refine WX.next ?_
                refine WC.seq ?_
                refine WC.region ?_
                refine WL.val rfl rfl rfl rfl (r_assign rfl ev_c) ?_
                refine WL.nil ?_
                refine WX.keep [(8, _)] ⟨rfl, trivial⟩ ?_
                refine WX.next ?_
                refine WC.ret ?_
                refine WX.retE1 rfl rfl ?_
                have e9 : putS L ⟨id, num, data⟩ = (insS L ⟨id, num, data⟩, 0) := by rw [hput, if_pos (by omega)]
                rw [e9]
                exact ⟨rfl, hFin, hUf⟩
             · try (exfalso; first | (simp at hc18; done) | (simp only [decide_eq_true_eq, decide_eq_false_iff_not, Bool.not_eq_true', Bool.not_eq_false', Bool.not_eq_true, Bool.not_eq_false] at hc18; omega) | omega)
               all_goals
                try simp only [decide_eq_true_eq, decide_eq_false_iff_not, Bool.not_eq_true', Bool.not_eq_false', Bool.not_eq_true, Bool.not_eq_false, Option.isNone_none, Option.isNone_some, Option.isSome_none, Option.isSome_some, ne_eq, Decidable.not_not] at hc18
                subst hc18
                have hrl2 : lsOf acc = insS L nw.x := by simpa [rFin] using hrl
                have hmm : ∀ y ∈ acc, y = nw ∨ y ∈ V := fun y hy => rFin_mem (n := nw) (V := V) (by rw [hfo]; simpa [rFin] using hy)
                obtain ⟨Vn, hVn⟩ : ∃ Vn, Vn = acc := ⟨_, rfl⟩
                rw [← hVn] at hl hrl2 hmm ⊢
                refine WC.skip ?_
                refine WX.next ?_
                refine WC.seq ?_
                refine WC.region ?_
                refine WL.val rfl rfl rfl rfl (r_move rfl (ev_t rfl)) ?_
                refine WL.val rfl rfl rfl rfl (r_move rfl (ev_t rfl)) ?_
                refine WL.val rfl rfl rfl rfl (r_nilCheck rfl (ev_t rfl)) ?_
                first | refine WL.val rfl rfl rfl rfl (r_field0 rfl (ev_t rfl) fld_42_0) ?_ | refine WL.val rfl rfl rfl rfl (r_fieldAt rfl (ev_t rfl) fld_42_0) ?_
                have hbx := (hb.rd (by omega)).upd hwb (fun _ _ _ h => h)
                refine WL.cons (SO.store rfl (ev_t rfl) (ev_t rfl) size_40 (hB.upd hU (fun h => h)) rfl rfl rfl rfl rfl ?_)
                intro w14 hu14 hB2 hz
                have hFin := IsTG.swap (TT := 42) (nw := nw) (wb := w2.heap.size) hD hRt htl hH hU (by rw [hnw]; exact hbx) (fun k hk => by have := hbn k hk; omega) hl (fun k hk => by simp only [New] at hk; omega) hmm hB2 hu14 (by omega)
                rw [hrl2, hnw] at hFin
                have hUf := (hU.mono (fun _ _ h => h.elim)).trans_same hu14
                refine WL.nil ?_
                refine WX.keep [] trivial ?_
                refine WX.next ?_
                refine WC.seq ?_
                refine WC.region ?_
                refine WL.val rfl rfl rfl rfl (r_assign rfl ev_c) ?_
                refine WL.nil ?_
                refine WX.keep [(8, _)] ⟨rfl, trivial⟩ ?_
                refine WX.next ?_
                refine WC.ret ?_
                refine WX.retE1 rfl rfl ?_
                have e9 : putS L ⟨id, num, data⟩ = (insS L ⟨id, num, data⟩, 0) := by rw [hput, if_pos (by omega)]
                rw [e9]
                exact ⟨rfl, hFin, hUf⟩
end Go.Proofs.Ytipabhbnljadfaa

/-
  law 17: any calls.
-/
namespace Go.Proofs.Ytipabhbnljadfaa
open Go
set_option linter.unusedSimpArgs false
set_option linter.unusedVariables false

/-- what was saved is read -/
theorem loadL_save : ∀ {M L : List Ls} {r : List UInt8}, (∀ x ∈ M, x.ok) → Rise (L ++ M) → loadL M.length (some (M.flatMap lsB ++ r)) L = (some r, L ++ M)
  | [], L, r, _, _ => by simp [loadL]
  | x :: M, L, r, h, hR => by
    obtain ⟨h1, h2, h3, h4, h5⟩ := h x List.mem_cons_self
    have e : (x :: M).flatMap lsB ++ r = encU x.id ++ (encU x.num ++ (encU x.data.length ++ (x.data ++ (M.flatMap lsB ++ r)))) := by simp [lsB, List.append_assoc]
    have ha := uint_enc h2 (encU x.num ++ (encU x.data.length ++ (x.data ++ (M.flatMap lsB ++ r))))
    have hb := uint_enc h4 (encU x.data.length ++ (x.data ++ (M.flatMap lsB ++ r)))
    have hd := bytes_encN (most := 1048576) (b := x.data) (by omega) (by omega) (M.flatMap lsB ++ r)
    rw [e, List.length_cons, loadL_good ha hb hd]
    · rw [loadL_save (fun y hy => h y (List.mem_cons_of_mem _ hy)) (by rw [List.append_assoc]; exact hR)]
      simp
    · have hn : nextOK L x.id = true := by
        unfold nextOK
        cases hg : L[L.length - 1]? with
        | none => rfl
        | some y =>
          have := (List.pairwise_append.1 hR).2.2 y (List.mem_of_getElem? hg) x List.mem_cons_self
          simpa using this
      rw [hn]
      intro hh
      rcases hh with hh | hh | hh
      · omega
      · omega
      · cases hh
theorem loadS_save {L : List Ls} (h : TOK L) : loadS (saveS L) = (some [], L) := by
  unfold loadS saveS
  have hm := h.most
  have hu : uptoR 64 (some (encU L.length ++ L.flatMap lsB)) = (L.length, some (L.flatMap lsB)) := by
    unfold uptoR
    rw [uint_enc (by omega)]
    exact if_pos (by omega)
  rw [hu]
  have := loadL_save (M := L) (L := []) (r := []) h.ok (by simpa using h.rise)
  simpa using this
theorem askS_bound {L : List Ls} (h : TOK L) (id num : Nat) : (askS L id num).1.length ≤ 1048576 := by
  unfold askS
  split
  · simp
  · split
    · split
      · rename_i x hx
        have := (h.ok x (List.mem_of_getElem? hx)).2.2.2.2
        split
        · simp
        · split
          · simp
          · exact this
      · simp
    · split <;> simp

/-- a call's cells -/
structure ActSe where
  kind : Int
  id : Nat
  num : Nat
  v : Value
  d : List UInt8
def ActSe.cells (a : ActSe) : List Value := [.int .u8 a.kind, .int .u64 (a.id : Int), .int .u64 (a.num : Int), a.v]
theorem ActSe.cells_len (a : ActSe) : a.cells.length = 4 := rfl
structure ActSe.OK (a : ActSe) (W : World) : Prop where
  kind : 0 ≤ a.kind ∧ a.kind ≤ 255
  id : a.id < 18446744073709551616
  num : a.num < 18446744073709551616
  rd : Rd W (fun k => k < W.heap.size) a.v a.d.length 1 (a.d.map U8)

set_option maxHeartbeats 8000000 in
theorem sessionPlays.walk {w : World} {sv : Value} {l : List ActSe} (hs0 : Rd w (fun k => k < w.heap.size) sv l.length 4 (l.flatMap ActSe.cells)) (hA : ∀ a ∈ l, a.OK w) :
    Ret Try.prog 7 #[sv] w fun v w' => v = .bool true ∧ Upd No w w' := by
  obtain ⟨Al, cl, rfl, hcl⟩ := hs0.slice_form
  have hlm := hs0.le
  refine enterRet (vs := [_]) (N := 116) Try.func7 rfl rfl rfl ?_
  have hU := Upd.refl No w
  refine WC.keep [(0, _)] ⟨rfl, trivial⟩ ?_
  refine WC.seq ?_
  refine WC.region ?_
  refine WL.val rfl rfl rfl rfl (r_assign rfl ev_c) ?_
  refine WL.nil ?_
  refine WX.keep [(0, _)] ⟨rfl, trivial⟩ ?_
  refine WX.next ?_
  refine WC.seq ?_
  refine WC.seq ?_
  refine WC.region ?_
  refine WL.cons (SO.call (awake17_ok _) rfl body_9 trivial rfl rfl rfl rfl ?_)
  rintro v w1 ⟨rfl, hu1⟩
  have hs1 := hu1.size
  replace hU := hU.trans hu1 (by first | exact (fun _ _ h => h) | exact (fun _ _ h => h.elim) | (intro k hl hk; (try simp only [At, New, Grow, From, No] at hk ⊢); omega) | (intro k hl hk; first | (have := hR1w k hk; omega) | (simp only [At] at hk; subst hk; have := hR2w _ hR2t; omega) | (simp only [At, New, Grow, From, No] at *; omega)))
  refine WL.val rfl rfl rfl rfl (r_not rfl (ev_t rfl)) ?_
  refine WL.nil ?_
  refine WX.keep [(0, _), (14, _)] ⟨rfl, rfl, trivial⟩ ?_
  refine WX.next ?_
  refine WC.cond rfl (ev_t rfl) (fun hc1 => ?_) (fun hc1 => ?_)
  · try (exfalso; first | (simp at hc1; done) | (simp only [decide_eq_true_eq, decide_eq_false_iff_not, Bool.not_eq_true', Bool.not_eq_false', Bool.not_eq_true, Bool.not_eq_false] at hc1; omega) | omega)
    all_goals
     try simp only [decide_eq_true_eq, decide_eq_false_iff_not, Bool.not_eq_true', Bool.not_eq_false', Bool.not_eq_true, Bool.not_eq_false, Option.isNone_none, Option.isNone_some, Option.isSome_none, Option.isSome_some, ne_eq, Decidable.not_not] at hc1
     refine WC.seq ?_
     refine WC.region ?_
     refine WL.val rfl rfl rfl rfl (r_assign rfl ev_c) ?_
     refine WL.nil ?_
     refine WX.keep [(2, _)] ⟨rfl, trivial⟩ ?_
     refine WX.next ?_
     refine WC.ret ?_
     refine WX.thenRet ?_
     refine WX.retE1 rfl rfl ?_
     fail
  · try (exfalso; first | (simp at hc1; done) | (simp only [decide_eq_true_eq, decide_eq_false_iff_not, Bool.not_eq_true', Bool.not_eq_false', Bool.not_eq_true, Bool.not_eq_false] at hc1; omega) | omega)
    all_goals
     try simp only [decide_eq_true_eq, decide_eq_false_iff_not, Bool.not_eq_true', Bool.not_eq_false', Bool.not_eq_true, Bool.not_eq_false, Option.isNone_none, Option.isNone_some, Option.isSome_none, Option.isSome_some, ne_eq, Decidable.not_not] at hc1
     refine WC.skip ?_
     refine WX.next ?_
     refine WC.seq ?_
     refine WC.region ?_
     refine WL.cons (SO.call (SNew_ok) rfl body_10 trivial rfl rfl rfl rfl ?_)
     rintro v w2 ⟨t, rfl, hT, hu2⟩
     have hs2 := hu2.size
     replace hU := hU.trans hu2 (by first | exact (fun _ _ h => h) | exact (fun _ _ h => h.elim) | (intro k hl hk; (try simp only [At, New, Grow, From, No] at hk ⊢); omega) | (intro k hl hk; first | (have := hR1w k hk; omega) | (simp only [At] at hk; subst hk; have := hR2w _ hR2t; omega) | (simp only [At, New, Grow, From, No] at *; omega)))
     have hR1l : ∀ k, New w1 w2 k → k < w2.heap.size := fun k hk => hk.2
     refine WL.val rfl rfl rfl rfl (r_assign rfl (ev_t rfl)) ?_
     refine WL.nil ?_
     refine WX.keep [(0, _), (3, _)] ⟨rfl, rfl, trivial⟩ ?_
     refine WX.next ?_
     refine WC.seq ?_
     refine WC.region ?_
     refine WL.val rfl rfl rfl rfl (r_build (cs := #[_]) (vs := []) rfl trivial plc_42 zero_42 rfl) ?_
     refine WL.cons (SO.alloc rfl rfl rfl rfl (r_boxAgg rfl (ev_t rfl)) ?_)
     intro w3 hu3 hB3 hz3
     have hs3 := hu3.size
     replace hU := hU.trans hu3 (by first | exact (fun _ _ h => h) | exact (fun _ _ h => h.elim) | (intro k hl hk; (try simp only [At, New, Grow, From, No] at hk ⊢); omega) | (intro k hl hk; first | (have := hR1w k hk; omega) | (simp only [At] at hk; subst hk; have := hR2w _ hR2t; omega) | (simp only [At, New, Grow, From, No] at *; omega)))
     refine WL.val rfl rfl rfl rfl (r_assign rfl (ev_t rfl)) ?_
     refine WL.nil ?_
     refine WX.keep [(0, _), (3, _), (4, _)] ⟨rfl, rfl, rfl, trivial⟩ ?_
     have hT := hT.upd hu3 (fun _ _ _ h => h)
     have hQ : IsQ w3 (New w2 w3) w2.heap.size [] := ⟨none, 0, [], fun _ => False, fun _ => False, hB3, Own.nil _ _ _ _, (fun r h => by cases h), rfl, ⟨by omega, by omega⟩, by omega, (fun k h => h.elim), (fun k h => h.elim)⟩
     refine WX.next ?_
     refine WC.seq ?_
     refine WC.seq ?_
     refine WC.region ?_
     refine WL.val rfl rfl rfl rfl (r_assign rfl ev_c) ?_
     refine WL.nil ?_
     refine WX.keep [(0, _), (3, _), (4, _), (5, _)] ⟨rfl, rfl, rfl, rfl, trivial⟩ ?_
     refine WX.next ?_
     refine WC.block ?_
     -- loop 1: live [0, 3, 4, 5]
     refine WC.keep [(0, _), (3, _), (4, _), (5, _)] ⟨rfl, rfl, rfl, rfl, trivial⟩ ?_
     refine WC.loop (fun q E w' => ∃ (i : Nat) (L : List Ls) (t : Nat) (R1 R2 : Nat → Prop), i ≤ l.length ∧ q = l.length - i ∧ Upd No w w' ∧ TOK L ∧ IsT w' R1 t L ∧ IsQ w' R2 w2.heap.size L ∧ (∀ k, R1 k → w.heap.size ≤ k) ∧ (∀ k, R1 k → k < w'.heap.size) ∧ (∀ k, R2 k → w.heap.size ≤ k) ∧ (∀ k, R2 k → k < w'.heap.size) ∧ (∀ k, R1 k → ¬ R2 k) ∧ R2 w2.heap.size ∧   E = [(0, .slice Al l.length cl), (3, .pointer (some ⟨t, 0, none⟩)), (4, .pointer (some ⟨w2.heap.size, 0, none⟩)), (5, .int .i64 (i : Int))]) (l.length) ?_ ?_
     · exact ⟨0, [], t, New w1 w2, New w2 w3, by omega, by omega, hU, TOK.nil, hT, hQ, (fun k hk => by simp only [New] at hk; omega), (fun k hk => by simp only [New] at hk; omega), (fun k hk => by simp only [New] at hk; omega), (fun k hk => by simp only [New] at hk; omega), (fun k hk h => by simp only [New] at hk h; omega), ⟨by omega, by omega⟩, rfl⟩
     · clear hU hT hQ hR1l
       rintro q E w' ⟨i, L, t, R1, R2, hi, rfl, hU, hL, hT, hQ, hR1w, hR1l, hR2w, hR2l, hdis, hR2t, rfl⟩
       have hw0 := hU.size
       refine WC.seq ?_
       refine WC.seq ?_
       refine WC.region ?_
       refine WL.val rfl rfl rfl rfl (r_move rfl (ev_t rfl)) ?_
       refine WL.val rfl rfl rfl rfl (r_move rfl (ev_t rfl)) ?_
       refine WL.val rfl rfl rfl rfl (r_lenSlice (ts := #[]) rfl (ev_t rfl) elem_38) ?_
       refine WL.val rfl rfl rfl rfl (r_lss rfl (ev_t rfl) (ev_t rfl)) ?_
       refine WL.val rfl rfl rfl rfl (r_move rfl (ev_t rfl)) ?_
       refine WL.cases 22 rfl (fun hb6_4 => ?_) (fun hb6_4 => ?_)
       · try (exfalso; first | (simp at hb6_4; done) | (simp only [decide_eq_true_eq, decide_eq_false_iff_not, Bool.not_eq_true', Bool.not_eq_false', Bool.not_eq_true, Bool.not_eq_false] at hb6_4; omega) | omega)
         all_goals
          try simp only [decide_eq_true_eq, decide_eq_false_iff_not, Bool.not_eq_true', Bool.not_eq_false', Bool.not_eq_true, Bool.not_eq_false, Option.isNone_none, Option.isNone_some, Option.isSome_none, Option.isSome_some, ne_eq, Decidable.not_not] at hb6_4
          refine WL.val rfl rfl rfl rfl (r_move rfl (ev_t rfl)) ?_
          refine WL.val rfl rfl rfl rfl (r_lss rfl (ev_t rfl) ev_c) ?_
          refine WL.val rfl rfl rfl rfl (r_pickT rfl (ev_t rfl) (ev_t rfl)) ?_
          refine WL.nil ?_
          refine WX.keep [(0, _), (3, _), (4, _), (5, _), (25, _)] ⟨rfl, rfl, rfl, rfl, rfl, trivial⟩ ?_
          refine WX.next ?_
          refine WC.cond rfl (ev_t rfl) (fun hc6 => ?_) (fun hc6 => ?_)
          · try (exfalso; first | (simp at hc6; done) | (simp only [decide_eq_true_eq, decide_eq_false_iff_not, Bool.not_eq_true', Bool.not_eq_false', Bool.not_eq_true, Bool.not_eq_false] at hc6; omega) | omega)
            all_goals
             try simp only [decide_eq_true_eq, decide_eq_false_iff_not, Bool.not_eq_true', Bool.not_eq_false', Bool.not_eq_true, Bool.not_eq_false, Option.isNone_none, Option.isNone_some, Option.isSome_none, Option.isSome_some, ne_eq, Decidable.not_not] at hc6
             skip
             refine WC.skip ?_
             refine WX.next ?_
             refine WC.seq ?_
             refine WC.block ?_
             refine WC.seq ?_
             have hi' : i < l.length := by omega
             obtain ⟨bl, ol, rfl, _⟩ := hs0.open (by omega)
             obtain ⟨a, hg⟩ : ∃ a, l[i]? = some a := ⟨_, List.getElem?_eq_getElem hi'⟩
             obtain ⟨hk0, hid, hnum, hrd⟩ := hA a (List.mem_of_getElem? hg)
             have hcell := flatMap_get ActSe.cells_len hg
             rcases a with ⟨ak, aid, anum, av, ad⟩
             simp only [ActSe.cells] at hk0 hid hnum hrd hcell
             obtain ⟨Aa, ca, rfl, hca⟩ := hrd.slice_form
             have ham := hrd.le
             refine WC.region ?_
             refine WL.val rfl rfl rfl rfl (r_move rfl (ev_t rfl)) ?_
             refine WL.val rfl rfl rfl rfl (r_move rfl (ev_t rfl)) ?_
             refine WL.val rfl rfl rfl rfl (r_indexAddr rfl (ev_t rfl) (ev_t rfl) elem_38 size_44 (by omega) (by omega)) ?_
             refine WL.val rfl rfl rfl rfl (r_loadAgg (vs := [_, _, _, _]) rfl (ev_t rfl) agg_44 size_44 (Rd.cellsL (us := [.int .u8 ak, .int .u64 (aid : Int), .int .u64 (anum : Int), .slice Aa ad.length ca]) (hs0.upd hU (fun _ _ _ h => h)) (i := i * 4) (by omega) hcell)) ?_
             refine WL.cons (SO.alloc rfl rfl rfl rfl (r_alloc rfl zero_44) ?_)
             intro w4 hu4 hB4 hz4
             have hs4 := hu4.size
             replace hU := hU.trans hu4 (by first | exact (fun _ _ h => h) | exact (fun _ _ h => h.elim) | (intro k hl hk; (try simp only [At, New, Grow, From, No] at hk ⊢); omega) | (intro k hl hk; first | (have := hR1w k hk; omega) | (simp only [At] at hk; subst hk; have := hR2w _ hR2t; omega) | (simp only [At, New, Grow, From, No] at *; omega)))
             replace hT := hT.upd hu4 (by first | exact (fun _ _ _ h => h) | (intro k hk hl hS; simp only [At] at hS; subst hS; first | exact hdis _ hk hR2t | (have := hR1l _ hk; omega)))
             replace hQ := hQ.upd hu4 (by first | exact (fun _ _ _ h => h) | (intro k hk hl hS; first | exact hdis k hS hk | (simp only [At] at hS; subst hS; have := hR2l _ hk; omega)))
             refine WL.cons (SO.storeAll (us := [_, _, _, _]) rfl (ev_t rfl) (ev_t rfl) size_44 hB4 rfl rfl rfl rfl rfl ?_)
             intro w5 hu5 hB4 hz5
             have hs5 := hu5.size
             replace hU := hU.trans hu5 (by first | exact (fun _ _ h => h) | exact (fun _ _ h => h.elim) | (intro k hl hk; (try simp only [At, New, Grow, From, No] at hk ⊢); omega) | (intro k hl hk; first | (have := hR1w k hk; omega) | (simp only [At] at hk; subst hk; have := hR2w _ hR2t; omega) | (simp only [At, New, Grow, From, No] at *; omega)))
             replace hT := hT.upd hu5 (by first | exact (fun _ _ _ h => h) | (intro k hk hl hS; simp only [At] at hS; subst hS; first | exact hdis _ hk hR2t | (have := hR1l _ hk; omega)))
             replace hQ := hQ.upd hu5 (by first | exact (fun _ _ _ h => h) | (intro k hk hl hS; first | exact hdis k hS hk | (simp only [At] at hS; subst hS; have := hR2l _ hk; omega)))
             refine WL.nil ?_
             refine WX.keep [(0, _), (3, _), (4, _), (5, _), (6, _)] ⟨rfl, rfl, rfl, rfl, rfl, trivial⟩ ?_
             have hBx : Blk w5 _ #[.int .u8 ak, .int .u64 (aid : Int), .int .u64 (anum : Int), .slice Aa ad.length ca] 44 := hB4
             have hbl := hBx.lt
             refine WX.next ?_
             refine WC.seq ?_
             refine WC.seq ?_
             refine WC.region ?_
             first | refine WL.val rfl rfl rfl rfl (r_field0 rfl (ev_t rfl) fld_44_3) ?_ | refine WL.val rfl rfl rfl rfl (r_fieldAt rfl (ev_t rfl) fld_44_3) ?_
             refine WL.val rfl rfl rfl rfl (r_load rfl (ev_t rfl) flat_23 (Blk.cell hBx rfl)) ?_
             refine WL.val rfl rfl rfl rfl (r_lenSlice (ts := #[]) rfl (ev_t rfl) elem_23) ?_
             refine WL.val rfl rfl rfl rfl (r_gtr rfl (ev_t rfl) ev_c) ?_
             refine WL.nil ?_
             refine WX.keep [(0, _), (3, _), (4, _), (5, _), (6, _), (35, _)] ⟨rfl, rfl, rfl, rfl, rfl, rfl, trivial⟩ ?_
             refine WX.next ?_
             refine WC.cond rfl (ev_t rfl) (fun hc9 => ?_) (fun hc9 => ?_)
             · try (exfalso; first | (simp at hc9; done) | (simp only [decide_eq_true_eq, decide_eq_false_iff_not, Bool.not_eq_true', Bool.not_eq_false', Bool.not_eq_true, Bool.not_eq_false] at hc9; omega) | omega)
               all_goals
                try simp only [decide_eq_true_eq, decide_eq_false_iff_not, Bool.not_eq_true', Bool.not_eq_false', Bool.not_eq_true, Bool.not_eq_false, Option.isNone_none, Option.isNone_some, Option.isSome_none, Option.isSome_some, ne_eq, Decidable.not_not] at hc9
                refine WC.seq ?_
                refine WC.region ?_
                refine WL.val rfl rfl rfl rfl (r_assign rfl ev_c) ?_
                refine WL.nil ?_
                refine WX.keep [(2, _)] ⟨rfl, trivial⟩ ?_
                refine WX.next ?_
                refine WC.ret ?_
                refine WX.thenRet ?_
                refine WX.blockRet ?_
                refine WX.thenRet ?_
                refine WX.thenRet ?_
                refine WX.blockRet ?_
                refine WX.thenRet ?_
                refine WX.retE1 rfl rfl ?_
                exact ⟨rfl, hU⟩
             · try (exfalso; first | (simp at hc9; done) | (simp only [decide_eq_true_eq, decide_eq_false_iff_not, Bool.not_eq_true', Bool.not_eq_false', Bool.not_eq_true, Bool.not_eq_false] at hc9; omega) | omega)
               all_goals
                try simp only [decide_eq_true_eq, decide_eq_false_iff_not, Bool.not_eq_true', Bool.not_eq_false', Bool.not_eq_true, Bool.not_eq_false, Option.isNone_none, Option.isNone_some, Option.isSome_none, Option.isSome_some, ne_eq, Decidable.not_not] at hc9
                refine WC.skip ?_
                refine WX.next ?_
                -- cut 11: live [0, 3, 4, 5]
                refine WC.cut (fun E w9 => ∃ (L : List Ls) (t : Nat) (R1 R2 : Nat → Prop), Upd No w w9 ∧ w'.heap.size ≤ w9.heap.size ∧ TOK L ∧ IsT w9 R1 t L ∧ IsQ w9 R2 w2.heap.size L ∧ (∀ k, R1 k → w.heap.size ≤ k) ∧ (∀ k, R1 k → k < w9.heap.size) ∧ (∀ k, R2 k → w.heap.size ≤ k) ∧ (∀ k, R2 k → k < w9.heap.size) ∧ (∀ k, R1 k → ¬ R2 k) ∧ R2 w2.heap.size ∧   E = [(0, .slice (some ⟨bl, ol, none⟩) l.length cl), (3, .pointer (some ⟨t, 0, none⟩)), (4, .pointer (some ⟨w2.heap.size, 0, none⟩)), (5, .int .i64 (i : Int))]) ?_ ?_
                · refine WC.seq ?_
                  refine WC.region ?_
                  first | refine WL.val rfl rfl rfl rfl (r_field0 rfl (ev_t rfl) fld_44_0) ?_ | refine WL.val rfl rfl rfl rfl (r_fieldAt rfl (ev_t rfl) fld_44_0) ?_
                  refine WL.val rfl rfl rfl rfl (r_load rfl (ev_t rfl) flat_5 (Blk.cell hBx rfl)) ?_
                  first | refine WL.val rfl rfl rfl rfl (r_remN rfl (ev_t rfl) ev_c (by omega) (by omega)) ?_ | refine WL.val rfl rfl rfl rfl (r_rem rfl (ev_t rfl) ev_c (by omega)) ?_
                  refine WL.nil ?_
                  refine WX.keep [(0, _), (3, _), (4, _), (5, _), (6, _), (38, _)] ⟨rfl, rfl, rfl, rfl, rfl, rfl, trivial⟩ ?_
                  refine WX.next ?_
                  refine WC.block ?_
                  -- cut 16: live [0, 3, 4, 5, 6, 38, 48]
                  refine WC.cut (fun E w8 => ∃ bb : Bool, w5 = w8 ∧ E = [(0, .slice (some ⟨bl, ol, none⟩) l.length cl), (3, .pointer (some ⟨t, 0, none⟩)), (4, .pointer (some ⟨w2.heap.size, 0, none⟩)), (5, .int .i64 (i : Int)), (6, .pointer (some ⟨w'.heap.size, 0, none⟩)), (38, .int .u8 (ak % 5)), (48, .bool bb)]) ?_ ?_
                  · refine WC.seq ?_
                    refine WC.region ?_
                    refine WL.val rfl rfl rfl rfl (r_eql rfl (ev_t rfl) ev_c) ?_
                    refine WL.val rfl rfl rfl rfl (r_assign rfl (ev_t rfl)) ?_
                    refine WL.nil ?_
                    refine WX.keep [(0, _), (3, _), (4, _), (5, _), (6, _), (38, _), (48, _)] ⟨rfl, rfl, rfl, rfl, rfl, rfl, rfl, trivial⟩ ?_
                    refine WX.next ?_
                    refine WC.cond rfl (ev_t rfl) (fun hc16 => ?_) (fun hc16 => ?_)
                    · try (exfalso; first | (simp at hc16; done) | (simp only [decide_eq_true_eq, decide_eq_false_iff_not, Bool.not_eq_true', Bool.not_eq_false', Bool.not_eq_true, Bool.not_eq_false] at hc16; omega) | omega)
                      all_goals
                       try simp only [decide_eq_true_eq, decide_eq_false_iff_not, Bool.not_eq_true', Bool.not_eq_false', Bool.not_eq_true, Bool.not_eq_false, Option.isNone_none, Option.isNone_some, Option.isSome_none, Option.isSome_some, ne_eq, Decidable.not_not] at hc16
                       refine WC.skip ?_
                       refine WX.meet [(0, _), (3, _), (4, _), (5, _), (6, _), (38, _), (48, _)] ⟨rfl, rfl, rfl, rfl, rfl, rfl, rfl, trivial⟩ ?_
                       exact ⟨_, rfl, rfl⟩
                    · try (exfalso; first | (simp at hc16; done) | (simp only [decide_eq_true_eq, decide_eq_false_iff_not, Bool.not_eq_true', Bool.not_eq_false', Bool.not_eq_true, Bool.not_eq_false] at hc16; omega) | omega)
                      all_goals
                       try simp only [decide_eq_true_eq, decide_eq_false_iff_not, Bool.not_eq_true', Bool.not_eq_false', Bool.not_eq_true, Bool.not_eq_false, Option.isNone_none, Option.isNone_some, Option.isSome_none, Option.isSome_some, ne_eq, Decidable.not_not] at hc16
                       refine WC.seq ?_
                       refine WC.region ?_
                       refine WL.val rfl rfl rfl rfl (r_eql rfl (ev_t rfl) ev_c) ?_
                       refine WL.val rfl rfl rfl rfl (r_assign rfl (ev_t rfl)) ?_
                       refine WL.nil ?_
                       refine WX.keep [(0, _), (3, _), (4, _), (5, _), (6, _), (38, _), (48, _)] ⟨rfl, rfl, rfl, rfl, rfl, rfl, rfl, trivial⟩ ?_
                       refine WX.next ?_
                       refine WC.cond rfl (ev_t rfl) (fun hc17 => ?_) (fun hc17 => ?_)
                       · try (exfalso; first | (simp at hc17; done) | (simp only [decide_eq_true_eq, decide_eq_false_iff_not, Bool.not_eq_true', Bool.not_eq_false', Bool.not_eq_true, Bool.not_eq_false] at hc17; omega) | omega)
                         all_goals
                          try simp only [decide_eq_true_eq, decide_eq_false_iff_not, Bool.not_eq_true', Bool.not_eq_false', Bool.not_eq_true, Bool.not_eq_false, Option.isNone_none, Option.isNone_some, Option.isSome_none, Option.isSome_some, ne_eq, Decidable.not_not] at hc17
                          refine WC.skip ?_
                          refine WX.meet [(0, _), (3, _), (4, _), (5, _), (6, _), (38, _), (48, _)] ⟨rfl, rfl, rfl, rfl, rfl, rfl, rfl, trivial⟩ ?_
                          exact ⟨_, rfl, rfl⟩
                       · try (exfalso; first | (simp at hc17; done) | (simp only [decide_eq_true_eq, decide_eq_false_iff_not, Bool.not_eq_true', Bool.not_eq_false', Bool.not_eq_true, Bool.not_eq_false] at hc17; omega) | omega)
                         all_goals
                          try simp only [decide_eq_true_eq, decide_eq_false_iff_not, Bool.not_eq_true', Bool.not_eq_false', Bool.not_eq_true, Bool.not_eq_false, Option.isNone_none, Option.isNone_some, Option.isSome_none, Option.isSome_some, ne_eq, Decidable.not_not] at hc17
                          refine WC.region ?_
                          refine WL.val rfl rfl rfl rfl (r_eql rfl (ev_t rfl) ev_c) ?_
                          refine WL.val rfl rfl rfl rfl (r_assign rfl (ev_t rfl)) ?_
                          refine WL.nil ?_
                          refine WX.keep [(0, _), (3, _), (4, _), (5, _), (6, _), (38, _), (48, _)] ⟨rfl, rfl, rfl, rfl, rfl, rfl, rfl, trivial⟩ ?_
                          refine WX.meet [(0, _), (3, _), (4, _), (5, _), (6, _), (38, _), (48, _)] ⟨rfl, rfl, rfl, rfl, rfl, rfl, rfl, trivial⟩ ?_
                          exact ⟨_, rfl, rfl⟩
                  · rintro E w8 ⟨bb, rfl, rfl⟩
                    refine WC.cond rfl (ev_t rfl) (fun hc11 => ?_) (fun hc11 => ?_)
                    · try (exfalso; first | (simp at hc11; done) | (simp only [decide_eq_true_eq, decide_eq_false_iff_not, Bool.not_eq_true', Bool.not_eq_false', Bool.not_eq_true, Bool.not_eq_false] at hc11; omega) | omega)
                      all_goals
                       try simp only [decide_eq_true_eq, decide_eq_false_iff_not, Bool.not_eq_true', Bool.not_eq_false', Bool.not_eq_true, Bool.not_eq_false, Option.isNone_none, Option.isNone_some, Option.isSome_none, Option.isSome_some, ne_eq, Decidable.not_not] at hc11
                       refine WC.seq ?_
                       have hnS : ¬ (R1 w'.heap.size ∨ R2 w'.heap.size) := fun h => h.elim (fun h => by have := hR1l _ h; omega) (fun h => by have := hR2l _ h; omega)
                       refine WC.draws' (fun u0_ u1_ => Upd (fun k => R1 k ∨ R2 k) u0_ u1_) (fun j => [0, 0, 0, 0, 0, 0, 0, 1, 0, 0, 0, 0, 0, 0, 0, 2, 0].getD j 0) (.calm 0 (.calm 1 (.calm 3 (.calm 5 (.calm 8 (.calm 9 (.calm 11 (.calm 13 (.held 2 (.held 4 (.held 6 (.held 10 (.held 12 (.held 14 (.one 7 (.one 15 (.calm 16 (.done)))))))))))))))))) mixed (by kernel_rfl) (by repeat (first | with_reducible exact Deaf.body | with_reducible apply Deaf.then | with_reducible apply Deaf.block)) ?_
                       intro w6 hu6
                       have hz6 := congrArg Array.size hu6.2.2.2
                       replace hu6 := Upd.of_draw hu6
                       have hs6 := hu6.size
                       replace hU := hU.trans hu6 (by first | exact (fun _ _ h => h) | exact (fun _ _ h => h.elim) | (intro k hl hk; (try simp only [At, New, Grow, From, No] at hk ⊢); omega) | (intro k hl hk; first | (have := hR1w k hk; omega) | (simp only [At] at hk; subst hk; have := hR2w _ hR2t; omega) | (simp only [At, New, Grow, From, No] at *; omega)))
                       replace hT := hT.upd hu6 (by first | exact (fun _ _ _ h => h) | (intro k hk hl hS; simp only [At] at hS; subst hS; first | exact hdis _ hk hR2t | (have := hR1l _ hk; omega)))
                       replace hQ := hQ.upd hu6 (by first | exact (fun _ _ _ h => h) | (intro k hk hl hS; first | exact hdis k hS hk | (simp only [At] at hS; subst hS; have := hR2l _ hk; omega)))
                       replace hBx := hBx.upd hu6 (by first | exact (fun h => h) | (exact fun h => by have := hR1l _ h; omega) | (simp only [At]; have := hR2l _ hR2t; omega) | (simp only [At]; omega))
                       have hS19 := Upd.refl (fun k => R1 k ∨ R2 k) w6
                       refine WN.calm _ rfl rfl rfl rfl rfl (fun _ => r_move rfl (ev_t rfl)) ?_
                       first | refine WN.calm _ rfl rfl rfl rfl rfl (fun _ => r_field0 rfl (ev_t rfl) fld_44_1) ?_ | refine WN.calm _ rfl rfl rfl rfl rfl (fun _ => r_fieldAt rfl (ev_t rfl) fld_44_1) ?_
                       first | refine WN.calm _ rfl rfl rfl rfl rfl (fun _ => r_field0 rfl (ev_t rfl) fld_44_2) ?_ | refine WN.calm _ rfl rfl rfl rfl rfl (fun _ => r_fieldAt rfl (ev_t rfl) fld_44_2) ?_
                       first | refine WN.calm _ rfl rfl rfl rfl rfl (fun _ => r_field0 rfl (ev_t rfl) fld_44_3) ?_ | refine WN.calm _ rfl rfl rfl rfl rfl (fun _ => r_fieldAt rfl (ev_t rfl) fld_44_3) ?_
                       refine WN.calm _ rfl rfl rfl rfl rfl (fun _ => r_move rfl (ev_t rfl)) ?_
                       first | refine WN.calm _ rfl rfl rfl rfl rfl (fun _ => r_field0 rfl (ev_t rfl) fld_44_1) ?_ | refine WN.calm _ rfl rfl rfl rfl rfl (fun _ => r_fieldAt rfl (ev_t rfl) fld_44_1) ?_
                       first | refine WN.calm _ rfl rfl rfl rfl rfl (fun _ => r_field0 rfl (ev_t rfl) fld_44_2) ?_ | refine WN.calm _ rfl rfl rfl rfl rfl (fun _ => r_fieldAt rfl (ev_t rfl) fld_44_2) ?_
                       first | refine WN.calm _ rfl rfl rfl rfl rfl (fun _ => r_field0 rfl (ev_t rfl) fld_44_3) ?_ | refine WN.calm _ rfl rfl rfl rfl rfl (fun _ => r_fieldAt rfl (ev_t rfl) fld_44_3) ?_
                       refine WN.held _ rfl rfl rfl rfl rfl hS19 (fun w' hS => r_load rfl (ev_t rfl) flat_27 (Blk.cell (hBx.upd hS hnS) rfl)) ?_
                       refine WN.held _ rfl rfl rfl rfl rfl hS19 (fun w' hS => r_load rfl (ev_t rfl) flat_27 (Blk.cell (hBx.upd hS hnS) rfl)) ?_
                       refine WN.held _ rfl rfl rfl rfl rfl hS19 (fun w' hS => r_load rfl (ev_t rfl) flat_23 (Blk.cell (hBx.upd hS hnS) rfl)) ?_
                       refine WN.held _ rfl rfl rfl rfl rfl hS19 (fun w' hS => r_load rfl (ev_t rfl) flat_27 (Blk.cell (hBx.upd hS hnS) rfl)) ?_
                       refine WN.held _ rfl rfl rfl rfl rfl hS19 (fun w' hS => r_load rfl (ev_t rfl) flat_27 (Blk.cell (hBx.upd hS hnS) rfl)) ?_
                       refine WN.held _ rfl rfl rfl rfl rfl hS19 (fun w' hS => r_load rfl (ev_t rfl) flat_23 (Blk.cell (hBx.upd hS hnS) rfl)) ?_
                       refine WN.step _ rfl (SO.call (PutA_ok (id := aid) (num := anum) hT hL hid hnum (hrd.upd hU (fun _ _ _ h => h))) rfl body_11 ⟨(ev_t rfl), (ev_t rfl), (ev_t rfl), (ev_t rfl), trivial⟩ rfl rfl rfl rfl ?_)
                       clear hT
                       rintro v w7 ⟨rfl, hT, hu7⟩
                       have hps := hu7.size
                       have hs7 := hu7.size
                       replace hS19 := Upd.trans hS19 hu7 (by intro k hl hk; first | exact .inl hk | exact hk.elim | (simp only [At] at hk; subst hk; exact .inr hR2t))
                       replace hU := hU.trans hu7 (by first | exact (fun _ _ h => h) | exact (fun _ _ h => h.elim) | (intro k hl hk; (try simp only [At, New, Grow, From, No] at hk ⊢); omega) | (intro k hl hk; first | (have := hR1w k hk; omega) | (simp only [At] at hk; subst hk; have := hR2w _ hR2t; omega) | (simp only [At, New, Grow, From, No] at *; omega)))
                       replace hQ := hQ.upd hu7 (by first | exact (fun _ _ _ h => h) | (intro k hk hl hS; first | exact hdis k hS hk | (simp only [At] at hS; subst hS; have := hR2l _ hk; omega)))
                       replace hBx := hBx.upd hu7 (by first | exact (fun h => h) | (exact fun h => by have := hR1l _ h; omega) | (simp only [At]; have := hR2l _ hR2t; omega) | (simp only [At]; omega))
                       replace hR1w : ∀ k, Grow R1 w6 w7 k → w.heap.size ≤ k := fun k hk => hk.elim (hR1w k) (fun h => by omega)
                       replace hdis : ∀ k, Grow R1 w6 w7 k → ¬ R2 k := fun k hk h => hk.elim (fun h' => hdis k h' h) (fun h' => by have := hR2l k h; omega)
                       replace hR1l : ∀ k, Grow R1 w6 w7 k → k < w7.heap.size := fun k hk => hk.elim (fun h => by have := hR1l k h; omega) (fun h => h.2)
                       refine ⟨hS19, ?_⟩
                       refine WN.step _ rfl (SO.call (refPut_ok (id := aid) (num := anum) hQ hL hid hnum (hrd.upd hU (fun _ _ _ h => h))) rfl body_15 ⟨(ev_t rfl), (ev_t rfl), (ev_t rfl), (ev_t rfl), trivial⟩ rfl rfl rfl rfl ?_)
                       clear hQ
                       rintro v w8 ⟨rfl, hQ, hu8⟩
                       have hps := hu8.size
                       have hs8 := hu8.size
                       try replace hS19 := Upd.trans hS19 hu8 (by intro k hl hk; first | exact .inl hk | exact hk.elim | (simp only [At] at hk; subst hk; exact .inr hR2t))
                       replace hU := hU.trans hu8 (by first | exact (fun _ _ h => h) | exact (fun _ _ h => h.elim) | (intro k hl hk; (try simp only [At, New, Grow, From, No] at hk ⊢); omega) | (intro k hl hk; first | (have := hR1w k hk; omega) | (simp only [At] at hk; subst hk; have := hR2w _ hR2t; omega) | (simp only [At, New, Grow, From, No] at *; omega)))
                       replace hT := hT.upd hu8 (by first | exact (fun _ _ _ h => h) | (intro k hk hl hS; simp only [At] at hS; subst hS; first | exact hdis _ hk hR2t | (have := hR1l _ hk; omega)))
                       replace hBx := hBx.upd hu8 (by first | exact (fun h => h) | (exact fun h => by have := hR1l _ h; omega) | (simp only [At]; have := hR2l _ hR2t; omega) | (simp only [At]; omega))
                       replace hR2w : ∀ k, Grow R2 w7 w8 k → w.heap.size ≤ k := fun k hk => hk.elim (hR2w k) (fun h => by omega)
                       replace hdis : ∀ k, Grow R1 _ w7 k → ¬ Grow R2 w7 w8 k := fun k hk h => h.elim (hdis k hk) (fun h => by have := hR1l k hk; omega)
                       replace hR2l : ∀ k, Grow R2 w7 w8 k → k < w8.heap.size := fun k hk => hk.elim (fun h => by have := hR2l k h; omega) (fun h => h.2)
                       replace hR2t : Grow R2 w7 w8 w2.heap.size := .inl hR2t
                       replace hL := hL.put (x := ⟨aid, anum, ad⟩) hid hnum (by show ad.length ≤ _; omega)
                       refine ⟨trivial, ?_⟩
                       refine WN.calm _ rfl rfl rfl rfl rfl (fun _ => r_neq rfl (ev_t rfl) (ev_t rfl)) ?_
                       refine WN.done ?_
                       refine WX.keep [(0, _), (3, _), (4, _), (5, _), (68, _)] ⟨rfl, rfl, rfl, rfl, rfl, trivial⟩ ?_
                       refine WX.next ?_
                       refine WC.cond rfl (ev_t rfl) (fun hc19 => ?_) (fun hc19 => ?_)
                       · try simp only [decide_eq_true_eq, decide_eq_false_iff_not, Bool.not_eq_true', Bool.not_eq_false', Bool.not_eq_true, Bool.not_eq_false, Option.isNone_none, Option.isNone_some, Option.isSome_none, Option.isSome_some, ne_eq, Decidable.not_not] at hc19
                         exfalso
                         first | (simp at hc19; done) | (exact hc19 rfl)
                       · try (exfalso; first | (simp at hc19; done) | (simp only [decide_eq_true_eq, decide_eq_false_iff_not, Bool.not_eq_true', Bool.not_eq_false', Bool.not_eq_true, Bool.not_eq_false] at hc19; omega) | omega)
                         all_goals
                          try simp only [decide_eq_true_eq, decide_eq_false_iff_not, Bool.not_eq_true', Bool.not_eq_false', Bool.not_eq_true, Bool.not_eq_false, Option.isNone_none, Option.isNone_some, Option.isSome_none, Option.isSome_some, ne_eq, Decidable.not_not] at hc19
                          refine WC.skip ?_
                          refine WX.blockNormal ?_
                          refine WX.meet [(0, _), (3, _), (4, _), (5, _)] ⟨rfl, rfl, rfl, rfl, trivial⟩ ?_
                          exact ⟨_, _, _, _, hU, by omega, hL, hT, hQ, hR1w, (fun k hk => by have := hR1l k hk; omega), hR2w, (fun k hk => by have := hR2l k hk; omega), hdis, hR2t, rfl⟩
                    · try (exfalso; first | (simp at hc11; done) | (simp only [decide_eq_true_eq, decide_eq_false_iff_not, Bool.not_eq_true', Bool.not_eq_false', Bool.not_eq_true, Bool.not_eq_false] at hc11; omega) | omega)
                      all_goals
                       try simp only [decide_eq_true_eq, decide_eq_false_iff_not, Bool.not_eq_true', Bool.not_eq_false', Bool.not_eq_true, Bool.not_eq_false, Option.isNone_none, Option.isNone_some, Option.isSome_none, Option.isSome_some, ne_eq, Decidable.not_not] at hc11
                       refine WC.seq ?_
                       refine WC.region ?_
                       refine WL.val rfl rfl rfl rfl (r_eql rfl (ev_t rfl) ev_c) ?_
                       refine WL.val rfl rfl rfl rfl (r_assign rfl (ev_t rfl)) ?_
                       refine WL.nil ?_
                       refine WX.keep [(0, _), (3, _), (4, _), (5, _), (6, _), (69, _)] ⟨rfl, rfl, rfl, rfl, rfl, rfl, trivial⟩ ?_
                       refine WX.next ?_
                       refine WC.cond rfl (ev_t rfl) (fun hc21 => ?_) (fun hc21 => ?_)
                       · try (exfalso; first | (simp at hc21; done) | (simp only [decide_eq_true_eq, decide_eq_false_iff_not, Bool.not_eq_true', Bool.not_eq_false', Bool.not_eq_true, Bool.not_eq_false] at hc21; omega) | omega)
                         all_goals
                          try simp only [decide_eq_true_eq, decide_eq_false_iff_not, Bool.not_eq_true', Bool.not_eq_false', Bool.not_eq_true, Bool.not_eq_false, Option.isNone_none, Option.isNone_some, Option.isSome_none, Option.isSome_some, ne_eq, Decidable.not_not] at hc21
                          refine WC.seq ?_
                          refine WC.region ?_
                          refine WL.val rfl rfl rfl rfl (r_move rfl (ev_t rfl)) ?_
                          first | refine WL.val rfl rfl rfl rfl (r_field0 rfl (ev_t rfl) fld_44_1) ?_ | refine WL.val rfl rfl rfl rfl (r_fieldAt rfl (ev_t rfl) fld_44_1) ?_
                          refine WL.val rfl rfl rfl rfl (r_load rfl (ev_t rfl) flat_27 (Blk.cell hBx rfl)) ?_
                          first | refine WL.val rfl rfl rfl rfl (r_field0 rfl (ev_t rfl) fld_44_2) ?_ | refine WL.val rfl rfl rfl rfl (r_fieldAt rfl (ev_t rfl) fld_44_2) ?_
                          refine WL.val rfl rfl rfl rfl (r_load rfl (ev_t rfl) flat_27 (Blk.cell hBx rfl)) ?_
                          refine WL.cons (SO.call (Ask_ok (id := aid) (num := anum) hT hL hid hnum) rfl body_12 ⟨(ev_t rfl), (ev_t rfl), (ev_t rfl), trivial⟩ rfl rfl rfl rfl ?_)
                          rintro v w9 ⟨v7, rfl, ho7, hu9⟩
                          obtain ⟨A7, c7, rfl, hc7⟩ := Own.form ho7
                          have hs9 := hu9.size
                          replace hU := hU.trans hu9 (by first | exact (fun _ _ h => h) | exact (fun _ _ h => h.elim) | (intro k hl hk; (try simp only [At, New, Grow, From, No] at hk ⊢); omega) | (intro k hl hk; first | (have := hR1w k hk; omega) | (simp only [At] at hk; subst hk; have := hR2w _ hR2t; omega) | (simp only [At, New, Grow, From, No] at *; omega)))
                          replace hT := hT.upd hu9 (by first | exact (fun _ _ _ h => h) | (intro k hk hl hS; simp only [At] at hS; subst hS; first | exact hdis _ hk hR2t | (have := hR1l _ hk; omega)))
                          replace hQ := hQ.upd hu9 (by first | exact (fun _ _ _ h => h) | (intro k hk hl hS; first | exact hdis k hS hk | (simp only [At] at hS; subst hS; have := hR2l _ hk; omega)))
                          replace hBx := hBx.upd hu9 (by first | exact (fun h => h) | (exact fun h => by have := hR1l _ h; omega) | (simp only [At]; have := hR2l _ hR2t; omega) | (simp only [At]; omega))
                          refine WL.val rfl rfl rfl rfl (r_move rfl (ev_t rfl)) ?_
                          refine WL.val rfl rfl rfl rfl (r_extract rfl (ev_t rfl) rfl) ?_
                          refine WL.val rfl rfl rfl rfl (r_extract rfl (ev_t rfl) rfl) ?_
                          refine WL.val rfl rfl rfl rfl (r_assign rfl (ev_t rfl)) ?_
                          refine WL.val rfl rfl rfl rfl (r_assign rfl (ev_t rfl)) ?_
                          refine WL.nil ?_
                          refine WX.keep [(0, _), (3, _), (4, _), (5, _), (6, _), (7, _), (8, _)] ⟨rfl, rfl, rfl, rfl, rfl, rfl, rfl, trivial⟩ ?_
                          refine WX.next ?_
                          refine WC.seq ?_
                          refine WC.region ?_
                          refine WL.val rfl rfl rfl rfl (r_move rfl (ev_t rfl)) ?_
                          first | refine WL.val rfl rfl rfl rfl (r_field0 rfl (ev_t rfl) fld_44_1) ?_ | refine WL.val rfl rfl rfl rfl (r_fieldAt rfl (ev_t rfl) fld_44_1) ?_
                          refine WL.val rfl rfl rfl rfl (r_load rfl (ev_t rfl) flat_27 (Blk.cell hBx rfl)) ?_
                          first | refine WL.val rfl rfl rfl rfl (r_field0 rfl (ev_t rfl) fld_44_2) ?_ | refine WL.val rfl rfl rfl rfl (r_fieldAt rfl (ev_t rfl) fld_44_2) ?_
                          refine WL.val rfl rfl rfl rfl (r_load rfl (ev_t rfl) flat_27 (Blk.cell hBx rfl)) ?_
                          refine WL.cons (SO.call (refAsk_ok (id := aid) (num := anum) hQ hL hid hnum) rfl body_16 ⟨(ev_t rfl), (ev_t rfl), (ev_t rfl), trivial⟩ rfl rfl rfl rfl ?_)
                          rintro v w10 ⟨v9, rfl, ho9, hu10⟩
                          obtain ⟨A9, c9, rfl, hc9⟩ := ho9.slice_form
                          have hs10 := hu10.size
                          replace hU := hU.trans hu10 (by first | exact (fun _ _ h => h) | exact (fun _ _ h => h.elim) | (intro k hl hk; (try simp only [At, New, Grow, From, No] at hk ⊢); omega) | (intro k hl hk; first | (have := hR1w k hk; omega) | (simp only [At] at hk; subst hk; have := hR2w _ hR2t; omega) | (simp only [At, New, Grow, From, No] at *; omega)))
                          replace hT := hT.upd hu10 (by first | exact (fun _ _ _ h => h) | (intro k hk hl hS; simp only [At] at hS; subst hS; first | exact hdis _ hk hR2t | (have := hR1l _ hk; omega)))
                          replace hQ := hQ.upd hu10 (by first | exact (fun _ _ _ h => h) | (intro k hk hl hS; first | exact hdis k hS hk | (simp only [At] at hS; subst hS; have := hR2l _ hk; omega)))
                          replace hBx := hBx.upd hu10 (by first | exact (fun h => h) | (exact fun h => by have := hR1l _ h; omega) | (simp only [At]; have := hR2l _ hR2t; omega) | (simp only [At]; omega))
                          replace ho7 := ho7.updA hu10
                          refine WL.val rfl rfl rfl rfl (r_move rfl (ev_t rfl)) ?_
                          refine WL.val rfl rfl rfl rfl (r_extract rfl (ev_t rfl) rfl) ?_
                          refine WL.val rfl rfl rfl rfl (r_extract rfl (ev_t rfl) rfl) ?_
                          refine WL.val rfl rfl rfl rfl (r_assign rfl (ev_t rfl)) ?_
                          refine WL.val rfl rfl rfl rfl (r_assign rfl (ev_t rfl)) ?_
                          refine WL.nil ?_
                          refine WX.keep [(0, _), (3, _), (4, _), (5, _), (7, _), (8, _), (9, _), (10, _)] ⟨rfl, rfl, rfl, rfl, rfl, rfl, rfl, rfl, trivial⟩ ?_
                          refine WX.next ?_
                          refine WC.seq ?_
                          refine WC.region ?_
                          have hab := askS_bound hL aid anum
                          refine WL.val rfl rfl rfl rfl (r_move rfl (ev_t rfl)) ?_
                          refine WL.val rfl rfl rfl rfl (r_move rfl (ev_t rfl)) ?_
                          refine WL.val rfl rfl rfl rfl (r_neq rfl (ev_t rfl) (ev_t rfl)) ?_
                          refine WL.val rfl rfl rfl rfl (r_move rfl (ev_t rfl)) ?_
                          refine WL.cases 92 rfl (fun hb24_3 => ?_) (fun hb24_3 => ?_)
                          · try (exfalso; first | (simp at hb24_3; done) | (simp only [decide_eq_true_eq, decide_eq_false_iff_not, Bool.not_eq_true', Bool.not_eq_false', Bool.not_eq_true, Bool.not_eq_false] at hb24_3; omega) | omega)
                            all_goals
                             try simp only [decide_eq_true_eq, decide_eq_false_iff_not, Bool.not_eq_true', Bool.not_eq_false', Bool.not_eq_true, Bool.not_eq_false, Option.isNone_none, Option.isNone_some, Option.isSome_none, Option.isSome_some, ne_eq, Decidable.not_not] at hb24_3
                             refine WL.skip rfl rfl rfl ?_
                             refine WL.skip rfl rfl rfl ?_
                             refine WL.skip rfl rfl rfl ?_
                             refine WL.skip rfl rfl rfl ?_
                             refine WL.skip rfl rfl rfl ?_
                             refine WL.val rfl rfl rfl rfl (r_pickT rfl (ev_t rfl) ev_c) ?_
                             refine WL.nil ?_
                             refine WX.keep [(0, _), (3, _), (4, _), (5, _), (98, _)] ⟨rfl, rfl, rfl, rfl, rfl, trivial⟩ ?_
                             refine WX.next ?_
                             refine WC.cond_true rfl (ev_t rfl) ?_
                             refine WC.seq ?_
                             refine WC.region ?_
                             refine WL.val rfl rfl rfl rfl (r_assign rfl ev_c) ?_
                             refine WL.nil ?_
                             refine WX.keep [(2, _)] ⟨rfl, trivial⟩ ?_
                             refine WX.next ?_
                             refine WC.ret ?_
                             refine WX.blockRet ?_
                             refine WX.thenRet ?_
                             refine WX.blockRet ?_
                             refine WX.thenRet ?_
                             refine WX.thenRet ?_
                             refine WX.blockRet ?_
                             refine WX.thenRet ?_
                             refine WX.retE1 rfl rfl ?_
                             fail
                          · try (exfalso; first | (simp at hb24_3; done) | (simp only [decide_eq_true_eq, decide_eq_false_iff_not, Bool.not_eq_true', Bool.not_eq_false', Bool.not_eq_true, Bool.not_eq_false] at hb24_3; omega) | omega)
                            all_goals
                             try simp only [decide_eq_true_eq, decide_eq_false_iff_not, Bool.not_eq_true', Bool.not_eq_false', Bool.not_eq_true, Bool.not_eq_false, Option.isNone_none, Option.isNone_some, Option.isSome_none, Option.isSome_some, ne_eq, Decidable.not_not] at hb24_3
                             refine WL.val rfl rfl rfl rfl (r_move rfl (ev_t rfl)) ?_
                             refine WL.val rfl rfl rfl rfl (r_toStr rfl (ev_t rfl) (ho7.rd (by omega)) elem_23 int_5 str_9) ?_
                             refine WL.val rfl rfl rfl rfl (r_move rfl (ev_t rfl)) ?_
                             refine WL.val rfl rfl rfl rfl (r_toStr rfl (ev_t rfl) ho9 elem_23 int_5 str_9) ?_
                             refine WL.val rfl rfl rfl rfl (r_neqStrL rfl (ev_t rfl) (ev_t rfl)) ?_
                             refine WL.val rfl rfl rfl rfl (r_pickF rfl (ev_t rfl) (ev_t rfl)) ?_
                             refine WL.nil ?_
                             refine WX.keep [(0, _), (3, _), (4, _), (5, _), (98, _)] ⟨rfl, rfl, rfl, rfl, rfl, trivial⟩ ?_
                             refine WX.next ?_
                             refine WC.cond rfl (ev_t rfl) (fun hc24 => ?_) (fun hc24 => ?_)
                             · try (exfalso; first | (simp at hc24; done) | (simp only [decide_eq_true_eq, decide_eq_false_iff_not, Bool.not_eq_true', Bool.not_eq_false', Bool.not_eq_true, Bool.not_eq_false] at hc24; omega) | omega)
                               all_goals
                                try simp only [decide_eq_true_eq, decide_eq_false_iff_not, Bool.not_eq_true', Bool.not_eq_false', Bool.not_eq_true, Bool.not_eq_false, Option.isNone_none, Option.isNone_some, Option.isSome_none, Option.isSome_some, ne_eq, Decidable.not_not] at hc24
                                refine WC.seq ?_
                                refine WC.region ?_
                                refine WL.val rfl rfl rfl rfl (r_assign rfl ev_c) ?_
                                refine WL.nil ?_
                                refine WX.keep [(2, _)] ⟨rfl, trivial⟩ ?_
                                refine WX.next ?_
                                refine WC.ret ?_
                                refine WX.blockRet ?_
                                refine WX.thenRet ?_
                                refine WX.blockRet ?_
                                refine WX.thenRet ?_
                                refine WX.thenRet ?_
                                refine WX.blockRet ?_
                                refine WX.thenRet ?_
                                refine WX.retE1 rfl rfl ?_
                                fail
                             · try (exfalso; first | (simp at hc24; done) | (simp only [decide_eq_true_eq, decide_eq_false_iff_not, Bool.not_eq_true', Bool.not_eq_false', Bool.not_eq_true, Bool.not_eq_false] at hc24; omega) | omega)
                               all_goals
                                try simp only [decide_eq_true_eq, decide_eq_false_iff_not, Bool.not_eq_true', Bool.not_eq_false', Bool.not_eq_true, Bool.not_eq_false, Option.isNone_none, Option.isNone_some, Option.isSome_none, Option.isSome_some, ne_eq, Decidable.not_not] at hc24
                                refine WC.skip ?_
                                refine WX.blockNormal ?_
                                refine WX.meet [(0, _), (3, _), (4, _), (5, _)] ⟨rfl, rfl, rfl, rfl, trivial⟩ ?_
                                exact ⟨_, _, _, _, hU, by omega, hL, hT, hQ, hR1w, (fun k hk => by have := hR1l k hk; omega), hR2w, (fun k hk => by have := hR2l k hk; omega), hdis, hR2t, rfl⟩
                       · try (exfalso; first | (simp at hc21; done) | (simp only [decide_eq_true_eq, decide_eq_false_iff_not, Bool.not_eq_true', Bool.not_eq_false', Bool.not_eq_true, Bool.not_eq_false] at hc21; omega) | omega)
                         all_goals
                          try simp only [decide_eq_true_eq, decide_eq_false_iff_not, Bool.not_eq_true', Bool.not_eq_false', Bool.not_eq_true, Bool.not_eq_false, Option.isNone_none, Option.isNone_some, Option.isSome_none, Option.isSome_some, ne_eq, Decidable.not_not] at hc21
                          refine WC.seq ?_
                          refine WC.region ?_
                          refine WL.val rfl rfl rfl rfl (r_move rfl (ev_t rfl)) ?_
                          refine WL.cons (SO.call (Save_ok hT hL) rfl body_14 ⟨(ev_t rfl), trivial⟩ rfl rfl rfl rfl ?_)
                          rintro v w11 ⟨hsv, hu11⟩
                          obtain ⟨A12, c12, rfl, hc12⟩ := Own.form hsv
                          have hs11 := hu11.size
                          replace hU := hU.trans hu11 (by first | exact (fun _ _ h => h) | exact (fun _ _ h => h.elim) | (intro k hl hk; (try simp only [At, New, Grow, From, No] at hk ⊢); omega) | (intro k hl hk; first | (have := hR1w k hk; omega) | (simp only [At] at hk; subst hk; have := hR2w _ hR2t; omega) | (simp only [At, New, Grow, From, No] at *; omega)))
                          replace hT := hT.upd hu11 (by first | exact (fun _ _ _ h => h) | (intro k hk hl hS; simp only [At] at hS; subst hS; first | exact hdis _ hk hR2t | (have := hR1l _ hk; omega)))
                          replace hQ := hQ.upd hu11 (by first | exact (fun _ _ _ h => h) | (intro k hk hl hS; first | exact hdis k hS hk | (simp only [At] at hS; subst hS; have := hR2l _ hk; omega)))
                          replace hBx := hBx.upd hu11 (by first | exact (fun h => h) | (exact fun h => by have := hR1l _ h; omega) | (simp only [At]; have := hR2l _ hR2t; omega) | (simp only [At]; omega))
                          have hsl := saveS_len hL
                          refine WL.cons (SO.call (Load_ok (hsv.rd (by omega))) rfl body_17 ⟨(ev_t rfl), trivial⟩ rfl rfl rfl rfl ?_)
                          rw [loadS_save hL]
                          rintro v w12 ⟨hu12, hl⟩
                          obtain ⟨_, t2, rfl, hT2⟩ := hl.resolve_right (fun h => h.1 rfl)
                          have hps := hu12.size
                          have hs12 := hu12.size
                          replace hU := hU.trans hu12 (by first | exact (fun _ _ h => h) | exact (fun _ _ h => h.elim) | (intro k hl hk; (try simp only [At, New, Grow, From, No] at hk ⊢); omega) | (intro k hl hk; first | (have := hR1w k hk; omega) | (simp only [At] at hk; subst hk; have := hR2w _ hR2t; omega) | (simp only [At, New, Grow, From, No] at *; omega)))
                          replace hT := hT.upd hu12 (by first | exact (fun _ _ _ h => h) | (intro k hk hl hS; simp only [At] at hS; subst hS; first | exact hdis _ hk hR2t | (have := hR1l _ hk; omega)))
                          replace hQ := hQ.upd hu12 (by first | exact (fun _ _ _ h => h) | (intro k hk hl hS; first | exact hdis k hS hk | (simp only [At] at hS; subst hS; have := hR2l _ hk; omega)))
                          replace hBx := hBx.upd hu12 (by first | exact (fun h => h) | (exact fun h => by have := hR1l _ h; omega) | (simp only [At]; have := hR2l _ hR2t; omega) | (simp only [At]; omega))
                          replace hR2l' : ∀ k, R2 k → k < w11.heap.size := fun k hk => by have := hR2l k hk; omega
                          replace hdis : ∀ k, New w11 w12 k → ¬ R2 k := fun k hk h => by have := hR2l' k h; simp only [New] at hk; omega
                          replace hR1w : ∀ k, New w11 w12 k → w.heap.size ≤ k := fun k hk => by simp only [New] at hk; omega
                          replace hR1l : ∀ k, New w11 w12 k → k < w12.heap.size := fun k hk => hk.2
                          replace hT := hT2
                          refine WL.val rfl rfl rfl rfl (r_move rfl (ev_t rfl)) ?_
                          refine WL.val rfl rfl rfl rfl (r_extract rfl (ev_t rfl) rfl) ?_
                          refine WL.val rfl rfl rfl rfl (r_extract rfl (ev_t rfl) rfl) ?_
                          refine WL.val rfl rfl rfl rfl (r_assign rfl (ev_t rfl)) ?_
                          refine WL.val rfl rfl rfl rfl (r_assign rfl (ev_t rfl)) ?_
                          refine WL.nil ?_
                          refine WX.keep [(0, _), (4, _), (5, _), (11, _), (12, _)] ⟨rfl, rfl, rfl, rfl, rfl, trivial⟩ ?_
                          refine WX.next ?_
                          refine WC.seq ?_
                          refine WC.seq ?_
                          refine WC.region ?_
                          refine WL.val rfl rfl rfl rfl (r_move rfl (ev_t rfl)) ?_
                          refine WL.val rfl rfl rfl rfl (r_neq rfl (ev_t rfl) ev_c) ?_
                          refine WL.nil ?_
                          refine WX.keep [(0, _), (4, _), (5, _), (11, _), (46, _)] ⟨rfl, rfl, rfl, rfl, rfl, trivial⟩ ?_
                          refine WX.next ?_
                          refine WC.cond rfl (ev_t rfl) (fun hc13 => ?_) (fun hc13 => ?_)
                          · try (exfalso; first | (simp at hc13; done) | (simp only [decide_eq_true_eq, decide_eq_false_iff_not, Bool.not_eq_true', Bool.not_eq_false', Bool.not_eq_true, Bool.not_eq_false] at hc13; omega) | omega)
                            all_goals
                             try simp only [decide_eq_true_eq, decide_eq_false_iff_not, Bool.not_eq_true', Bool.not_eq_false', Bool.not_eq_true, Bool.not_eq_false, Option.isNone_none, Option.isNone_some, Option.isSome_none, Option.isSome_some, ne_eq, Decidable.not_not] at hc13
                             refine WC.seq ?_
                             refine WC.region ?_
                             refine WL.val rfl rfl rfl rfl (r_assign rfl ev_c) ?_
                             refine WL.nil ?_
                             refine WX.keep [(2, _)] ⟨rfl, trivial⟩ ?_
                             refine WX.next ?_
                             refine WC.ret ?_
                             refine WX.thenRet ?_
                             refine WX.blockRet ?_
                             refine WX.thenRet ?_
                             refine WX.blockRet ?_
                             refine WX.thenRet ?_
                             refine WX.thenRet ?_
                             refine WX.blockRet ?_
                             refine WX.thenRet ?_
                             refine WX.retE1 rfl rfl ?_
                             fail
                          · try (exfalso; first | (simp at hc13; done) | (simp only [decide_eq_true_eq, decide_eq_false_iff_not, Bool.not_eq_true', Bool.not_eq_false', Bool.not_eq_true, Bool.not_eq_false] at hc13; omega) | omega)
                            all_goals
                             try simp only [decide_eq_true_eq, decide_eq_false_iff_not, Bool.not_eq_true', Bool.not_eq_false', Bool.not_eq_true, Bool.not_eq_false, Option.isNone_none, Option.isNone_some, Option.isSome_none, Option.isSome_some, ne_eq, Decidable.not_not] at hc13
                             refine WC.skip ?_
                             refine WX.next ?_
                             refine WC.region ?_
                             refine WL.val rfl rfl rfl rfl (r_move rfl (ev_t rfl)) ?_
                             refine WL.val rfl rfl rfl rfl (r_assign rfl (ev_t rfl)) ?_
                             refine WL.nil ?_
                             refine WX.keep [(0, _), (3, _), (4, _), (5, _)] ⟨rfl, rfl, rfl, rfl, trivial⟩ ?_
                             refine WX.blockNormal ?_
                             refine WX.meet [(0, _), (3, _), (4, _), (5, _)] ⟨rfl, rfl, rfl, rfl, trivial⟩ ?_
                             exact ⟨_, _, _, _, hU, by omega, hL, hT, hQ, hR1w, (fun k hk => by have := hR1l k hk; omega), hR2w, (fun k hk => by have := hR2l k hk; omega), hdis, hR2t, rfl⟩
                · clear hU hT hQ hR1w hR1l hR2w hR2l hdis hR2t hL
                  rintro E w9 ⟨L, t, R1, R2, hU, hw9, hL, hT, hQ, hR1w, hR1l, hR2w, hR2l, hdis, hR2t, rfl⟩
                  refine WC.seq ?_
                  have hQL : ∃ A c V, Blk w9 w2.heap.size #[.slice A V c] 42 ∧ V = L.length := by
                    obtain ⟨A, c, V, _, _, hb, _, _, hl, _⟩ := id hQ
                    exact ⟨A, c, V.length, hb, by rw [← hl, List.length_map]⟩
                  obtain ⟨Aq, cq, Vq, hbq, rfl⟩ := hQL
                  refine WC.draws' (fun u0_ u1_ => Upd No u0_ u1_) (fun j => [0, 1, 0, 0, 0, 0, 0, 0, 0, 0, 2, 2, 0, 2, 2, 0, 0].getD j 0) (.calm 0 (.calm 2 (.calm 3 (.calm 4 (.held 5 (.calm 6 (.one 1 (.calm 7 (.calm 8 (.calm 9 (.calm 12 (.one 10 (.two 11 13 (.one 13 (.one 14 (.calm 15 (.calm 16 (.done))))) (.two 11 14 (.one 14 (.calm 15 (.calm 16 (.done)))) (.one 11 (.calm 15 (.calm 16 (.done)))))))))))))))))) mixed (by kernel_rfl) (by repeat (first | with_reducible exact Deaf.body | with_reducible apply Deaf.then | with_reducible apply Deaf.block)) ?_
                  intro w13 hu13
                  have hz13 := congrArg Array.size hu13.2.2.2
                  replace hu13 := Upd.of_draw hu13
                  have hs13 := hu13.size
                  replace hU := hU.trans hu13 (by first | exact (fun _ _ h => h) | exact (fun _ _ h => h.elim) | (intro k hl hk; (try simp only [At, New, Grow, From, No] at hk ⊢); omega) | (intro k hl hk; first | (have := hR1w k hk; omega) | (simp only [At] at hk; subst hk; have := hR2w _ hR2t; omega) | (simp only [At, New, Grow, From, No] at *; omega)))
                  replace hT := hT.upd hu13 (by first | exact (fun _ _ _ h => h) | (intro k hk hl hS; simp only [At] at hS; subst hS; first | exact hdis _ hk hR2t | (have := hR1l _ hk; omega)))
                  replace hQ := hQ.upd hu13 (by first | exact (fun _ _ _ h => h) | (intro k hk hl hS; first | exact hdis k hS hk | (simp only [At] at hS; subst hS; have := hR2l _ hk; omega)))
                  replace hbq := hbq.upd hu13 (fun h => h)
                  have hS26 := Upd.refl No w13
                  refine WN.calm _ rfl rfl rfl rfl rfl (fun _ => r_move rfl (ev_t rfl)) ?_
                  refine WN.calm _ rfl rfl rfl rfl rfl (fun _ => r_move rfl (ev_t rfl)) ?_
                  refine WN.calm _ rfl rfl rfl rfl rfl (fun _ => r_nilCheck rfl (ev_t rfl)) ?_
                  first | refine WN.calm _ rfl rfl rfl rfl rfl (fun _ => r_field0 rfl (ev_t rfl) fld_42_0) ?_ | refine WN.calm _ rfl rfl rfl rfl rfl (fun _ => r_fieldAt rfl (ev_t rfl) fld_42_0) ?_
                  refine WN.held _ rfl rfl rfl rfl rfl hS26 (fun w' hS => r_load rfl (ev_t rfl) flat_40 (Blk.cell (hbq.upd hS (fun h => h)) rfl)) ?_
                  refine WN.calm _ rfl rfl rfl rfl rfl (fun _ => r_lenSlice (ts := #[]) rfl (ev_t rfl) elem_40) ?_
                  refine WN.step _ rfl (SO.call (Len_ok hT) rfl body_13 ⟨(ev_t rfl), trivial⟩ rfl rfl rfl rfl ?_)
                  rintro v w14 ⟨rfl, hu14⟩
                  have hs14 := hu14.size
                  replace hS26 := Upd.transA hS26 hu14
                  replace hU := hU.trans hu14 (by first | exact (fun _ _ h => h) | exact (fun _ _ h => h.elim) | (intro k hl hk; (try simp only [At, New, Grow, From, No] at hk ⊢); omega) | (intro k hl hk; first | (have := hR1w k hk; omega) | (simp only [At] at hk; subst hk; have := hR2w _ hR2t; omega) | (simp only [At, New, Grow, From, No] at *; omega)))
                  replace hT := hT.upd hu14 (by first | exact (fun _ _ _ h => h) | (intro k hk hl hS; simp only [At] at hS; subst hS; first | exact hdis _ hk hR2t | (have := hR1l _ hk; omega)))
                  replace hQ := hQ.upd hu14 (by first | exact (fun _ _ _ h => h) | (intro k hk hl hS; first | exact hdis k hS hk | (simp only [At] at hS; subst hS; have := hR2l _ hk; omega)))
                  replace hbq := hbq.upd hu14 (fun h => h)
                  refine ⟨hS26, ?_⟩
                  refine WN.calm _ rfl rfl rfl rfl rfl (fun _ => r_neq rfl (ev_t rfl) (ev_t rfl)) ?_
                  refine WN.calm _ rfl rfl rfl rfl rfl (fun _ => r_move rfl (ev_t rfl)) ?_
                  refine WN.cases 107 rfl (fun hb26_8 => ?_) (fun hb26_8 => ?_)
                  · try simp only [decide_eq_true_eq, decide_eq_false_iff_not, Bool.not_eq_true', Bool.not_eq_false', Bool.not_eq_true, Bool.not_eq_false, Option.isNone_none, Option.isNone_some, Option.isSome_none, Option.isSome_some, ne_eq, Decidable.not_not] at hb26_8
                    exfalso
                    first | (simp at hb26_8; done) | (exact hb26_8 rfl)
                  · try (exfalso; first | (simp at hb26_8; done) | (simp only [decide_eq_true_eq, decide_eq_false_iff_not, Bool.not_eq_true', Bool.not_eq_false', Bool.not_eq_true, Bool.not_eq_false] at hb26_8; omega) | omega)
                    all_goals
                     try simp only [decide_eq_true_eq, decide_eq_false_iff_not, Bool.not_eq_true', Bool.not_eq_false', Bool.not_eq_true, Bool.not_eq_false, Option.isNone_none, Option.isNone_some, Option.isSome_none, Option.isSome_some, ne_eq, Decidable.not_not] at hb26_8
                     refine WN.calm _ rfl rfl rfl rfl rfl (fun _ => r_move rfl (ev_t rfl)) ?_
                     refine WN.calm _ rfl rfl rfl rfl rfl (fun _ => r_move rfl (ev_t rfl)) ?_
                     refine WN.step _ rfl (SO.call (Save_ok hT hL) rfl body_14 ⟨(ev_t rfl), trivial⟩ rfl rfl rfl rfl ?_)
                     rintro v w15 ⟨ho, hu15⟩
                     obtain ⟨A10, c10, rfl, hc10⟩ := Own.form ho
                     have hsl := saveS_len hL
                     have hs15 := hu15.size
                     try replace hS26 := Upd.transA hS26 hu15
                     replace hU := hU.trans hu15 (by first | exact (fun _ _ h => h) | exact (fun _ _ h => h.elim) | (intro k hl hk; (try simp only [At, New, Grow, From, No] at hk ⊢); omega) | (intro k hl hk; first | (have := hR1w k hk; omega) | (simp only [At] at hk; subst hk; have := hR2w _ hR2t; omega) | (simp only [At, New, Grow, From, No] at *; omega)))
                     replace hT := hT.upd hu15 (by first | exact (fun _ _ _ h => h) | (intro k hk hl hS; simp only [At] at hS; subst hS; first | exact hdis _ hk hR2t | (have := hR1l _ hk; omega)))
                     replace hQ := hQ.upd hu15 (by first | exact (fun _ _ _ h => h) | (intro k hk hl hS; first | exact hdis k hS hk | (simp only [At] at hS; subst hS; have := hR2l _ hk; omega)))
                     replace hbq := hbq.upd hu15 (fun h => h)
                     refine ⟨trivial, ?_⟩
                     refine WN.fork _ _ rfl rfl ?_ ?_
                     · refine SO.val rfl rfl rfl rfl (r_toStr rfl (ev_t rfl) (ho.rd (by omega)) elem_23 int_5 str_9) ?_
                       refine ⟨trivial, ?_⟩
                       refine WN.step _ rfl (SO.call (refSave_ok hQ hL) rfl body_18 ⟨(ev_t rfl), trivial⟩ rfl rfl rfl rfl ?_)
                       rintro v w16 ⟨ho2, hu16⟩
                       obtain ⟨A13, c13, rfl, hc13⟩ := Own.form ho2
                       have hs16 := hu16.size
                       try replace hS26 := Upd.transA hS26 hu16
                       replace hU := hU.trans hu16 (by first | exact (fun _ _ h => h) | exact (fun _ _ h => h.elim) | (intro k hl hk; (try simp only [At, New, Grow, From, No] at hk ⊢); omega) | (intro k hl hk; first | (have := hR1w k hk; omega) | (simp only [At] at hk; subst hk; have := hR2w _ hR2t; omega) | (simp only [At, New, Grow, From, No] at *; omega)))
                       replace hT := hT.upd hu16 (by first | exact (fun _ _ _ h => h) | (intro k hk hl hS; simp only [At] at hS; subst hS; first | exact hdis _ hk hR2t | (have := hR1l _ hk; omega)))
                       replace hQ := hQ.upd hu16 (by first | exact (fun _ _ _ h => h) | (intro k hk hl hS; first | exact hdis k hS hk | (simp only [At] at hS; subst hS; have := hR2l _ hk; omega)))
                       replace hbq := hbq.upd hu16 (fun h => h)
                       replace ho := ho.updA hu16
                       refine ⟨trivial, ?_⟩
                       refine WN.step _ rfl (SO.val rfl rfl rfl rfl (r_toStr rfl (ev_t rfl) (ho2.rd (by omega)) elem_23 int_5 str_9) ?_)
                       refine ⟨trivial, ?_⟩
                       refine WN.calm _ rfl rfl rfl rfl rfl (fun _ => r_neqStrL rfl (ev_t rfl) (ev_t rfl)) ?_
                       refine WN.calm _ rfl rfl rfl rfl rfl (fun _ => r_pickF rfl (ev_t rfl) (ev_t rfl)) ?_
                       refine WN.done ?_
                       refine WX.keep [(0, _), (3, _), (4, _), (5, _), (115, _)] ⟨rfl, rfl, rfl, rfl, rfl, trivial⟩ ?_
                       refine WX.next ?_
                       refine WC.cond rfl (ev_t rfl) (fun hc26 => ?_) (fun hc26 => ?_)
                       · try simp only [decide_eq_true_eq, decide_eq_false_iff_not, Bool.not_eq_true', Bool.not_eq_false', Bool.not_eq_true, Bool.not_eq_false, Option.isNone_none, Option.isNone_some, Option.isSome_none, Option.isSome_some, ne_eq, Decidable.not_not] at hc26
                         exfalso
                         first | (simp at hc26; done) | (exact hc26 rfl)
                       · try (exfalso; first | (simp at hc26; done) | (simp only [decide_eq_true_eq, decide_eq_false_iff_not, Bool.not_eq_true', Bool.not_eq_false', Bool.not_eq_true, Bool.not_eq_false] at hc26; omega) | omega)
                         all_goals
                          try simp only [decide_eq_true_eq, decide_eq_false_iff_not, Bool.not_eq_true', Bool.not_eq_false', Bool.not_eq_true, Bool.not_eq_false, Option.isNone_none, Option.isNone_some, Option.isSome_none, Option.isSome_some, ne_eq, Decidable.not_not] at hc26
                          refine WC.skip ?_
                          refine WX.blockNormal ?_
                          refine WX.next ?_
                          refine WC.region ?_
                          refine WL.val rfl rfl rfl rfl (r_move rfl (ev_t rfl)) ?_
                          first | refine WL.val rfl rfl rfl rfl (r_addN rfl (ev_t rfl) ev_c (by simp only [inK]; omega)) ?_ | refine WL.val rfl rfl rfl rfl (r_add rfl (ev_t rfl) ev_c) ?_
                          refine WL.val rfl rfl rfl rfl (r_assign rfl (ev_t rfl)) ?_
                          refine WL.nil ?_
                          refine WX.keep [(0, _), (3, _), (4, _), (5, _)] ⟨rfl, rfl, rfl, rfl, trivial⟩ ?_
                          refine WX.meet [(0, _), (3, _), (4, _), (5, _)] ⟨rfl, rfl, rfl, rfl, trivial⟩ ?_
                          exact ⟨l.length - (i + 1), by omega, i + 1, L, t, R1, R2, by omega, rfl, hU, hL, hT, hQ, hR1w, (fun k hk => by have := hR1l k hk; omega), hR2w, (fun k hk => by have := hR2l k hk; omega), hdis, hR2t, rfl⟩
                     · refine SO.call (refSave_ok hQ hL) rfl body_18 ⟨(ev_t rfl), trivial⟩ rfl rfl rfl rfl ?_
                       rintro v w17 ⟨ho2, hu17⟩
                       obtain ⟨A13, c13, rfl, hc13⟩ := Own.form ho2
                       have hs17 := hu17.size
                       try replace hS26 := Upd.transA hS26 hu17
                       replace hU := hU.trans hu17 (by first | exact (fun _ _ h => h) | exact (fun _ _ h => h.elim) | (intro k hl hk; (try simp only [At, New, Grow, From, No] at hk ⊢); omega) | (intro k hl hk; first | (have := hR1w k hk; omega) | (simp only [At] at hk; subst hk; have := hR2w _ hR2t; omega) | (simp only [At, New, Grow, From, No] at *; omega)))
                       replace hT := hT.upd hu17 (by first | exact (fun _ _ _ h => h) | (intro k hk hl hS; simp only [At] at hS; subst hS; first | exact hdis _ hk hR2t | (have := hR1l _ hk; omega)))
                       replace hQ := hQ.upd hu17 (by first | exact (fun _ _ _ h => h) | (intro k hk hl hS; first | exact hdis k hS hk | (simp only [At] at hS; subst hS; have := hR2l _ hk; omega)))
                       replace hbq := hbq.upd hu17 (fun h => h)
                       replace ho := ho.updA hu17
                       refine ⟨trivial, ?_⟩
                       refine WN.fork _ _ rfl rfl ?_ ?_
                       · refine SO.val rfl rfl rfl rfl (r_toStr rfl (ev_t rfl) (ho.rd (by omega)) elem_23 int_5 str_9) ?_
                         refine ⟨trivial, ?_⟩
                         refine WN.step _ rfl (SO.val rfl rfl rfl rfl (r_toStr rfl (ev_t rfl) (ho2.rd (by omega)) elem_23 int_5 str_9) ?_)
                         refine ⟨trivial, ?_⟩
                         refine WN.calm _ rfl rfl rfl rfl rfl (fun _ => r_neqStrL rfl (ev_t rfl) (ev_t rfl)) ?_
                         refine WN.calm _ rfl rfl rfl rfl rfl (fun _ => r_pickF rfl (ev_t rfl) (ev_t rfl)) ?_
                         refine WN.done ?_
                         refine WX.keep [(0, _), (3, _), (4, _), (5, _), (115, _)] ⟨rfl, rfl, rfl, rfl, rfl, trivial⟩ ?_
                         refine WX.next ?_
                         refine WC.cond rfl (ev_t rfl) (fun hc26 => ?_) (fun hc26 => ?_)
                         · try simp only [decide_eq_true_eq, decide_eq_false_iff_not, Bool.not_eq_true', Bool.not_eq_false', Bool.not_eq_true, Bool.not_eq_false, Option.isNone_none, Option.isNone_some, Option.isSome_none, Option.isSome_some, ne_eq, Decidable.not_not] at hc26
                           exfalso
                           first | (simp at hc26; done) | (exact hc26 rfl)
                         · try (exfalso; first | (simp at hc26; done) | (simp only [decide_eq_true_eq, decide_eq_false_iff_not, Bool.not_eq_true', Bool.not_eq_false', Bool.not_eq_true, Bool.not_eq_false] at hc26; omega) | omega)
                           all_goals
                            try simp only [decide_eq_true_eq, decide_eq_false_iff_not, Bool.not_eq_true', Bool.not_eq_false', Bool.not_eq_true, Bool.not_eq_false, Option.isNone_none, Option.isNone_some, Option.isSome_none, Option.isSome_some, ne_eq, Decidable.not_not] at hc26
                            refine WC.skip ?_
                            refine WX.blockNormal ?_
                            refine WX.next ?_
                            refine WC.region ?_
                            refine WL.val rfl rfl rfl rfl (r_move rfl (ev_t rfl)) ?_
                            first | refine WL.val rfl rfl rfl rfl (r_addN rfl (ev_t rfl) ev_c (by simp only [inK]; omega)) ?_ | refine WL.val rfl rfl rfl rfl (r_add rfl (ev_t rfl) ev_c) ?_
                            refine WL.val rfl rfl rfl rfl (r_assign rfl (ev_t rfl)) ?_
                            refine WL.nil ?_
                            refine WX.keep [(0, _), (3, _), (4, _), (5, _)] ⟨rfl, rfl, rfl, rfl, trivial⟩ ?_
                            refine WX.meet [(0, _), (3, _), (4, _), (5, _)] ⟨rfl, rfl, rfl, rfl, trivial⟩ ?_
                            exact ⟨l.length - (i + 1), by omega, i + 1, L, t, R1, R2, by omega, rfl, hU, hL, hT, hQ, hR1w, (fun k hk => by have := hR1l k hk; omega), hR2w, (fun k hk => by have := hR2l k hk; omega), hdis, hR2t, rfl⟩
                       · refine SO.val rfl rfl rfl rfl (r_toStr rfl (ev_t rfl) (ho2.rd (by omega)) elem_23 int_5 str_9) ?_
                         refine ⟨trivial, ?_⟩
                         refine WN.step _ rfl (SO.val rfl rfl rfl rfl (r_toStr rfl (ev_t rfl) (ho.rd (by omega)) elem_23 int_5 str_9) ?_)
                         refine ⟨trivial, ?_⟩
                         refine WN.calm _ rfl rfl rfl rfl rfl (fun _ => r_neqStrL rfl (ev_t rfl) (ev_t rfl)) ?_
                         refine WN.calm _ rfl rfl rfl rfl rfl (fun _ => r_pickF rfl (ev_t rfl) (ev_t rfl)) ?_
                         refine WN.done ?_
                         refine WX.keep [(0, _), (3, _), (4, _), (5, _), (115, _)] ⟨rfl, rfl, rfl, rfl, rfl, trivial⟩ ?_
                         refine WX.next ?_
                         refine WC.cond rfl (ev_t rfl) (fun hc26 => ?_) (fun hc26 => ?_)
                         · try simp only [decide_eq_true_eq, decide_eq_false_iff_not, Bool.not_eq_true', Bool.not_eq_false', Bool.not_eq_true, Bool.not_eq_false, Option.isNone_none, Option.isNone_some, Option.isSome_none, Option.isSome_some, ne_eq, Decidable.not_not] at hc26
                           exfalso
                           first | (simp at hc26; done) | (exact hc26 rfl)
                         · try (exfalso; first | (simp at hc26; done) | (simp only [decide_eq_true_eq, decide_eq_false_iff_not, Bool.not_eq_true', Bool.not_eq_false', Bool.not_eq_true, Bool.not_eq_false] at hc26; omega) | omega)
                           all_goals
                            try simp only [decide_eq_true_eq, decide_eq_false_iff_not, Bool.not_eq_true', Bool.not_eq_false', Bool.not_eq_true, Bool.not_eq_false, Option.isNone_none, Option.isNone_some, Option.isSome_none, Option.isSome_some, ne_eq, Decidable.not_not] at hc26
                            refine WC.skip ?_
                            refine WX.blockNormal ?_
                            refine WX.next ?_
                            refine WC.region ?_
                            refine WL.val rfl rfl rfl rfl (r_move rfl (ev_t rfl)) ?_
                            first | refine WL.val rfl rfl rfl rfl (r_addN rfl (ev_t rfl) ev_c (by simp only [inK]; omega)) ?_ | refine WL.val rfl rfl rfl rfl (r_add rfl (ev_t rfl) ev_c) ?_
                            refine WL.val rfl rfl rfl rfl (r_assign rfl (ev_t rfl)) ?_
                            refine WL.nil ?_
                            refine WX.keep [(0, _), (3, _), (4, _), (5, _)] ⟨rfl, rfl, rfl, rfl, trivial⟩ ?_
                            refine WX.meet [(0, _), (3, _), (4, _), (5, _)] ⟨rfl, rfl, rfl, rfl, trivial⟩ ?_
                            exact ⟨l.length - (i + 1), by omega, i + 1, L, t, R1, R2, by omega, rfl, hU, hL, hT, hQ, hR1w, (fun k hk => by have := hR1l k hk; omega), hR2w, (fun k hk => by have := hR2l k hk; omega), hdis, hR2t, rfl⟩
          · try (exfalso; first | (simp at hc6; done) | (simp only [decide_eq_true_eq, decide_eq_false_iff_not, Bool.not_eq_true', Bool.not_eq_false', Bool.not_eq_true, Bool.not_eq_false] at hc6; omega) | omega)
            all_goals
             try simp only [decide_eq_true_eq, decide_eq_false_iff_not, Bool.not_eq_true', Bool.not_eq_false', Bool.not_eq_true, Bool.not_eq_false, Option.isNone_none, Option.isNone_some, Option.isSome_none, Option.isSome_some, ne_eq, Decidable.not_not] at hc6
             refine WC.exit ?_
             refine WX.thenExit ?_
             refine WX.thenExit ?_
             refine WX.blockHere ?_
             refine WX.next ?_
             refine WC.seq ?_
             refine WC.region ?_
             refine WL.val rfl rfl rfl rfl (r_assign rfl ev_c) ?_
             refine WL.nil ?_
             refine WX.keep [(2, _)] ⟨rfl, trivial⟩ ?_
             refine WX.next ?_
             refine WC.ret ?_
             refine WX.retE1 rfl rfl ?_
             exact ⟨rfl, hU⟩
       · try (exfalso; first | (simp at hb6_4; done) | (simp only [decide_eq_true_eq, decide_eq_false_iff_not, Bool.not_eq_true', Bool.not_eq_false', Bool.not_eq_true, Bool.not_eq_false] at hb6_4; omega) | omega)
         all_goals
          try simp only [decide_eq_true_eq, decide_eq_false_iff_not, Bool.not_eq_true', Bool.not_eq_false', Bool.not_eq_true, Bool.not_eq_false, Option.isNone_none, Option.isNone_some, Option.isSome_none, Option.isSome_some, ne_eq, Decidable.not_not] at hb6_4
          refine WL.skip rfl rfl rfl ?_
          refine WL.skip rfl rfl rfl ?_
          refine WL.val rfl rfl rfl rfl (r_pickF rfl (ev_t rfl) ev_c) ?_
          refine WL.nil ?_
          refine WX.keep [(0, _), (3, _), (4, _), (5, _), (25, _)] ⟨rfl, rfl, rfl, rfl, rfl, trivial⟩ ?_
          refine WX.next ?_
          refine WC.cond_false rfl (ev_t rfl) ?_
          refine WC.exit ?_
          refine WX.thenExit ?_
          refine WX.thenExit ?_
          refine WX.blockHere ?_
          refine WX.next ?_
          refine WC.seq ?_
          refine WC.region ?_
          refine WL.val rfl rfl rfl rfl (r_assign rfl ev_c) ?_
          refine WL.nil ?_
          refine WX.keep [(2, _)] ⟨rfl, trivial⟩ ?_
          refine WX.next ?_
          refine WC.ret ?_
          refine WX.retE1 rfl rfl ?_
          exact ⟨rfl, hU⟩
end Go.Proofs.Ytipabhbnljadfaa

/-
  law 17: calls, opened.
-/
namespace Go.Proofs.Ytipabhbnljadfaa
open Go Go.ChangeShapes Go.WideShapes Go.ChangeAt Go.RowKit Go.Deep
set_option linter.unusedSimpArgs false
set_option linter.unusedVariables false

theorem cellsActP : Try.prog.cellsOf 44 = 4 := by kernel_rfl
theorem bytesActP : 0 < Try.prog.bytesOf 44 := by decide +kernel
theorem rep_actP {W : World} {f : Nat} {cs : List Value} (h : Rep Try.prog W f 44 cs) :
    ∃ a : ActSe, cs = a.cells ∧ a.OK W := by
  obtain ⟨g, rfl, hl, hf⟩ := h.struct Try.underlying44
  obtain ⟨c0, c1, c2, c3, rfl⟩ := len4 (hl.trans cellsActP)
  obtain ⟨n0, e0, k0⟩ := Rep.int (Rep.field hf 0 (n := 1) rfl rfl rfl (by kernel_rfl)) Try.underlying5
  obtain ⟨n1, e1, k1⟩ := Rep.int (Rep.field hf 1 (n := 1) rfl rfl rfl (by kernel_rfl)) Try.underlying27
  obtain ⟨n2, e2, k2⟩ := Rep.int (Rep.field hf 2 (n := 1) rfl rfl rfl (by kernel_rfl)) Try.underlying27
  obtain ⟨v3, l3, e3, _, r3⟩ := Rep.bytes (Rep.field hf 3 (n := 1) rfl rfl rfl (by kernel_rfl)) Try.underlying23 Try.underlying5 (by kernel_rfl) (by kernel_rfl)
  have f0 : c0 = .int .u8 n0 := by injection e0
  have f1 : c1 = .int .u64 n1 := by injection e1
  have f2 : c2 = .int .u64 n2 := by injection e2
  have f3 : c3 = v3 := by injection e3
  subst f0 f1 f2 f3
  simp only [inK] at k0 k1 k2
  obtain ⟨m1, rfl⟩ : ∃ m : Nat, n1 = m := ⟨n1.toNat, by omega⟩
  obtain ⟨m2, rfl⟩ : ∃ m : Nat, n2 = m := ⟨n2.toNat, by omega⟩
  exact ⟨⟨n0, m1, m2, c3, l3⟩, rfl, ⟨k0, by show m1 < _; omega, by show m2 < _; omega, r3⟩⟩
theorem rep_actsP {W : World} {v : Value} (h : ∃ f, Rep Try.prog W f 38 [v]) : ∃ l : List ActSe, Rd W (fun k => k < W.heap.size) v l.length 4 (l.flatMap ActSe.cells) ∧
    ∀ a ∈ l, a.OK W := by
  obtain ⟨f, h⟩ := h
  obtain ⟨v', l, g, _, h1, _, h3, h4⟩ := h.list ActSe.cells (fun _ a => a.OK W) Try.underlying38 (by rw [cellsActP]; decide) bytesActP (fun g cs _ hr => rep_actP hr)
  simp only [List.cons.injEq, and_true] at h1
  subst h1
  rw [cellsActP] at h3
  exact ⟨l, h3, h4⟩
end Go.Proofs.Ytipabhbnljadfaa
