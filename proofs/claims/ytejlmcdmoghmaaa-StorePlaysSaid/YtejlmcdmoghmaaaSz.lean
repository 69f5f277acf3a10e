/-
  law 15: any snapshots, without falls.
-/
import Derived.Test.YtejlmcdmoghmaaaSy
namespace Go.Proofs.Ytejlmcdmoghmaaa
open Go
set_option linter.unusedSimpArgs false
set_option linter.unusedVariables false

theorem save_plays {D : DS} {T : SS} {x : Sn} (h : Quiet 20000 D T) (h0 : D.armed = 0) (hx : x.ok) (hl : x.data.length ≤ 5000) :
    ∃ D2 T2 ce, SS.save D 1 T x = (D2, T2, ce) ∧ Quiet 20000 D2 T2 ∧ D2.armed = 0 ∧ ((ce = 0 ∧ T.s.idx < x.idx) ∨ (ce = 16 ∧ x.idx ≤ T.s.idx)) ∧ (ce = 0 → T2.s = x) ∧ (ce ≠ 0 → T2 = T) := by
  have hlb := layB_len hx
  by_cases hi : x.idx ≤ T.s.idx
  · exact ⟨D, T, 16, save_stale hi, h, h0, .inr ⟨rfl, hi⟩, fun h => (by omega), fun _ => rfl⟩
  · obtain ⟨D2, T2, e, h1, h2, h3⟩ := save_calm h h0 hx (by omega) (by omega)
    exact ⟨D2, T2, 0, e, h2, h3, .inl ⟨rfl, by omega⟩, fun _ => h1, fun h => absurd rfl h⟩

set_option maxHeartbeats 4000000 in
theorem storePlays.walk {w : World} {sv : Value} {l : List ActS} (hs0 : Rd w (fun k => k < w.heap.size) sv l.length 7 (l.flatMap ActS.cells)) (hA : ∀ a ∈ l, a.OK w) :
    Ret Try.prog 10 #[sv] w fun v w' => v = .bool true ∧ Upd No w w' := by
  obtain ⟨Al, cl, rfl, hcl⟩ := hs0.slice_form
  have hlm := hs0.le
  refine enterRet (vs := [_]) (N := 93) Try.func10 rfl rfl rfl ?_
  have hU := Upd.refl No w
  refine WC.keep [(0, _)] ⟨rfl, trivial⟩ ?_
  refine WC.seq ?_
  refine WC.region ?_
  refine WL.val rfl rfl rfl rfl (r_assign rfl ev_c) ?_
  refine WL.nil ?_
  refine WX.keep [(0, _)] ⟨rfl, trivial⟩ ?_
  refine WX.next ?_
  refine WC.seq ?_
  refine WC.seq ?_
  refine WC.region ?_
  refine WL.cons (SO.call (awake15_ok _) rfl body_26 trivial rfl rfl rfl rfl ?_)
  rintro v w1 ⟨rfl, hu1⟩
  have hs1 := hu1.size
  replace hU := hU.trans hu1 (by first | exact (fun _ _ h => h) | exact (fun _ _ h => h.elim) | (intro k hl hk; (try simp only [At, New, Grow, From, No] at hk ⊢); omega) | (intro k hl hk; first | (have := hRw k hk; omega) | (rcases hk with hk | hk; (have := hRw k hk; omega); omega) | (simp only [At, New, Grow, From, No] at *; omega)))
  refine WL.val rfl rfl rfl rfl (r_not rfl (ev_t rfl)) ?_
  refine WL.nil ?_
  refine WX.keep [(0, _), (13, _)] ⟨rfl, rfl, trivial⟩ ?_
  refine WX.next ?_
  refine WC.cond rfl (ev_t rfl) (fun hc1 => ?_) (fun hc1 => ?_)
  · try (exfalso; first | (simp at hc1; done) | (simp only [decide_eq_true_eq, decide_eq_false_iff_not, Bool.not_eq_true', Bool.not_eq_false', Bool.not_eq_true, Bool.not_eq_false] at hc1; omega) | omega)
    all_goals
     try simp only [decide_eq_true_eq, decide_eq_false_iff_not, Bool.not_eq_true', Bool.not_eq_false', Bool.not_eq_true, Bool.not_eq_false, Option.isNone_none, Option.isNone_some, Option.isSome_none, Option.isSome_some, ne_eq, Decidable.not_not] at hc1
     refine WC.seq ?_
     refine WC.region ?_
     refine WL.val rfl rfl rfl rfl (r_assign rfl ev_c) ?_
     refine WL.nil ?_
     refine WX.keep [(2, _)] ⟨rfl, trivial⟩ ?_
     refine WX.next ?_
     refine WC.ret ?_
     refine WX.thenRet ?_
     refine WX.retE1 rfl rfl ?_
     exact ⟨rfl, hU⟩
  · try (exfalso; first | (simp at hc1; done) | (simp only [decide_eq_true_eq, decide_eq_false_iff_not, Bool.not_eq_true', Bool.not_eq_false', Bool.not_eq_true, Bool.not_eq_false] at hc1; omega) | omega)
    all_goals
     try simp only [decide_eq_true_eq, decide_eq_false_iff_not, Bool.not_eq_true', Bool.not_eq_false', Bool.not_eq_true, Bool.not_eq_false, Option.isNone_none, Option.isNone_some, Option.isSome_none, Option.isSome_some, ne_eq, Decidable.not_not] at hc1
     refine WC.skip ?_
     refine WX.next ?_
     refine WC.seq ?_
     refine WC.region ?_
     refine WL.cons (SO.call (open15_ok (most := 20000) (by omega)) rfl body_27 ⟨ev_c, trivial⟩ rfl rfl rfl rfl ?_)
     rintro v w2 ⟨pd, t, rfl, hs, hu2⟩
     have hs2 := hu2.size
     replace hU := hU.trans hu2 (by first | exact (fun _ _ h => h) | exact (fun _ _ h => h.elim) | (intro k hl hk; (try simp only [At, New, Grow, From, No] at hk ⊢); omega) | (intro k hl hk; first | (have := hRw k hk; omega) | (rcases hk with hk | hk; (have := hRw k hk; omega); omega) | (simp only [At, New, Grow, From, No] at *; omega)))
     have hRg : ¬ New w1 w2 w2.heap.size := fun h => by simp only [New] at h; omega
     have hRl : ∀ k, New w1 w2 k → k < w2.heap.size := fun k hk => hk.2
     refine WL.val rfl rfl rfl rfl (r_move rfl (ev_t rfl)) ?_
     refine WL.val rfl rfl rfl rfl (r_extract rfl (ev_t rfl) rfl) ?_
     refine WL.val rfl rfl rfl rfl (r_extract rfl (ev_t rfl) rfl) ?_
     refine WL.val rfl rfl rfl rfl (r_assign rfl (ev_t rfl)) ?_
     refine WL.val rfl rfl rfl rfl (r_assign rfl (ev_t rfl)) ?_
     refine WL.nil ?_
     refine WX.keep [(0, _), (3, _), (4, _)] ⟨rfl, rfl, rfl, trivial⟩ ?_
     refine WX.next ?_
     refine WC.seq ?_
     refine WC.region ?_
     refine WL.cons (SO.alloc rfl rfl rfl rfl (r_alloc rfl zero_50) ?_)
     intro w3 hu3 hB3 hz3
     have hs3 := hu3.size
     replace hU := hU.trans hu3 (by first | exact (fun _ _ h => h) | exact (fun _ _ h => h.elim) | (intro k hl hk; (try simp only [At, New, Grow, From, No] at hk ⊢); omega) | (intro k hl hk; first | (have := hRw k hk; omega) | (rcases hk with hk | hk; (have := hRw k hk; omega); omega) | (simp only [At, New, Grow, From, No] at *; omega)))
     replace hs := hs.upd hu3 (by first | exact (fun _ _ _ h => h) | (intro k hk hl hS; simp only [At] at hS; subst hS; first | exact hRg hk | (have := hRl _ hk; omega) | (rcases hk with hk | hk; exact hRg hk; omega) | (rcases hk with hk | hk; (have := hRl _ hk; omega); omega)))
     refine WL.nil ?_
     refine WX.keep [(0, _), (3, _), (4, _), (5, _)] ⟨rfl, rfl, rfl, rfl, trivial⟩ ?_
     replace hB3 : Blk w3 w2.heap.size #[.int .u64 ((ss0.s.idx : Nat) : Int), .int .u64 ((ss0.s.term : Nat) : Int), .slice none 0 0] 50 := hB3
     refine WX.next ?_
     refine WC.seq ?_
     refine WC.seq ?_
     refine WC.region ?_
     refine WL.val rfl rfl rfl rfl (r_assign rfl ev_c) ?_
     refine WL.nil ?_
     refine WX.keep [(0, _), (3, _), (4, _), (5, _), (6, _)] ⟨rfl, rfl, rfl, rfl, rfl, trivial⟩ ?_
     refine WX.next ?_
     refine WC.block ?_
     -- loop 1: live [0, 3, 4, 5, 6]
     refine WC.keep [(0, _), (3, _), (4, _), (5, _), (6, _)] ⟨rfl, rfl, rfl, rfl, rfl, trivial⟩ ?_
     refine WC.loop (fun q E w' => ∃ (i : Nat) (D : DS) (T : SS) (t n5 c5 : Nat) (A5 : Option Addr) (R FS : Nat → Prop), i ≤ l.length ∧ q = l.length - i ∧ Upd No w w' ∧ w2.heap.size < w'.heap.size ∧ Quiet 20000 D T ∧ D.armed = 0 ∧ St w' R pd t D T ∧ (∀ k, R k → w.heap.size ≤ k) ∧ (∀ k, R k → k < w'.heap.size) ∧ (¬ R w2.heap.size) ∧   Blk w' w2.heap.size #[.int .u64 (T.s.idx : Int), .int .u64 (T.s.term : Int), .slice A5 n5 c5] 50 ∧ Rd w' FS (.slice A5 n5 c5) n5 1 (T.s.data.map U8) ∧ (∀ k, FS k → (¬ R k) ∧ k ≠ w2.heap.size ∧ k < w'.heap.size) ∧   E = [(0, .slice Al l.length cl), (3, .pointer (some ⟨pd, 0, none⟩)), (4, .pointer (some ⟨t, 0, none⟩)), (5, .pointer (some ⟨w2.heap.size, 0, none⟩)), (6, .int .i64 (i : Int))]) (l.length) ?_ ?_
     · exact ⟨0, _, _, _, _, _, _, New w1 w2, fun _ => False, by omega, by omega, hU, by omega, Quiet.new, rfl, hs, (fun k hk => by simp only [New] at hk; omega), (fun k hk => by simp only [New] at hk; omega), hRg, hB3, Rd.nil _ _ _, fun k h => h.elim, rfl⟩
     · clear hU hs hB3 hRg hRl
       rintro q E w' ⟨i, D, T, t, n5, c5, A5, R, FS, hi, rfl, hU, hw2, hQ, harm, hs, hRw, hRl, hRg, hB5, hdr, hFS, rfl⟩
       refine WC.seq ?_
       refine WC.seq ?_
       refine WC.region ?_
       refine WL.val rfl rfl rfl rfl (r_move rfl (ev_t rfl)) ?_
       refine WL.val rfl rfl rfl rfl (r_move rfl (ev_t rfl)) ?_
       refine WL.val rfl rfl rfl rfl (r_lenSlice (ts := #[]) rfl (ev_t rfl) elem_54) ?_
       refine WL.val rfl rfl rfl rfl (r_lss rfl (ev_t rfl) (ev_t rfl)) ?_
       refine WL.val rfl rfl rfl rfl (r_move rfl (ev_t rfl)) ?_
       refine WL.cases 22 rfl (fun hb6_4 => ?_) (fun hb6_4 => ?_)
       · try (exfalso; first | (simp at hb6_4; done) | (simp only [decide_eq_true_eq, decide_eq_false_iff_not, Bool.not_eq_true', Bool.not_eq_false', Bool.not_eq_true, Bool.not_eq_false] at hb6_4; omega) | omega)
         all_goals
          try simp only [decide_eq_true_eq, decide_eq_false_iff_not, Bool.not_eq_true', Bool.not_eq_false', Bool.not_eq_true, Bool.not_eq_false, Option.isNone_none, Option.isNone_some, Option.isSome_none, Option.isSome_some, ne_eq, Decidable.not_not] at hb6_4
          refine WL.val rfl rfl rfl rfl (r_move rfl (ev_t rfl)) ?_
          refine WL.val rfl rfl rfl rfl (r_lss rfl (ev_t rfl) ev_c) ?_
          refine WL.val rfl rfl rfl rfl (r_pickT rfl (ev_t rfl) (ev_t rfl)) ?_
          refine WL.nil ?_
          refine WX.keep [(0, _), (3, _), (4, _), (5, _), (6, _), (25, _)] ⟨rfl, rfl, rfl, rfl, rfl, rfl, trivial⟩ ?_
          refine WX.next ?_
          refine WC.cond rfl (ev_t rfl) (fun hc6 => ?_) (fun hc6 => ?_)
          · try (exfalso; first | (simp at hc6; done) | (simp only [decide_eq_true_eq, decide_eq_false_iff_not, Bool.not_eq_true', Bool.not_eq_false', Bool.not_eq_true, Bool.not_eq_false] at hc6; omega) | omega)
            all_goals
             try simp only [decide_eq_true_eq, decide_eq_false_iff_not, Bool.not_eq_true', Bool.not_eq_false', Bool.not_eq_true, Bool.not_eq_false, Option.isNone_none, Option.isNone_some, Option.isSome_none, Option.isSome_some, ne_eq, Decidable.not_not] at hc6
             have hi' : i < l.length := by omega
             obtain ⟨bl, ol, rfl, _⟩ := hs0.open (by omega)
             have hg := List.getElem?_eq_getElem hi'
             have hAi := hA _ (List.getElem_mem hi')
             have hcell := flatMap_get ActS.cells_len hg
             generalize l[i] = a at *
             obtain ⟨Aa, ca, hsv, hca⟩ := hAi.data.slice_form
             obtain ⟨Ac, cc, hcv, hcc⟩ := hAi.cuts.slice_form
             have har := hAi.data
             have hac := hAi.cuts
             rw [hsv] at har
             rw [hcv] at hac
             have ecell : a.cells = [.int .u8 a.kind, .int .u64 (a.s.idx : Int), .int .u64 (a.s.term : Int), .slice Aa a.s.data.length ca, .int .u8 a.near, .int .u16 a.n, .slice Ac a.cuts.length cc] := by unfold ActS.cells; rw [hsv, hcv]
             rw [ecell] at hcell
             have hkd := hAi.kind
             refine WC.skip ?_
             refine WX.next ?_
             refine WC.seq ?_
             refine WC.block ?_
             refine WC.seq ?_
             refine WC.region ?_
             refine WL.val rfl rfl rfl rfl (r_move rfl (ev_t rfl)) ?_
             refine WL.val rfl rfl rfl rfl (r_move rfl (ev_t rfl)) ?_
             refine WL.val rfl rfl rfl rfl (r_indexAddr rfl (ev_t rfl) (ev_t rfl) elem_54 size_56 (by omega) (by omega)) ?_
             refine WL.val rfl rfl rfl rfl (r_loadAgg (vs := [_, _, _, _, _, _, _]) rfl (ev_t rfl) agg_56 size_56 (Rd.cellsL (us := [.int .u8 a.kind, .int .u64 (a.s.idx : Int), .int .u64 (a.s.term : Int), .slice Aa a.s.data.length ca, .int .u8 a.near, .int .u16 a.n, .slice Ac a.cuts.length cc]) (hs0.upd hU (fun _ _ _ h => h)) (i := i * 7) (by omega) hcell)) ?_
             refine WL.cons (SO.alloc rfl rfl rfl rfl (r_alloc rfl zero_56) ?_)
             intro w4 hu4 hB4 hz4
             have hs4 := hu4.size
             replace hU := hU.trans hu4 (by first | exact (fun _ _ h => h) | exact (fun _ _ h => h.elim) | (intro k hl hk; (try simp only [At, New, Grow, From, No] at hk ⊢); omega) | (intro k hl hk; first | (have := hRw k hk; omega) | (rcases hk with hk | hk; (have := hRw k hk; omega); omega) | (simp only [At, New, Grow, From, No] at *; omega)))
             replace hs := hs.upd hu4 (by first | exact (fun _ _ _ h => h) | (intro k hk hl hS; simp only [At] at hS; subst hS; first | exact hRg hk | (have := hRl _ hk; omega) | (rcases hk with hk | hk; exact hRg hk; omega) | (rcases hk with hk | hk; (have := hRl _ hk; omega); omega)))
             replace hB5 := hB5.upd hu4 (by first | exact (fun h => h) | exact hRg | (simp only [At]; omega))
             replace hdr := hdr.upd hu4 (by first | exact (fun _ _ _ h => h) | (intro k hk hl hS; have h4 := hFS k hk; first | exact h4.1 hS | (simp only [At] at hS; omega)))
             refine WL.cons (SO.storeAll (us := [_, _, _, _, _, _, _]) rfl (ev_t rfl) (ev_t rfl) size_56 hB4 rfl rfl rfl rfl rfl ?_)
             intro w5 hu5 hB4 hz5
             have hs5 := hu5.size
             replace hU := hU.trans hu5 (by first | exact (fun _ _ h => h) | exact (fun _ _ h => h.elim) | (intro k hl hk; (try simp only [At, New, Grow, From, No] at hk ⊢); omega) | (intro k hl hk; first | (have := hRw k hk; omega) | (rcases hk with hk | hk; (have := hRw k hk; omega); omega) | (simp only [At, New, Grow, From, No] at *; omega)))
             replace hs := hs.upd hu5 (by first | exact (fun _ _ _ h => h) | (intro k hk hl hS; simp only [At] at hS; subst hS; first | exact hRg hk | (have := hRl _ hk; omega) | (rcases hk with hk | hk; exact hRg hk; omega) | (rcases hk with hk | hk; (have := hRl _ hk; omega); omega)))
             replace hB5 := hB5.upd hu5 (by first | exact (fun h => h) | exact hRg | (simp only [At]; omega))
             replace hdr := hdr.upd hu5 (by first | exact (fun _ _ _ h => h) | (intro k hk hl hS; have h4 := hFS k hk; first | exact h4.1 hS | (simp only [At] at hS; omega)))
             refine WL.nil ?_
             refine WX.keep [(0, _), (3, _), (4, _), (5, _), (6, _), (7, _)] ⟨rfl, rfl, rfl, rfl, rfl, rfl, trivial⟩ ?_
             have hBa := hB4
             have hRa : ¬ R w'.heap.size := fun h => by have := hRl _ h; omega
             refine WX.next ?_
             refine WC.seq ?_
             refine WC.seq ?_
             refine WC.region ?_
             first | refine WL.val rfl rfl rfl rfl (r_field0 rfl (ev_t rfl) fld_56_1) ?_ | refine WL.val rfl rfl rfl rfl (r_fieldAt rfl (ev_t rfl) fld_56_1) ?_
             first | refine WL.val rfl rfl rfl rfl (r_field0 rfl (ev_t rfl) fld_50_2) ?_ | refine WL.val rfl rfl rfl rfl (r_fieldAt rfl (ev_t rfl) fld_50_2) ?_
             refine WL.val rfl rfl rfl rfl (r_load rfl (ev_t rfl) flat_22 (Blk.cell hBa rfl)) ?_
             refine WL.val rfl rfl rfl rfl (r_lenSlice (ts := #[]) rfl (ev_t rfl) elem_22) ?_
             refine WL.val rfl rfl rfl rfl (r_gtr rfl (ev_t rfl) ev_c) ?_
             refine WL.nil ?_
             refine WX.keep [(0, _), (3, _), (4, _), (5, _), (6, _), (7, _), (36, _)] ⟨rfl, rfl, rfl, rfl, rfl, rfl, rfl, trivial⟩ ?_
             refine WX.next ?_
             refine WC.cond rfl (ev_t rfl) (fun hc9 => ?_) (fun hc9 => ?_)
             · try (exfalso; first | (simp at hc9; done) | (simp only [decide_eq_true_eq, decide_eq_false_iff_not, Bool.not_eq_true', Bool.not_eq_false', Bool.not_eq_true, Bool.not_eq_false] at hc9; omega) | omega)
               all_goals
                try simp only [decide_eq_true_eq, decide_eq_false_iff_not, Bool.not_eq_true', Bool.not_eq_false', Bool.not_eq_true, Bool.not_eq_false, Option.isNone_none, Option.isNone_some, Option.isSome_none, Option.isSome_some, ne_eq, Decidable.not_not] at hc9
                refine WC.seq ?_
                refine WC.region ?_
                refine WL.val rfl rfl rfl rfl (r_assign rfl ev_c) ?_
                refine WL.nil ?_
                refine WX.keep [(2, _)] ⟨rfl, trivial⟩ ?_
                refine WX.next ?_
                refine WC.ret ?_
                refine WX.thenRet ?_
                refine WX.blockRet ?_
                refine WX.thenRet ?_
                refine WX.thenRet ?_
                refine WX.blockRet ?_
                refine WX.thenRet ?_
                refine WX.retE1 rfl rfl ?_
                exact ⟨rfl, hU⟩
             · try (exfalso; first | (simp at hc9; done) | (simp only [decide_eq_true_eq, decide_eq_false_iff_not, Bool.not_eq_true', Bool.not_eq_false', Bool.not_eq_true, Bool.not_eq_false] at hc9; omega) | omega)
               all_goals
                try simp only [decide_eq_true_eq, decide_eq_false_iff_not, Bool.not_eq_true', Bool.not_eq_false', Bool.not_eq_true, Bool.not_eq_false, Option.isNone_none, Option.isNone_some, Option.isSome_none, Option.isSome_some, ne_eq, Decidable.not_not] at hc9
                refine WC.skip ?_
                refine WX.next ?_
                refine WC.seq ?_
                refine WC.seq ?_
                refine WC.region ?_
                first | refine WL.val rfl rfl rfl rfl (r_field0 rfl (ev_t rfl) fld_56_0) ?_ | refine WL.val rfl rfl rfl rfl (r_fieldAt rfl (ev_t rfl) fld_56_0) ?_
                refine WL.val rfl rfl rfl rfl (r_load rfl (ev_t rfl) flat_5 (Blk.cell hBa rfl)) ?_
                first | refine WL.val rfl rfl rfl rfl (r_remN rfl (ev_t rfl) ev_c (by omega) (by omega)) ?_ | refine WL.val rfl rfl rfl rfl (r_rem rfl (ev_t rfl) ev_c (by omega)) ?_
                refine WL.val rfl rfl rfl rfl (r_lss rfl (ev_t rfl) ev_c) ?_
                refine WL.nil ?_
                refine WX.keep [(0, _), (3, _), (4, _), (5, _), (6, _), (7, _), (40, _)] ⟨rfl, rfl, rfl, rfl, rfl, rfl, rfl, trivial⟩ ?_
                refine WX.next ?_
                refine WC.cond rfl (ev_t rfl) (fun hc11 => ?_) (fun hc11 => ?_)
                · try (exfalso; first | (simp at hc11; done) | (simp only [decide_eq_true_eq, decide_eq_false_iff_not, Bool.not_eq_true', Bool.not_eq_false', Bool.not_eq_true, Bool.not_eq_false] at hc11; omega) | omega)
                  all_goals
                   try simp only [decide_eq_true_eq, decide_eq_false_iff_not, Bool.not_eq_true', Bool.not_eq_false', Bool.not_eq_true, Bool.not_eq_false, Option.isNone_none, Option.isNone_some, Option.isSome_none, Option.isSome_some, ne_eq, Decidable.not_not] at hc11
                   refine WC.seq ?_
                   obtain ⟨hxo, hxl⟩ := snapA_ok (last := T.s.idx) hAi (by omega)
                   have hTo := hQ.sok
                   refine WC.region ?_
                   refine WL.val rfl rfl rfl rfl (r_loadAgg (vs := [_, _, _, _, _, _, _]) rfl (ev_t rfl) agg_56 size_56 (Blk.cellsL hBa)) ?_
                   first | refine WL.val rfl rfl rfl rfl (r_field0 rfl (ev_t rfl) fld_50_0) ?_ | refine WL.val rfl rfl rfl rfl (r_fieldAt rfl (ev_t rfl) fld_50_0) ?_
                   refine WL.val rfl rfl rfl rfl (r_load rfl (ev_t rfl) flat_48 (Blk.cell hB5 rfl)) ?_
                   rw [← show a.cells.toArray = #[.int .u8 a.kind, .int .u64 (a.s.idx : Int), .int .u64 (a.s.term : Int), .slice Aa a.s.data.length ca, .int .u8 a.near, .int .u16 a.n, .slice Ac a.cuts.length cc] by rw [ecell]]
                   refine WL.cons (SO.call (asnap_ok hsv hcv hAi (by omega) hTo.1 (har.upd hU (fun _ _ _ h => h))) rfl body_31 ⟨(ev_t rfl), (ev_t rfl), trivial⟩ rfl rfl rfl rfl ?_)
                   rintro v w6 ⟨A2, c2, n2, H2, rfl, hd2, hH2, hu6⟩
                   generalize hxx : snapA a T.s.idx = x at *
                   obtain ⟨D2, T2, ce, e2, hQ2, harm2, hce, hce0, hce1⟩ := save_plays hQ harm hxo hxl
                   have hs6 := hu6.size
                   replace hU := hU.trans hu6 (by first | exact (fun _ _ h => h) | exact (fun _ _ h => h.elim) | (intro k hl hk; (try simp only [At, New, Grow, From, No] at hk ⊢); omega) | (intro k hl hk; first | (have := hRw k hk; omega) | (rcases hk with hk | hk; (have := hRw k hk; omega); omega) | (simp only [At, New, Grow, From, No] at *; omega)))
                   replace hs := hs.upd hu6 (by first | exact (fun _ _ _ h => h) | (intro k hk hl hS; simp only [At] at hS; subst hS; first | exact hRg hk | (have := hRl _ hk; omega) | (rcases hk with hk | hk; exact hRg hk; omega) | (rcases hk with hk | hk; (have := hRl _ hk; omega); omega)))
                   replace hB5 := hB5.upd hu6 (by first | exact (fun h => h) | exact hRg | (simp only [At]; omega))
                   replace hdr := hdr.upd hu6 (by first | exact (fun _ _ _ h => h) | (intro k hk hl hS; have h4 := hFS k hk; first | exact h4.1 hS | (simp only [At] at hS; omega)))
                   replace hBa := hBa.upd hu6 (by first | exact (fun h => h) | exact hRa | (simp only [At]; omega))
                   refine WL.cons (SO.alloc rfl rfl rfl rfl (r_alloc rfl zero_50) ?_)
                   intro w7 hu7 hB7 hz7
                   have hs7 := hu7.size
                   replace hU := hU.trans hu7 (by first | exact (fun _ _ h => h) | exact (fun _ _ h => h.elim) | (intro k hl hk; (try simp only [At, New, Grow, From, No] at hk ⊢); omega) | (intro k hl hk; first | (have := hRw k hk; omega) | (rcases hk with hk | hk; (have := hRw k hk; omega); omega) | (simp only [At, New, Grow, From, No] at *; omega)))
                   replace hs := hs.upd hu7 (by first | exact (fun _ _ _ h => h) | (intro k hk hl hS; simp only [At] at hS; subst hS; first | exact hRg hk | (have := hRl _ hk; omega) | (rcases hk with hk | hk; exact hRg hk; omega) | (rcases hk with hk | hk; (have := hRl _ hk; omega); omega)))
                   replace hB5 := hB5.upd hu7 (by first | exact (fun h => h) | exact hRg | (simp only [At]; omega))
                   replace hdr := hdr.upd hu7 (by first | exact (fun _ _ _ h => h) | (intro k hk hl hS; have h4 := hFS k hk; first | exact h4.1 hS | (simp only [At] at hS; omega)))
                   replace hBa := hBa.upd hu7 (by first | exact (fun h => h) | exact hRa | (simp only [At]; omega))
                   replace hd2 := hd2.upd hu7 (by first | exact (fun _ _ _ h => h) | (intro k hk hl hS; have h4 := hRl k hS; have h5 := hRw k hS; rcases hH2 k hk with h | h; (have : k < w.heap.size := h; omega); (simp only [New] at h; omega)) | (intro k hk hl hS; simp only [At] at hS; rcases hH2 k hk with h | h; (have : k < w.heap.size := h; omega); (simp only [New] at h; omega)))
                   refine WL.cons (SO.storeAll (us := [_, _, _]) rfl (ev_t rfl) (ev_t rfl) size_50 hB7 rfl rfl rfl rfl rfl ?_)
                   intro w8 hu8 hB7 hz8
                   have hs8 := hu8.size
                   replace hU := hU.trans hu8 (by first | exact (fun _ _ h => h) | exact (fun _ _ h => h.elim) | (intro k hl hk; (try simp only [At, New, Grow, From, No] at hk ⊢); omega) | (intro k hl hk; first | (have := hRw k hk; omega) | (rcases hk with hk | hk; (have := hRw k hk; omega); omega) | (simp only [At, New, Grow, From, No] at *; omega)))
                   replace hs := hs.upd hu8 (by first | exact (fun _ _ _ h => h) | (intro k hk hl hS; simp only [At] at hS; subst hS; first | exact hRg hk | (have := hRl _ hk; omega) | (rcases hk with hk | hk; exact hRg hk; omega) | (rcases hk with hk | hk; (have := hRl _ hk; omega); omega)))
                   replace hB5 := hB5.upd hu8 (by first | exact (fun h => h) | exact hRg | (simp only [At]; omega))
                   replace hdr := hdr.upd hu8 (by first | exact (fun _ _ _ h => h) | (intro k hk hl hS; have h4 := hFS k hk; first | exact h4.1 hS | (simp only [At] at hS; omega)))
                   replace hBa := hBa.upd hu8 (by first | exact (fun h => h) | exact hRa | (simp only [At]; omega))
                   replace hd2 := hd2.upd hu8 (by first | exact (fun _ _ _ h => h) | (intro k hk hl hS; have h4 := hRl k hS; have h5 := hRw k hS; rcases hH2 k hk with h | h; (have : k < w.heap.size := h; omega); (simp only [New] at h; omega)) | (intro k hk hl hS; simp only [At] at hS; rcases hH2 k hk with h | h; (have : k < w.heap.size := h; omega); (simp only [New] at h; omega)))
                   refine WL.nil ?_
                   refine WX.keep [(0, _), (3, _), (4, _), (5, _), (6, _), (8, _)] ⟨rfl, rfl, rfl, rfl, rfl, rfl, trivial⟩ ?_
                   have hBn := hB7
                   refine WX.next ?_
                   refine WC.seq ?_
                   refine WC.region ?_
                   refine WL.val rfl rfl rfl rfl (r_move rfl (ev_t rfl)) ?_
                   refine WL.val rfl rfl rfl rfl (r_loadAgg (vs := [_, _, _]) rfl (ev_t rfl) agg_50 size_50 (Blk.cellsL hBn)) ?_
                   refine WL.cons (SO.call (saveSt (x := x) hs hd2 (fun k hk hl hR => by have h4 := hRl k hR; have h5 := hRw k hR; rcases hH2 k hk with h | h; (have : k < w.heap.size := h; omega); (simp only [New] at h; omega)) hxo hQ.len hQ.off hQ.side hQ.armed) rfl body_28 ⟨(ev_t rfl), (ev_t rfl), trivial⟩ rfl rfl rfl rfl ?_)
                   clear hs
                   rintro v w9 ⟨rfl, hs, hu9⟩
                   rw [e2] at hs ⊢
                   dsimp only at hs
                   have hs9 := hu9.size
                   replace hU := hU.trans hu9 (by first | exact (fun _ _ h => h) | exact (fun _ _ h => h.elim) | (intro k hl hk; (try simp only [At, New, Grow, From, No] at hk ⊢); omega) | (intro k hl hk; first | (have := hRw k hk; omega) | (rcases hk with hk | hk; (have := hRw k hk; omega); omega) | (simp only [At, New, Grow, From, No] at *; omega)))
                   replace hB5 := hB5.upd hu9 (by first | exact (fun h => h) | exact hRg | (simp only [At]; omega))
                   replace hdr := hdr.upd hu9 (by first | exact (fun _ _ _ h => h) | (intro k hk hl hS; have h4 := hFS k hk; first | exact h4.1 hS | (simp only [At] at hS; omega)))
                   replace hBa := hBa.upd hu9 (by first | exact (fun h => h) | exact hRa | (simp only [At]; omega))
                   replace hd2 := hd2.upd hu9 (by first | exact (fun _ _ _ h => h) | (intro k hk hl hS; have h4 := hRl k hS; have h5 := hRw k hS; rcases hH2 k hk with h | h; (have : k < w.heap.size := h; omega); (simp only [New] at h; omega)) | (intro k hk hl hS; simp only [At] at hS; rcases hH2 k hk with h | h; (have : k < w.heap.size := h; omega); (simp only [New] at h; omega)))
                   replace hBn := hBn.upd hu9 (by first | exact (fun h => h) | (simp only [At]; omega) | (intro h; have := hRl _ h; omega))
                   have hH3 : ∀ k, H2 k → (¬ Grow R w8 w9 k) ∧ k ≠ w2.heap.size ∧ k < w9.heap.size := fun k hk => by
                     rcases hH2 k hk with h | h
                     · have h9 : k < w.heap.size := h
                       exact ⟨fun hR => hR.elim (fun h => by have := hRw k h; omega) (fun h => by omega), by omega, by omega⟩
                     · simp only [New] at h
                       exact ⟨fun hR => hR.elim (fun h => by have := hRl k h; omega) (fun h => by omega), by omega, by omega⟩
                   replace hRw : ∀ k, Grow R w8 w9 k → w.heap.size ≤ k := fun k hk => hk.elim (hRw k) (fun h => by omega)
                   replace hRl : ∀ k, Grow R w8 w9 k → k < w9.heap.size := fun k hk => hk.elim (fun h => by have := hRl k h; omega) (fun h => h.2)
                   replace hRg : ¬ Grow R w8 w9 w2.heap.size := fun h => h.elim hRg (fun h => by omega)
                   replace hRa : ¬ Grow R w8 w9 w'.heap.size := fun h => h.elim hRa (fun h => by omega)
                   replace hFS : ∀ k, FS k → (¬ Grow R w8 w9 k) ∧ k ≠ w2.heap.size ∧ k < w9.heap.size := fun k hk => by obtain ⟨a1, a2, a3⟩ := hFS k hk; exact ⟨fun h => h.elim a1 (fun h => by omega), a2, by omega⟩
                   replace hQ := hQ2
                   replace harm := harm2
                   refine WL.val rfl rfl rfl rfl (r_assign rfl (ev_t rfl)) ?_
                   refine WL.nil ?_
                   refine WX.keep [(0, _), (3, _), (4, _), (5, _), (6, _), (8, _), (9, _)] ⟨rfl, rfl, rfl, rfl, rfl, rfl, rfl, trivial⟩ ?_
                   refine WX.next ?_
                   refine WC.seq ?_
                   refine WC.seq ?_
                   refine WC.region ?_
                   refine WL.val rfl rfl rfl rfl (r_move rfl (ev_t rfl)) ?_
                   refine WL.val rfl rfl rfl rfl (r_eql rfl (ev_t rfl) ev_c) ?_
                   first | refine WL.val rfl rfl rfl rfl (r_field0 rfl (ev_t rfl) fld_50_0) ?_ | refine WL.val rfl rfl rfl rfl (r_fieldAt rfl (ev_t rfl) fld_50_0) ?_
                   refine WL.val rfl rfl rfl rfl (r_load rfl (ev_t rfl) flat_48 (Blk.cell hBn rfl)) ?_
                   first | refine WL.val rfl rfl rfl rfl (r_field0 rfl (ev_t rfl) fld_50_0) ?_ | refine WL.val rfl rfl rfl rfl (r_fieldAt rfl (ev_t rfl) fld_50_0) ?_
                   refine WL.val rfl rfl rfl rfl (r_load rfl (ev_t rfl) flat_48 (Blk.cell hB5 rfl)) ?_
                   refine WL.val rfl rfl rfl rfl (r_gtr rfl (ev_t rfl) (ev_t rfl)) ?_
                   refine WL.val rfl rfl rfl rfl (r_neqBool rfl (ev_t rfl) (ev_t rfl) bool_4) ?_
                   refine WL.val rfl rfl rfl rfl (r_move rfl (ev_t rfl)) ?_
                   refine WL.cases 56 rfl (fun hb14_8 => ?_) (fun hb14_8 => ?_)
                   · try simp only [decide_eq_true_eq, decide_eq_false_iff_not, Bool.not_eq_true', Bool.not_eq_false', Bool.not_eq_true, Bool.not_eq_false, Option.isNone_none, Option.isNone_some, Option.isSome_none, Option.isSome_some, ne_eq, Decidable.not_not] at hb14_8
                     exfalso
                     rw [beq_eq_false_iff_ne, ne_eq, decide_eq_decide] at hb14_8; omega
                   · try (exfalso; first | (simp at hb14_8; done) | (simp only [decide_eq_true_eq, decide_eq_false_iff_not, Bool.not_eq_true', Bool.not_eq_false', Bool.not_eq_true, Bool.not_eq_false] at hb14_8; omega) | omega)
                     all_goals
                      try simp only [decide_eq_true_eq, decide_eq_false_iff_not, Bool.not_eq_true', Bool.not_eq_false', Bool.not_eq_true, Bool.not_eq_false, Option.isNone_none, Option.isNone_some, Option.isSome_none, Option.isSome_some, ne_eq, Decidable.not_not] at hb14_8
                      refine WL.val rfl rfl rfl rfl (r_move rfl (ev_t rfl)) ?_
                      refine WL.val rfl rfl rfl rfl (r_neq rfl (ev_t rfl) ev_c) ?_
                      refine WL.val rfl rfl rfl rfl (r_move rfl (ev_t rfl)) ?_
                      refine WL.cases 59 rfl (fun hb14_11 => ?_) (fun hb14_11 => ?_)
                      · try (exfalso; first | (simp at hb14_11; done) | (simp only [decide_eq_true_eq, decide_eq_false_iff_not, Bool.not_eq_true', Bool.not_eq_false', Bool.not_eq_true, Bool.not_eq_false] at hb14_11; omega) | omega)
                        all_goals
                         try simp only [decide_eq_true_eq, decide_eq_false_iff_not, Bool.not_eq_true', Bool.not_eq_false', Bool.not_eq_true, Bool.not_eq_false, Option.isNone_none, Option.isNone_some, Option.isSome_none, Option.isSome_some, ne_eq, Decidable.not_not] at hb14_11
                         refine WL.val rfl rfl rfl rfl (r_move rfl (ev_t rfl)) ?_
                         refine WL.val rfl rfl rfl rfl (r_neq rfl (ev_t rfl) ev_c) ?_
                         refine WL.val rfl rfl rfl rfl (r_pickT rfl (ev_t rfl) (ev_t rfl)) ?_
                         refine WL.val rfl rfl rfl rfl (r_pickF rfl (ev_t rfl) (ev_t rfl)) ?_
                         refine WL.nil ?_
                         refine WX.keep [(0, _), (3, _), (4, _), (5, _), (6, _), (8, _), (9, _), (63, _)] ⟨rfl, rfl, rfl, rfl, rfl, rfl, rfl, rfl, trivial⟩ ?_
                         refine WX.next ?_
                         refine WC.cond rfl (ev_t rfl) (fun hc14 => ?_) (fun hc14 => ?_)
                         · try simp only [decide_eq_true_eq, decide_eq_false_iff_not, Bool.not_eq_true', Bool.not_eq_false', Bool.not_eq_true, Bool.not_eq_false, Option.isNone_none, Option.isNone_some, Option.isSome_none, Option.isSome_some, ne_eq, Decidable.not_not] at hc14
                           exfalso
                           omega
                         · try (exfalso; first | (simp at hc14; done) | (simp only [decide_eq_true_eq, decide_eq_false_iff_not, Bool.not_eq_true', Bool.not_eq_false', Bool.not_eq_true, Bool.not_eq_false] at hc14; omega) | omega)
                           all_goals
                            try simp only [decide_eq_true_eq, decide_eq_false_iff_not, Bool.not_eq_true', Bool.not_eq_false', Bool.not_eq_true, Bool.not_eq_false, Option.isNone_none, Option.isNone_some, Option.isSome_none, Option.isSome_some, ne_eq, Decidable.not_not] at hc14
                            refine WC.skip ?_
                            refine WX.next ?_
                            refine WC.seq ?_
                            refine WC.region ?_
                            refine WL.val rfl rfl rfl rfl (r_move rfl (ev_t rfl)) ?_
                            refine WL.val rfl rfl rfl rfl (r_eql rfl (ev_t rfl) ev_c) ?_
                            refine WL.nil ?_
                            refine WX.keep [(0, _), (3, _), (4, _), (5, _), (6, _), (8, _), (65, _)] ⟨rfl, rfl, rfl, rfl, rfl, rfl, rfl, trivial⟩ ?_
                            refine WX.next ?_
                            refine WC.cond rfl (ev_t rfl) (fun hc16 => ?_) (fun hc16 => ?_)
                            · try (exfalso; first | (simp at hc16; done) | (simp only [decide_eq_true_eq, decide_eq_false_iff_not, Bool.not_eq_true', Bool.not_eq_false', Bool.not_eq_true, Bool.not_eq_false] at hc16; omega) | omega)
                              all_goals
                               try simp only [decide_eq_true_eq, decide_eq_false_iff_not, Bool.not_eq_true', Bool.not_eq_false', Bool.not_eq_true, Bool.not_eq_false, Option.isNone_none, Option.isNone_some, Option.isSome_none, Option.isSome_some, ne_eq, Decidable.not_not] at hc16
                               have hT2 := hce0 (by omega)
                               refine WC.region ?_
                               refine WL.val rfl rfl rfl rfl (r_loadAgg (vs := [_, _, _]) rfl (ev_t rfl) agg_50 size_50 (Blk.cellsL hBn)) ?_
                               refine WL.cons (SO.storeAll (us := [_, _, _]) rfl (ev_t rfl) (ev_t rfl) size_50 hB5 rfl rfl rfl rfl rfl ?_)
                               intro w10 hu10 hB5 hz10
                               have hs10 := hu10.size
                               replace hU := hU.trans hu10 (by first | exact (fun _ _ h => h) | exact (fun _ _ h => h.elim) | (intro k hl hk; (try simp only [At, New, Grow, From, No] at hk ⊢); omega) | (intro k hl hk; first | (have := hRw k hk; omega) | (rcases hk with hk | hk; (have := hRw k hk; omega); omega) | (simp only [At, New, Grow, From, No] at *; omega)))
                               replace hs := hs.upd hu10 (by first | exact (fun _ _ _ h => h) | (intro k hk hl hS; simp only [At] at hS; subst hS; first | exact hRg hk | (have := hRl _ hk; omega) | (rcases hk with hk | hk; exact hRg hk; omega) | (rcases hk with hk | hk; (have := hRl _ hk; omega); omega)))
                               replace hdr := hdr.upd hu10 (by first | exact (fun _ _ _ h => h) | (intro k hk hl hS; have h4 := hFS k hk; first | exact h4.1 hS | (simp only [At] at hS; omega)))
                               replace hBa := hBa.upd hu10 (by first | exact (fun h => h) | exact hRa | (simp only [At]; omega))
                               replace hd2 := hd2.upd hu10 (by first | exact (fun _ _ _ h => h) | (intro k hk hl hS; have h4 := hRl k hS; have h5 := hRw k hS; rcases hH2 k hk with h | h; (have : k < w.heap.size := h; omega); (simp only [New] at h; omega)) | (intro k hk hl hS; simp only [At] at hS; rcases hH2 k hk with h | h; (have : k < w.heap.size := h; omega); (simp only [New] at h; omega)))
                               replace hBn := hBn.upd hu10 (by first | exact (fun h => h) | (simp only [At]; omega) | (intro h; have := hRl _ h; omega))
                               refine WL.nil ?_
                               refine WX.keep [(0, _), (3, _), (4, _), (5, _), (6, _)] ⟨rfl, rfl, rfl, rfl, rfl, trivial⟩ ?_
                               replace hB5 : Blk w10 w2.heap.size #[.int .u64 (T2.s.idx : Int), .int .u64 (T2.s.term : Int), .slice A2 n2 c2] 50 := by rw [hT2]; exact hB5
                               replace hdr : Rd w10 H2 (.slice A2 n2 c2) n2 1 (T2.s.data.map U8) := by rw [hT2]; exact hd2
                               replace hFS := hH3
                               refine WX.next ?_
                               refine WC.seq ?_
                               refine WC.draws' (fun u0_ u1_ => Upd No u0_ u1_) (fun j => [0, 1, 0, 2, 0].getD j 0) (.calm 0 (.held 2 (.one 1 (.one 3 (.calm 4 (.done)))))) mixed (by kernel_rfl) (by repeat (first | with_reducible exact Deaf.body | with_reducible apply Deaf.then | with_reducible apply Deaf.block)) ?_
                               intro w11 hu11
                               have hz11 := congrArg Array.size hu11.2.2.2
                               replace hu11 := Upd.of_draw hu11
                               have hs11 := hu11.size
                               replace hU := hU.trans hu11 (by first | exact (fun _ _ h => h) | exact (fun _ _ h => h.elim) | (intro k hl hk; (try simp only [At, New, Grow, From, No] at hk ⊢); omega) | (intro k hl hk; first | (have := hRw k hk; omega) | (rcases hk with hk | hk; (have := hRw k hk; omega); omega) | (simp only [At, New, Grow, From, No] at *; omega)))
                               replace hs := hs.upd hu11 (by first | exact (fun _ _ _ h => h) | (intro k hk hl hS; simp only [At] at hS; subst hS; first | exact hRg hk | (have := hRl _ hk; omega) | (rcases hk with hk | hk; exact hRg hk; omega) | (rcases hk with hk | hk; (have := hRl _ hk; omega); omega)))
                               replace hB5 := hB5.upd hu11 (by first | exact (fun h => h) | exact hRg | (simp only [At]; omega))
                               replace hdr := hdr.upd hu11 (by first | exact (fun _ _ _ h => h) | (intro k hk hl hS; have h4 := hFS k hk; first | exact h4.1 hS | (simp only [At] at hS; omega)))
                               replace hBa := hBa.upd hu11 (by first | exact (fun h => h) | exact hRa | (simp only [At]; omega))
                               replace hd2 := hd2.upd hu11 (by first | exact (fun _ _ _ h => h) | (intro k hk hl hS; have h4 := hRl k hS; have h5 := hRw k hS; rcases hH2 k hk with h | h; (have : k < w.heap.size := h; omega); (simp only [New] at h; omega)) | (intro k hk hl hS; simp only [At] at hS; rcases hH2 k hk with h | h; (have : k < w.heap.size := h; omega); (simp only [New] at h; omega)))
                               replace hBn := hBn.upd hu11 (by first | exact (fun h => h) | (simp only [At]; omega) | (intro h; have := hRl _ h; omega))
                               have hS24 := Upd.refl No w11
                               refine WN.calm _ rfl rfl rfl rfl rfl (fun _ => r_move rfl (ev_t rfl)) ?_
                               refine WN.held _ rfl rfl rfl rfl rfl hS24 (fun w' hS => r_loadAgg (vs := [_, _, _]) rfl (ev_t rfl) agg_50 size_50 (Blk.cellsL (hB5.upd hS (fun h => h)))) ?_
                               refine WN.step _ rfl (SO.call (snapSt hs) rfl body_30 ⟨(ev_t rfl), trivial⟩ rfl rfl rfl rfl ?_)
                               rintro v w12 ⟨As, cs, rfl, hsn, hu12⟩
                               have hs12 := hu12.size
                               replace hS24 := Upd.transA hS24 hu12
                               replace hU := hU.trans hu12 (by first | exact (fun _ _ h => h) | exact (fun _ _ h => h.elim) | (intro k hl hk; (try simp only [At, New, Grow, From, No] at hk ⊢); omega) | (intro k hl hk; first | (have := hRw k hk; omega) | (rcases hk with hk | hk; (have := hRw k hk; omega); omega) | (simp only [At, New, Grow, From, No] at *; omega)))
                               replace hs := hs.upd hu12 (by first | exact (fun _ _ _ h => h) | (intro k hk hl hS; simp only [At] at hS; subst hS; first | exact hRg hk | (have := hRl _ hk; omega) | (rcases hk with hk | hk; exact hRg hk; omega) | (rcases hk with hk | hk; (have := hRl _ hk; omega); omega)))
                               replace hB5 := hB5.upd hu12 (by first | exact (fun h => h) | exact hRg | (simp only [At]; omega))
                               replace hdr := hdr.upd hu12 (by first | exact (fun _ _ _ h => h) | (intro k hk hl hS; have h4 := hFS k hk; first | exact h4.1 hS | (simp only [At] at hS; omega)))
                               replace hBa := hBa.upd hu12 (by first | exact (fun h => h) | exact hRa | (simp only [At]; omega))
                               replace hd2 := hd2.upd hu12 (by first | exact (fun _ _ _ h => h) | (intro k hk hl hS; have h4 := hRl k hS; have h5 := hRw k hS; rcases hH2 k hk with h | h; (have : k < w.heap.size := h; omega); (simp only [New] at h; omega)) | (intro k hk hl hS; simp only [At] at hS; rcases hH2 k hk with h | h; (have : k < w.heap.size := h; omega); (simp only [New] at h; omega)))
                               replace hBn := hBn.upd hu12 (by first | exact (fun h => h) | (simp only [At]; omega) | (intro h; have := hRl _ h; omega))
                               refine ⟨hS24, ?_⟩
                               refine WN.step _ rfl (SO.call (same_ok (hsn.rd (by have h1 := hdr.le; have h2 := hdr.lenB; omega)) hdr) rfl body_29 ⟨(ev_t rfl), (ev_t rfl), trivial⟩ rfl rfl rfl rfl ?_)
                               rintro v w13 ⟨rfl, hu13⟩
                               have hs13 := hu13.size
                               try replace hS24 := Upd.transA hS24 hu13
                               replace hU := hU.trans hu13 (by first | exact (fun _ _ h => h) | exact (fun _ _ h => h.elim) | (intro k hl hk; (try simp only [At, New, Grow, From, No] at hk ⊢); omega) | (intro k hl hk; first | (have := hRw k hk; omega) | (rcases hk with hk | hk; (have := hRw k hk; omega); omega) | (simp only [At, New, Grow, From, No] at *; omega)))
                               replace hs := hs.upd hu13 (by first | exact (fun _ _ _ h => h) | (intro k hk hl hS; simp only [At] at hS; subst hS; first | exact hRg hk | (have := hRl _ hk; omega) | (rcases hk with hk | hk; exact hRg hk; omega) | (rcases hk with hk | hk; (have := hRl _ hk; omega); omega)))
                               replace hB5 := hB5.upd hu13 (by first | exact (fun h => h) | exact hRg | (simp only [At]; omega))
                               replace hdr := hdr.upd hu13 (by first | exact (fun _ _ _ h => h) | (intro k hk hl hS; have h4 := hFS k hk; first | exact h4.1 hS | (simp only [At] at hS; omega)))
                               replace hBa := hBa.upd hu13 (by first | exact (fun h => h) | exact hRa | (simp only [At]; omega))
                               replace hd2 := hd2.upd hu13 (by first | exact (fun _ _ _ h => h) | (intro k hk hl hS; have h4 := hRl k hS; have h5 := hRw k hS; rcases hH2 k hk with h | h; (have : k < w.heap.size := h; omega); (simp only [New] at h; omega)) | (intro k hk hl hS; simp only [At] at hS; rcases hH2 k hk with h | h; (have : k < w.heap.size := h; omega); (simp only [New] at h; omega)))
                               replace hBn := hBn.upd hu13 (by first | exact (fun h => h) | (simp only [At]; omega) | (intro h; have := hRl _ h; omega))
                               replace hsn := hsn.upd hu13 (fun _ _ _ h => h)
                               refine ⟨trivial, ?_⟩
                               refine WN.calm _ rfl rfl rfl rfl rfl (fun _ => r_not rfl (ev_t rfl)) ?_
                               refine WN.done ?_
                               refine WX.keep [(0, _), (3, _), (4, _), (5, _), (6, _), (90, _)] ⟨rfl, rfl, rfl, rfl, rfl, rfl, trivial⟩ ?_
                               refine WX.next ?_
                               refine WC.cond rfl (ev_t rfl) (fun hc24 => ?_) (fun hc24 => ?_)
                               · try simp only [decide_eq_true_eq, decide_eq_false_iff_not, Bool.not_eq_true', Bool.not_eq_false', Bool.not_eq_true, Bool.not_eq_false, Option.isNone_none, Option.isNone_some, Option.isSome_none, Option.isSome_some, ne_eq, Decidable.not_not] at hc24
                                 exfalso
                                 simp at hc24
                               · try (exfalso; first | (simp at hc24; done) | (simp only [decide_eq_true_eq, decide_eq_false_iff_not, Bool.not_eq_true', Bool.not_eq_false', Bool.not_eq_true, Bool.not_eq_false] at hc24; omega) | omega)
                                 all_goals
                                  try simp only [decide_eq_true_eq, decide_eq_false_iff_not, Bool.not_eq_true', Bool.not_eq_false', Bool.not_eq_true, Bool.not_eq_false, Option.isNone_none, Option.isNone_some, Option.isSome_none, Option.isSome_some, ne_eq, Decidable.not_not] at hc24
                                  refine WC.skip ?_
                                  refine WX.blockNormal ?_
                                  refine WX.next ?_
                                  refine WC.region ?_
                                  refine WL.val rfl rfl rfl rfl (r_move rfl (ev_t rfl)) ?_
                                  first | refine WL.val rfl rfl rfl rfl (r_addN rfl (ev_t rfl) ev_c (by simp only [inK]; omega)) ?_ | refine WL.val rfl rfl rfl rfl (r_add rfl (ev_t rfl) ev_c) ?_
                                  refine WL.val rfl rfl rfl rfl (r_assign rfl (ev_t rfl)) ?_
                                  refine WL.nil ?_
                                  refine WX.keep [(0, _), (3, _), (4, _), (5, _), (6, _)] ⟨rfl, rfl, rfl, rfl, rfl, trivial⟩ ?_
                                  refine WX.meet [(0, _), (3, _), (4, _), (5, _), (6, _)] ⟨rfl, rfl, rfl, rfl, rfl, trivial⟩ ?_
                                  exact ⟨l.length - (i + 1), by omega, i + 1, _, _, _, _, _, _, _, _, by omega, rfl, hU, by omega, hQ, harm, hs, hRw, (fun k hk => by have := hRl k hk; omega), hRg, hB5, hdr, (fun k hk => by obtain ⟨a1, a2, a3⟩ := hFS k hk; exact ⟨a1, a2, by omega⟩), rfl⟩
                            · try (exfalso; first | (simp at hc16; done) | (simp only [decide_eq_true_eq, decide_eq_false_iff_not, Bool.not_eq_true', Bool.not_eq_false', Bool.not_eq_true, Bool.not_eq_false] at hc16; omega) | omega)
                              all_goals
                               try simp only [decide_eq_true_eq, decide_eq_false_iff_not, Bool.not_eq_true', Bool.not_eq_false', Bool.not_eq_true, Bool.not_eq_false, Option.isNone_none, Option.isNone_some, Option.isSome_none, Option.isSome_some, ne_eq, Decidable.not_not] at hc16
                               have hT2 := hce1 (by omega)
                               subst hT2
                               refine WC.skip ?_
                               refine WX.next ?_
                               refine WC.seq ?_
                               refine WC.draws' (fun u0_ u1_ => Upd No u0_ u1_) (fun j => [0, 1, 0, 2, 0].getD j 0) (.calm 0 (.held 2 (.one 1 (.one 3 (.calm 4 (.done)))))) mixed (by kernel_rfl) (by repeat (first | with_reducible exact Deaf.body | with_reducible apply Deaf.then | with_reducible apply Deaf.block)) ?_
                               intro w14 hu14
                               have hz14 := congrArg Array.size hu14.2.2.2
                               replace hu14 := Upd.of_draw hu14
                               have hs14 := hu14.size
                               replace hU := hU.trans hu14 (by first | exact (fun _ _ h => h) | exact (fun _ _ h => h.elim) | (intro k hl hk; (try simp only [At, New, Grow, From, No] at hk ⊢); omega) | (intro k hl hk; first | (have := hRw k hk; omega) | (rcases hk with hk | hk; (have := hRw k hk; omega); omega) | (simp only [At, New, Grow, From, No] at *; omega)))
                               replace hs := hs.upd hu14 (by first | exact (fun _ _ _ h => h) | (intro k hk hl hS; simp only [At] at hS; subst hS; first | exact hRg hk | (have := hRl _ hk; omega) | (rcases hk with hk | hk; exact hRg hk; omega) | (rcases hk with hk | hk; (have := hRl _ hk; omega); omega)))
                               replace hB5 := hB5.upd hu14 (by first | exact (fun h => h) | exact hRg | (simp only [At]; omega))
                               replace hdr := hdr.upd hu14 (by first | exact (fun _ _ _ h => h) | (intro k hk hl hS; have h4 := hFS k hk; first | exact h4.1 hS | (simp only [At] at hS; omega)))
                               replace hBa := hBa.upd hu14 (by first | exact (fun h => h) | exact hRa | (simp only [At]; omega))
                               replace hd2 := hd2.upd hu14 (by first | exact (fun _ _ _ h => h) | (intro k hk hl hS; have h4 := hRl k hS; have h5 := hRw k hS; rcases hH2 k hk with h | h; (have : k < w.heap.size := h; omega); (simp only [New] at h; omega)) | (intro k hk hl hS; simp only [At] at hS; rcases hH2 k hk with h | h; (have : k < w.heap.size := h; omega); (simp only [New] at h; omega)))
                               replace hBn := hBn.upd hu14 (by first | exact (fun h => h) | (simp only [At]; omega) | (intro h; have := hRl _ h; omega))
                               have hS24 := Upd.refl No w14
                               refine WN.calm _ rfl rfl rfl rfl rfl (fun _ => r_move rfl (ev_t rfl)) ?_
                               refine WN.held _ rfl rfl rfl rfl rfl hS24 (fun w' hS => r_loadAgg (vs := [_, _, _]) rfl (ev_t rfl) agg_50 size_50 (Blk.cellsL (hB5.upd hS (fun h => h)))) ?_
                               refine WN.step _ rfl (SO.call (snapSt hs) rfl body_30 ⟨(ev_t rfl), trivial⟩ rfl rfl rfl rfl ?_)
                               rintro v w15 ⟨As, cs, rfl, hsn, hu15⟩
                               have hs15 := hu15.size
                               replace hS24 := Upd.transA hS24 hu15
                               replace hU := hU.trans hu15 (by first | exact (fun _ _ h => h) | exact (fun _ _ h => h.elim) | (intro k hl hk; (try simp only [At, New, Grow, From, No] at hk ⊢); omega) | (intro k hl hk; first | (have := hRw k hk; omega) | (rcases hk with hk | hk; (have := hRw k hk; omega); omega) | (simp only [At, New, Grow, From, No] at *; omega)))
                               replace hs := hs.upd hu15 (by first | exact (fun _ _ _ h => h) | (intro k hk hl hS; simp only [At] at hS; subst hS; first | exact hRg hk | (have := hRl _ hk; omega) | (rcases hk with hk | hk; exact hRg hk; omega) | (rcases hk with hk | hk; (have := hRl _ hk; omega); omega)))
                               replace hB5 := hB5.upd hu15 (by first | exact (fun h => h) | exact hRg | (simp only [At]; omega))
                               replace hdr := hdr.upd hu15 (by first | exact (fun _ _ _ h => h) | (intro k hk hl hS; have h4 := hFS k hk; first | exact h4.1 hS | (simp only [At] at hS; omega)))
                               replace hBa := hBa.upd hu15 (by first | exact (fun h => h) | exact hRa | (simp only [At]; omega))
                               replace hd2 := hd2.upd hu15 (by first | exact (fun _ _ _ h => h) | (intro k hk hl hS; have h4 := hRl k hS; have h5 := hRw k hS; rcases hH2 k hk with h | h; (have : k < w.heap.size := h; omega); (simp only [New] at h; omega)) | (intro k hk hl hS; simp only [At] at hS; rcases hH2 k hk with h | h; (have : k < w.heap.size := h; omega); (simp only [New] at h; omega)))
                               replace hBn := hBn.upd hu15 (by first | exact (fun h => h) | (simp only [At]; omega) | (intro h; have := hRl _ h; omega))
                               refine ⟨hS24, ?_⟩
                               refine WN.step _ rfl (SO.call (same_ok (hsn.rd (by have h1 := hdr.le; have h2 := hdr.lenB; omega)) hdr) rfl body_29 ⟨(ev_t rfl), (ev_t rfl), trivial⟩ rfl rfl rfl rfl ?_)
                               rintro v w16 ⟨rfl, hu16⟩
                               have hs16 := hu16.size
                               try replace hS24 := Upd.transA hS24 hu16
                               replace hU := hU.trans hu16 (by first | exact (fun _ _ h => h) | exact (fun _ _ h => h.elim) | (intro k hl hk; (try simp only [At, New, Grow, From, No] at hk ⊢); omega) | (intro k hl hk; first | (have := hRw k hk; omega) | (rcases hk with hk | hk; (have := hRw k hk; omega); omega) | (simp only [At, New, Grow, From, No] at *; omega)))
                               replace hs := hs.upd hu16 (by first | exact (fun _ _ _ h => h) | (intro k hk hl hS; simp only [At] at hS; subst hS; first | exact hRg hk | (have := hRl _ hk; omega) | (rcases hk with hk | hk; exact hRg hk; omega) | (rcases hk with hk | hk; (have := hRl _ hk; omega); omega)))
                               replace hB5 := hB5.upd hu16 (by first | exact (fun h => h) | exact hRg | (simp only [At]; omega))
                               replace hdr := hdr.upd hu16 (by first | exact (fun _ _ _ h => h) | (intro k hk hl hS; have h4 := hFS k hk; first | exact h4.1 hS | (simp only [At] at hS; omega)))
                               replace hBa := hBa.upd hu16 (by first | exact (fun h => h) | exact hRa | (simp only [At]; omega))
                               replace hd2 := hd2.upd hu16 (by first | exact (fun _ _ _ h => h) | (intro k hk hl hS; have h4 := hRl k hS; have h5 := hRw k hS; rcases hH2 k hk with h | h; (have : k < w.heap.size := h; omega); (simp only [New] at h; omega)) | (intro k hk hl hS; simp only [At] at hS; rcases hH2 k hk with h | h; (have : k < w.heap.size := h; omega); (simp only [New] at h; omega)))
                               replace hBn := hBn.upd hu16 (by first | exact (fun h => h) | (simp only [At]; omega) | (intro h; have := hRl _ h; omega))
                               replace hsn := hsn.upd hu16 (fun _ _ _ h => h)
                               refine ⟨trivial, ?_⟩
                               refine WN.calm _ rfl rfl rfl rfl rfl (fun _ => r_not rfl (ev_t rfl)) ?_
                               refine WN.done ?_
                               refine WX.keep [(0, _), (3, _), (4, _), (5, _), (6, _), (90, _)] ⟨rfl, rfl, rfl, rfl, rfl, rfl, trivial⟩ ?_
                               refine WX.next ?_
                               refine WC.cond rfl (ev_t rfl) (fun hc24 => ?_) (fun hc24 => ?_)
                               · try simp only [decide_eq_true_eq, decide_eq_false_iff_not, Bool.not_eq_true', Bool.not_eq_false', Bool.not_eq_true, Bool.not_eq_false, Option.isNone_none, Option.isNone_some, Option.isSome_none, Option.isSome_some, ne_eq, Decidable.not_not] at hc24
                                 exfalso
                                 simp at hc24
                               · try (exfalso; first | (simp at hc24; done) | (simp only [decide_eq_true_eq, decide_eq_false_iff_not, Bool.not_eq_true', Bool.not_eq_false', Bool.not_eq_true, Bool.not_eq_false] at hc24; omega) | omega)
                                 all_goals
                                  try simp only [decide_eq_true_eq, decide_eq_false_iff_not, Bool.not_eq_true', Bool.not_eq_false', Bool.not_eq_true, Bool.not_eq_false, Option.isNone_none, Option.isNone_some, Option.isSome_none, Option.isSome_some, ne_eq, Decidable.not_not] at hc24
                                  refine WC.skip ?_
                                  refine WX.blockNormal ?_
                                  refine WX.next ?_
                                  refine WC.region ?_
                                  refine WL.val rfl rfl rfl rfl (r_move rfl (ev_t rfl)) ?_
                                  first | refine WL.val rfl rfl rfl rfl (r_addN rfl (ev_t rfl) ev_c (by simp only [inK]; omega)) ?_ | refine WL.val rfl rfl rfl rfl (r_add rfl (ev_t rfl) ev_c) ?_
                                  refine WL.val rfl rfl rfl rfl (r_assign rfl (ev_t rfl)) ?_
                                  refine WL.nil ?_
                                  refine WX.keep [(0, _), (3, _), (4, _), (5, _), (6, _)] ⟨rfl, rfl, rfl, rfl, rfl, trivial⟩ ?_
                                  refine WX.meet [(0, _), (3, _), (4, _), (5, _), (6, _)] ⟨rfl, rfl, rfl, rfl, rfl, trivial⟩ ?_
                                  exact ⟨l.length - (i + 1), by omega, i + 1, _, _, _, _, _, _, _, _, by omega, rfl, hU, by omega, hQ, harm, hs, hRw, (fun k hk => by have := hRl k hk; omega), hRg, hB5, hdr, (fun k hk => by obtain ⟨a1, a2, a3⟩ := hFS k hk; exact ⟨a1, a2, by omega⟩), rfl⟩
                      · try (exfalso; first | (simp at hb14_11; done) | (simp only [decide_eq_true_eq, decide_eq_false_iff_not, Bool.not_eq_true', Bool.not_eq_false', Bool.not_eq_true, Bool.not_eq_false] at hb14_11; omega) | omega)
                        all_goals
                         try simp only [decide_eq_true_eq, decide_eq_false_iff_not, Bool.not_eq_true', Bool.not_eq_false', Bool.not_eq_true, Bool.not_eq_false, Option.isNone_none, Option.isNone_some, Option.isSome_none, Option.isSome_some, ne_eq, Decidable.not_not] at hb14_11
                         refine WL.skip rfl rfl rfl ?_
                         refine WL.skip rfl rfl rfl ?_
                         refine WL.val rfl rfl rfl rfl (r_pickF rfl (ev_t rfl) ev_c) ?_
                         refine WL.val rfl rfl rfl rfl (r_pickF rfl (ev_t rfl) (ev_t rfl)) ?_
                         refine WL.nil ?_
                         refine WX.keep [(0, _), (3, _), (4, _), (5, _), (6, _), (8, _), (9, _), (63, _)] ⟨rfl, rfl, rfl, rfl, rfl, rfl, rfl, rfl, trivial⟩ ?_
                         refine WX.next ?_
                         refine WC.cond_false rfl (ev_t rfl) ?_
                         refine WC.skip ?_
                         refine WX.next ?_
                         refine WC.seq ?_
                         refine WC.region ?_
                         refine WL.val rfl rfl rfl rfl (r_move rfl (ev_t rfl)) ?_
                         refine WL.val rfl rfl rfl rfl (r_eql rfl (ev_t rfl) ev_c) ?_
                         refine WL.nil ?_
                         refine WX.keep [(0, _), (3, _), (4, _), (5, _), (6, _), (8, _), (65, _)] ⟨rfl, rfl, rfl, rfl, rfl, rfl, rfl, trivial⟩ ?_
                         refine WX.next ?_
                         refine WC.cond rfl (ev_t rfl) (fun hc16 => ?_) (fun hc16 => ?_)
                         · try (exfalso; first | (simp at hc16; done) | (simp only [decide_eq_true_eq, decide_eq_false_iff_not, Bool.not_eq_true', Bool.not_eq_false', Bool.not_eq_true, Bool.not_eq_false] at hc16; omega) | omega)
                           all_goals
                            try simp only [decide_eq_true_eq, decide_eq_false_iff_not, Bool.not_eq_true', Bool.not_eq_false', Bool.not_eq_true, Bool.not_eq_false, Option.isNone_none, Option.isNone_some, Option.isSome_none, Option.isSome_some, ne_eq, Decidable.not_not] at hc16
                            have hT2 := hce0 (by omega)
                            refine WC.region ?_
                            refine WL.val rfl rfl rfl rfl (r_loadAgg (vs := [_, _, _]) rfl (ev_t rfl) agg_50 size_50 (Blk.cellsL hBn)) ?_
                            refine WL.cons (SO.storeAll (us := [_, _, _]) rfl (ev_t rfl) (ev_t rfl) size_50 hB5 rfl rfl rfl rfl rfl ?_)
                            intro w17 hu17 hB5 hz17
                            have hs17 := hu17.size
                            replace hU := hU.trans hu17 (by first | exact (fun _ _ h => h) | exact (fun _ _ h => h.elim) | (intro k hl hk; (try simp only [At, New, Grow, From, No] at hk ⊢); omega) | (intro k hl hk; first | (have := hRw k hk; omega) | (rcases hk with hk | hk; (have := hRw k hk; omega); omega) | (simp only [At, New, Grow, From, No] at *; omega)))
                            replace hs := hs.upd hu17 (by first | exact (fun _ _ _ h => h) | (intro k hk hl hS; simp only [At] at hS; subst hS; first | exact hRg hk | (have := hRl _ hk; omega) | (rcases hk with hk | hk; exact hRg hk; omega) | (rcases hk with hk | hk; (have := hRl _ hk; omega); omega)))
                            replace hdr := hdr.upd hu17 (by first | exact (fun _ _ _ h => h) | (intro k hk hl hS; have h4 := hFS k hk; first | exact h4.1 hS | (simp only [At] at hS; omega)))
                            replace hBa := hBa.upd hu17 (by first | exact (fun h => h) | exact hRa | (simp only [At]; omega))
                            replace hd2 := hd2.upd hu17 (by first | exact (fun _ _ _ h => h) | (intro k hk hl hS; have h4 := hRl k hS; have h5 := hRw k hS; rcases hH2 k hk with h | h; (have : k < w.heap.size := h; omega); (simp only [New] at h; omega)) | (intro k hk hl hS; simp only [At] at hS; rcases hH2 k hk with h | h; (have : k < w.heap.size := h; omega); (simp only [New] at h; omega)))
                            replace hBn := hBn.upd hu17 (by first | exact (fun h => h) | (simp only [At]; omega) | (intro h; have := hRl _ h; omega))
                            refine WL.nil ?_
                            refine WX.keep [(0, _), (3, _), (4, _), (5, _), (6, _)] ⟨rfl, rfl, rfl, rfl, rfl, trivial⟩ ?_
                            replace hB5 : Blk w17 w2.heap.size #[.int .u64 (T2.s.idx : Int), .int .u64 (T2.s.term : Int), .slice A2 n2 c2] 50 := by rw [hT2]; exact hB5
                            replace hdr : Rd w17 H2 (.slice A2 n2 c2) n2 1 (T2.s.data.map U8) := by rw [hT2]; exact hd2
                            replace hFS := hH3
                            refine WX.next ?_
                            refine WC.seq ?_
                            refine WC.draws' (fun u0_ u1_ => Upd No u0_ u1_) (fun j => [0, 1, 0, 2, 0].getD j 0) (.calm 0 (.held 2 (.one 1 (.one 3 (.calm 4 (.done)))))) mixed (by kernel_rfl) (by repeat (first | with_reducible exact Deaf.body | with_reducible apply Deaf.then | with_reducible apply Deaf.block)) ?_
                            intro w18 hu18
                            have hz18 := congrArg Array.size hu18.2.2.2
                            replace hu18 := Upd.of_draw hu18
                            have hs18 := hu18.size
                            replace hU := hU.trans hu18 (by first | exact (fun _ _ h => h) | exact (fun _ _ h => h.elim) | (intro k hl hk; (try simp only [At, New, Grow, From, No] at hk ⊢); omega) | (intro k hl hk; first | (have := hRw k hk; omega) | (rcases hk with hk | hk; (have := hRw k hk; omega); omega) | (simp only [At, New, Grow, From, No] at *; omega)))
                            replace hs := hs.upd hu18 (by first | exact (fun _ _ _ h => h) | (intro k hk hl hS; simp only [At] at hS; subst hS; first | exact hRg hk | (have := hRl _ hk; omega) | (rcases hk with hk | hk; exact hRg hk; omega) | (rcases hk with hk | hk; (have := hRl _ hk; omega); omega)))
                            replace hB5 := hB5.upd hu18 (by first | exact (fun h => h) | exact hRg | (simp only [At]; omega))
                            replace hdr := hdr.upd hu18 (by first | exact (fun _ _ _ h => h) | (intro k hk hl hS; have h4 := hFS k hk; first | exact h4.1 hS | (simp only [At] at hS; omega)))
                            replace hBa := hBa.upd hu18 (by first | exact (fun h => h) | exact hRa | (simp only [At]; omega))
                            replace hd2 := hd2.upd hu18 (by first | exact (fun _ _ _ h => h) | (intro k hk hl hS; have h4 := hRl k hS; have h5 := hRw k hS; rcases hH2 k hk with h | h; (have : k < w.heap.size := h; omega); (simp only [New] at h; omega)) | (intro k hk hl hS; simp only [At] at hS; rcases hH2 k hk with h | h; (have : k < w.heap.size := h; omega); (simp only [New] at h; omega)))
                            replace hBn := hBn.upd hu18 (by first | exact (fun h => h) | (simp only [At]; omega) | (intro h; have := hRl _ h; omega))
                            have hS24 := Upd.refl No w18
                            refine WN.calm _ rfl rfl rfl rfl rfl (fun _ => r_move rfl (ev_t rfl)) ?_
                            refine WN.held _ rfl rfl rfl rfl rfl hS24 (fun w' hS => r_loadAgg (vs := [_, _, _]) rfl (ev_t rfl) agg_50 size_50 (Blk.cellsL (hB5.upd hS (fun h => h)))) ?_
                            refine WN.step _ rfl (SO.call (snapSt hs) rfl body_30 ⟨(ev_t rfl), trivial⟩ rfl rfl rfl rfl ?_)
                            rintro v w19 ⟨As, cs, rfl, hsn, hu19⟩
                            have hs19 := hu19.size
                            replace hS24 := Upd.transA hS24 hu19
                            replace hU := hU.trans hu19 (by first | exact (fun _ _ h => h) | exact (fun _ _ h => h.elim) | (intro k hl hk; (try simp only [At, New, Grow, From, No] at hk ⊢); omega) | (intro k hl hk; first | (have := hRw k hk; omega) | (rcases hk with hk | hk; (have := hRw k hk; omega); omega) | (simp only [At, New, Grow, From, No] at *; omega)))
                            replace hs := hs.upd hu19 (by first | exact (fun _ _ _ h => h) | (intro k hk hl hS; simp only [At] at hS; subst hS; first | exact hRg hk | (have := hRl _ hk; omega) | (rcases hk with hk | hk; exact hRg hk; omega) | (rcases hk with hk | hk; (have := hRl _ hk; omega); omega)))
                            replace hB5 := hB5.upd hu19 (by first | exact (fun h => h) | exact hRg | (simp only [At]; omega))
                            replace hdr := hdr.upd hu19 (by first | exact (fun _ _ _ h => h) | (intro k hk hl hS; have h4 := hFS k hk; first | exact h4.1 hS | (simp only [At] at hS; omega)))
                            replace hBa := hBa.upd hu19 (by first | exact (fun h => h) | exact hRa | (simp only [At]; omega))
                            replace hd2 := hd2.upd hu19 (by first | exact (fun _ _ _ h => h) | (intro k hk hl hS; have h4 := hRl k hS; have h5 := hRw k hS; rcases hH2 k hk with h | h; (have : k < w.heap.size := h; omega); (simp only [New] at h; omega)) | (intro k hk hl hS; simp only [At] at hS; rcases hH2 k hk with h | h; (have : k < w.heap.size := h; omega); (simp only [New] at h; omega)))
                            replace hBn := hBn.upd hu19 (by first | exact (fun h => h) | (simp only [At]; omega) | (intro h; have := hRl _ h; omega))
                            refine ⟨hS24, ?_⟩
                            refine WN.step _ rfl (SO.call (same_ok (hsn.rd (by have h1 := hdr.le; have h2 := hdr.lenB; omega)) hdr) rfl body_29 ⟨(ev_t rfl), (ev_t rfl), trivial⟩ rfl rfl rfl rfl ?_)
                            rintro v w20 ⟨rfl, hu20⟩
                            have hs20 := hu20.size
                            try replace hS24 := Upd.transA hS24 hu20
                            replace hU := hU.trans hu20 (by first | exact (fun _ _ h => h) | exact (fun _ _ h => h.elim) | (intro k hl hk; (try simp only [At, New, Grow, From, No] at hk ⊢); omega) | (intro k hl hk; first | (have := hRw k hk; omega) | (rcases hk with hk | hk; (have := hRw k hk; omega); omega) | (simp only [At, New, Grow, From, No] at *; omega)))
                            replace hs := hs.upd hu20 (by first | exact (fun _ _ _ h => h) | (intro k hk hl hS; simp only [At] at hS; subst hS; first | exact hRg hk | (have := hRl _ hk; omega) | (rcases hk with hk | hk; exact hRg hk; omega) | (rcases hk with hk | hk; (have := hRl _ hk; omega); omega)))
                            replace hB5 := hB5.upd hu20 (by first | exact (fun h => h) | exact hRg | (simp only [At]; omega))
                            replace hdr := hdr.upd hu20 (by first | exact (fun _ _ _ h => h) | (intro k hk hl hS; have h4 := hFS k hk; first | exact h4.1 hS | (simp only [At] at hS; omega)))
                            replace hBa := hBa.upd hu20 (by first | exact (fun h => h) | exact hRa | (simp only [At]; omega))
                            replace hd2 := hd2.upd hu20 (by first | exact (fun _ _ _ h => h) | (intro k hk hl hS; have h4 := hRl k hS; have h5 := hRw k hS; rcases hH2 k hk with h | h; (have : k < w.heap.size := h; omega); (simp only [New] at h; omega)) | (intro k hk hl hS; simp only [At] at hS; rcases hH2 k hk with h | h; (have : k < w.heap.size := h; omega); (simp only [New] at h; omega)))
                            replace hBn := hBn.upd hu20 (by first | exact (fun h => h) | (simp only [At]; omega) | (intro h; have := hRl _ h; omega))
                            replace hsn := hsn.upd hu20 (fun _ _ _ h => h)
                            refine ⟨trivial, ?_⟩
                            refine WN.calm _ rfl rfl rfl rfl rfl (fun _ => r_not rfl (ev_t rfl)) ?_
                            refine WN.done ?_
                            refine WX.keep [(0, _), (3, _), (4, _), (5, _), (6, _), (90, _)] ⟨rfl, rfl, rfl, rfl, rfl, rfl, trivial⟩ ?_
                            refine WX.next ?_
                            refine WC.cond rfl (ev_t rfl) (fun hc24 => ?_) (fun hc24 => ?_)
                            · try simp only [decide_eq_true_eq, decide_eq_false_iff_not, Bool.not_eq_true', Bool.not_eq_false', Bool.not_eq_true, Bool.not_eq_false, Option.isNone_none, Option.isNone_some, Option.isSome_none, Option.isSome_some, ne_eq, Decidable.not_not] at hc24
                              exfalso
                              simp at hc24
                            · try (exfalso; first | (simp at hc24; done) | (simp only [decide_eq_true_eq, decide_eq_false_iff_not, Bool.not_eq_true', Bool.not_eq_false', Bool.not_eq_true, Bool.not_eq_false] at hc24; omega) | omega)
                              all_goals
                               try simp only [decide_eq_true_eq, decide_eq_false_iff_not, Bool.not_eq_true', Bool.not_eq_false', Bool.not_eq_true, Bool.not_eq_false, Option.isNone_none, Option.isNone_some, Option.isSome_none, Option.isSome_some, ne_eq, Decidable.not_not] at hc24
                               refine WC.skip ?_
                               refine WX.blockNormal ?_
                               refine WX.next ?_
                               refine WC.region ?_
                               refine WL.val rfl rfl rfl rfl (r_move rfl (ev_t rfl)) ?_
                               first | refine WL.val rfl rfl rfl rfl (r_addN rfl (ev_t rfl) ev_c (by simp only [inK]; omega)) ?_ | refine WL.val rfl rfl rfl rfl (r_add rfl (ev_t rfl) ev_c) ?_
                               refine WL.val rfl rfl rfl rfl (r_assign rfl (ev_t rfl)) ?_
                               refine WL.nil ?_
                               refine WX.keep [(0, _), (3, _), (4, _), (5, _), (6, _)] ⟨rfl, rfl, rfl, rfl, rfl, trivial⟩ ?_
                               refine WX.meet [(0, _), (3, _), (4, _), (5, _), (6, _)] ⟨rfl, rfl, rfl, rfl, rfl, trivial⟩ ?_
                               exact ⟨l.length - (i + 1), by omega, i + 1, _, _, _, _, _, _, _, _, by omega, rfl, hU, by omega, hQ, harm, hs, hRw, (fun k hk => by have := hRl k hk; omega), hRg, hB5, hdr, (fun k hk => by obtain ⟨a1, a2, a3⟩ := hFS k hk; exact ⟨a1, a2, by omega⟩), rfl⟩
                         · try (exfalso; first | (simp at hc16; done) | (simp only [decide_eq_true_eq, decide_eq_false_iff_not, Bool.not_eq_true', Bool.not_eq_false', Bool.not_eq_true, Bool.not_eq_false] at hc16; omega) | omega)
                           all_goals
                            try simp only [decide_eq_true_eq, decide_eq_false_iff_not, Bool.not_eq_true', Bool.not_eq_false', Bool.not_eq_true, Bool.not_eq_false, Option.isNone_none, Option.isNone_some, Option.isSome_none, Option.isSome_some, ne_eq, Decidable.not_not] at hc16
                            have hT2 := hce1 (by omega)
                            subst hT2
                            refine WC.skip ?_
                            refine WX.next ?_
                            refine WC.seq ?_
                            refine WC.draws' (fun u0_ u1_ => Upd No u0_ u1_) (fun j => [0, 1, 0, 2, 0].getD j 0) (.calm 0 (.held 2 (.one 1 (.one 3 (.calm 4 (.done)))))) mixed (by kernel_rfl) (by repeat (first | with_reducible exact Deaf.body | with_reducible apply Deaf.then | with_reducible apply Deaf.block)) ?_
                            intro w21 hu21
                            have hz21 := congrArg Array.size hu21.2.2.2
                            replace hu21 := Upd.of_draw hu21
                            have hs21 := hu21.size
                            replace hU := hU.trans hu21 (by first | exact (fun _ _ h => h) | exact (fun _ _ h => h.elim) | (intro k hl hk; (try simp only [At, New, Grow, From, No] at hk ⊢); omega) | (intro k hl hk; first | (have := hRw k hk; omega) | (rcases hk with hk | hk; (have := hRw k hk; omega); omega) | (simp only [At, New, Grow, From, No] at *; omega)))
                            replace hs := hs.upd hu21 (by first | exact (fun _ _ _ h => h) | (intro k hk hl hS; simp only [At] at hS; subst hS; first | exact hRg hk | (have := hRl _ hk; omega) | (rcases hk with hk | hk; exact hRg hk; omega) | (rcases hk with hk | hk; (have := hRl _ hk; omega); omega)))
                            replace hB5 := hB5.upd hu21 (by first | exact (fun h => h) | exact hRg | (simp only [At]; omega))
                            replace hdr := hdr.upd hu21 (by first | exact (fun _ _ _ h => h) | (intro k hk hl hS; have h4 := hFS k hk; first | exact h4.1 hS | (simp only [At] at hS; omega)))
                            replace hBa := hBa.upd hu21 (by first | exact (fun h => h) | exact hRa | (simp only [At]; omega))
                            replace hd2 := hd2.upd hu21 (by first | exact (fun _ _ _ h => h) | (intro k hk hl hS; have h4 := hRl k hS; have h5 := hRw k hS; rcases hH2 k hk with h | h; (have : k < w.heap.size := h; omega); (simp only [New] at h; omega)) | (intro k hk hl hS; simp only [At] at hS; rcases hH2 k hk with h | h; (have : k < w.heap.size := h; omega); (simp only [New] at h; omega)))
                            replace hBn := hBn.upd hu21 (by first | exact (fun h => h) | (simp only [At]; omega) | (intro h; have := hRl _ h; omega))
                            have hS24 := Upd.refl No w21
                            refine WN.calm _ rfl rfl rfl rfl rfl (fun _ => r_move rfl (ev_t rfl)) ?_
                            refine WN.held _ rfl rfl rfl rfl rfl hS24 (fun w' hS => r_loadAgg (vs := [_, _, _]) rfl (ev_t rfl) agg_50 size_50 (Blk.cellsL (hB5.upd hS (fun h => h)))) ?_
                            refine WN.step _ rfl (SO.call (snapSt hs) rfl body_30 ⟨(ev_t rfl), trivial⟩ rfl rfl rfl rfl ?_)
                            rintro v w22 ⟨As, cs, rfl, hsn, hu22⟩
                            have hs22 := hu22.size
                            replace hS24 := Upd.transA hS24 hu22
                            replace hU := hU.trans hu22 (by first | exact (fun _ _ h => h) | exact (fun _ _ h => h.elim) | (intro k hl hk; (try simp only [At, New, Grow, From, No] at hk ⊢); omega) | (intro k hl hk; first | (have := hRw k hk; omega) | (rcases hk with hk | hk; (have := hRw k hk; omega); omega) | (simp only [At, New, Grow, From, No] at *; omega)))
                            replace hs := hs.upd hu22 (by first | exact (fun _ _ _ h => h) | (intro k hk hl hS; simp only [At] at hS; subst hS; first | exact hRg hk | (have := hRl _ hk; omega) | (rcases hk with hk | hk; exact hRg hk; omega) | (rcases hk with hk | hk; (have := hRl _ hk; omega); omega)))
                            replace hB5 := hB5.upd hu22 (by first | exact (fun h => h) | exact hRg | (simp only [At]; omega))
                            replace hdr := hdr.upd hu22 (by first | exact (fun _ _ _ h => h) | (intro k hk hl hS; have h4 := hFS k hk; first | exact h4.1 hS | (simp only [At] at hS; omega)))
                            replace hBa := hBa.upd hu22 (by first | exact (fun h => h) | exact hRa | (simp only [At]; omega))
                            replace hd2 := hd2.upd hu22 (by first | exact (fun _ _ _ h => h) | (intro k hk hl hS; have h4 := hRl k hS; have h5 := hRw k hS; rcases hH2 k hk with h | h; (have : k < w.heap.size := h; omega); (simp only [New] at h; omega)) | (intro k hk hl hS; simp only [At] at hS; rcases hH2 k hk with h | h; (have : k < w.heap.size := h; omega); (simp only [New] at h; omega)))
                            replace hBn := hBn.upd hu22 (by first | exact (fun h => h) | (simp only [At]; omega) | (intro h; have := hRl _ h; omega))
                            refine ⟨hS24, ?_⟩
                            refine WN.step _ rfl (SO.call (same_ok (hsn.rd (by have h1 := hdr.le; have h2 := hdr.lenB; omega)) hdr) rfl body_29 ⟨(ev_t rfl), (ev_t rfl), trivial⟩ rfl rfl rfl rfl ?_)
                            rintro v w23 ⟨rfl, hu23⟩
                            have hs23 := hu23.size
                            try replace hS24 := Upd.transA hS24 hu23
                            replace hU := hU.trans hu23 (by first | exact (fun _ _ h => h) | exact (fun _ _ h => h.elim) | (intro k hl hk; (try simp only [At, New, Grow, From, No] at hk ⊢); omega) | (intro k hl hk; first | (have := hRw k hk; omega) | (rcases hk with hk | hk; (have := hRw k hk; omega); omega) | (simp only [At, New, Grow, From, No] at *; omega)))
                            replace hs := hs.upd hu23 (by first | exact (fun _ _ _ h => h) | (intro k hk hl hS; simp only [At] at hS; subst hS; first | exact hRg hk | (have := hRl _ hk; omega) | (rcases hk with hk | hk; exact hRg hk; omega) | (rcases hk with hk | hk; (have := hRl _ hk; omega); omega)))
                            replace hB5 := hB5.upd hu23 (by first | exact (fun h => h) | exact hRg | (simp only [At]; omega))
                            replace hdr := hdr.upd hu23 (by first | exact (fun _ _ _ h => h) | (intro k hk hl hS; have h4 := hFS k hk; first | exact h4.1 hS | (simp only [At] at hS; omega)))
                            replace hBa := hBa.upd hu23 (by first | exact (fun h => h) | exact hRa | (simp only [At]; omega))
                            replace hd2 := hd2.upd hu23 (by first | exact (fun _ _ _ h => h) | (intro k hk hl hS; have h4 := hRl k hS; have h5 := hRw k hS; rcases hH2 k hk with h | h; (have : k < w.heap.size := h; omega); (simp only [New] at h; omega)) | (intro k hk hl hS; simp only [At] at hS; rcases hH2 k hk with h | h; (have : k < w.heap.size := h; omega); (simp only [New] at h; omega)))
                            replace hBn := hBn.upd hu23 (by first | exact (fun h => h) | (simp only [At]; omega) | (intro h; have := hRl _ h; omega))
                            replace hsn := hsn.upd hu23 (fun _ _ _ h => h)
                            refine ⟨trivial, ?_⟩
                            refine WN.calm _ rfl rfl rfl rfl rfl (fun _ => r_not rfl (ev_t rfl)) ?_
                            refine WN.done ?_
                            refine WX.keep [(0, _), (3, _), (4, _), (5, _), (6, _), (90, _)] ⟨rfl, rfl, rfl, rfl, rfl, rfl, trivial⟩ ?_
                            refine WX.next ?_
                            refine WC.cond rfl (ev_t rfl) (fun hc24 => ?_) (fun hc24 => ?_)
                            · try simp only [decide_eq_true_eq, decide_eq_false_iff_not, Bool.not_eq_true', Bool.not_eq_false', Bool.not_eq_true, Bool.not_eq_false, Option.isNone_none, Option.isNone_some, Option.isSome_none, Option.isSome_some, ne_eq, Decidable.not_not] at hc24
                              exfalso
                              simp at hc24
                            · try (exfalso; first | (simp at hc24; done) | (simp only [decide_eq_true_eq, decide_eq_false_iff_not, Bool.not_eq_true', Bool.not_eq_false', Bool.not_eq_true, Bool.not_eq_false] at hc24; omega) | omega)
                              all_goals
                               try simp only [decide_eq_true_eq, decide_eq_false_iff_not, Bool.not_eq_true', Bool.not_eq_false', Bool.not_eq_true, Bool.not_eq_false, Option.isNone_none, Option.isNone_some, Option.isSome_none, Option.isSome_some, ne_eq, Decidable.not_not] at hc24
                               refine WC.skip ?_
                               refine WX.blockNormal ?_
                               refine WX.next ?_
                               refine WC.region ?_
                               refine WL.val rfl rfl rfl rfl (r_move rfl (ev_t rfl)) ?_
                               first | refine WL.val rfl rfl rfl rfl (r_addN rfl (ev_t rfl) ev_c (by simp only [inK]; omega)) ?_ | refine WL.val rfl rfl rfl rfl (r_add rfl (ev_t rfl) ev_c) ?_
                               refine WL.val rfl rfl rfl rfl (r_assign rfl (ev_t rfl)) ?_
                               refine WL.nil ?_
                               refine WX.keep [(0, _), (3, _), (4, _), (5, _), (6, _)] ⟨rfl, rfl, rfl, rfl, rfl, trivial⟩ ?_
                               refine WX.meet [(0, _), (3, _), (4, _), (5, _), (6, _)] ⟨rfl, rfl, rfl, rfl, rfl, trivial⟩ ?_
                               exact ⟨l.length - (i + 1), by omega, i + 1, _, _, _, _, _, _, _, _, by omega, rfl, hU, by omega, hQ, harm, hs, hRw, (fun k hk => by have := hRl k hk; omega), hRg, hB5, hdr, (fun k hk => by obtain ⟨a1, a2, a3⟩ := hFS k hk; exact ⟨a1, a2, by omega⟩), rfl⟩
                · try (exfalso; first | (simp at hc11; done) | (simp only [decide_eq_true_eq, decide_eq_false_iff_not, Bool.not_eq_true', Bool.not_eq_false', Bool.not_eq_true, Bool.not_eq_false] at hc11; omega) | omega)
                  all_goals
                   try simp only [decide_eq_true_eq, decide_eq_false_iff_not, Bool.not_eq_true', Bool.not_eq_false', Bool.not_eq_true, Bool.not_eq_false, Option.isNone_none, Option.isNone_some, Option.isSome_none, Option.isSome_some, ne_eq, Decidable.not_not] at hc11
                   refine WC.seq ?_
                   refine WC.seq ?_
                   refine WC.region ?_
                   first | refine WL.val rfl rfl rfl rfl (r_field0 rfl (ev_t rfl) fld_56_0) ?_ | refine WL.val rfl rfl rfl rfl (r_fieldAt rfl (ev_t rfl) fld_56_0) ?_
                   refine WL.val rfl rfl rfl rfl (r_load rfl (ev_t rfl) flat_5 (Blk.cell hBa rfl)) ?_
                   first | refine WL.val rfl rfl rfl rfl (r_remN rfl (ev_t rfl) ev_c (by omega) (by omega)) ?_ | refine WL.val rfl rfl rfl rfl (r_rem rfl (ev_t rfl) ev_c (by omega)) ?_
                   refine WL.val rfl rfl rfl rfl (r_eql rfl (ev_t rfl) ev_c) ?_
                   refine WL.val rfl rfl rfl rfl (r_move rfl (ev_t rfl)) ?_
                   refine WL.cases 71 rfl (fun hb18_4 => ?_) (fun hb18_4 => ?_)
                   · try (exfalso; first | (simp at hb18_4; done) | (simp only [decide_eq_true_eq, decide_eq_false_iff_not, Bool.not_eq_true', Bool.not_eq_false', Bool.not_eq_true, Bool.not_eq_false] at hb18_4; omega) | omega)
                     all_goals
                      try simp only [decide_eq_true_eq, decide_eq_false_iff_not, Bool.not_eq_true', Bool.not_eq_false', Bool.not_eq_true, Bool.not_eq_false, Option.isNone_none, Option.isNone_some, Option.isSome_none, Option.isSome_some, ne_eq, Decidable.not_not] at hb18_4
                      refine WL.val rfl rfl rfl rfl (r_move rfl (ev_t rfl)) ?_
                      first | refine WL.val rfl rfl rfl rfl (r_field0 rfl (ev_t rfl) fld_56_4) ?_ | refine WL.val rfl rfl rfl rfl (r_fieldAt rfl (ev_t rfl) fld_56_4) ?_
                      refine WL.val rfl rfl rfl rfl (r_load rfl (ev_t rfl) flat_23 (Blk.cell hBa rfl)) ?_
                      refine WL.cons (SO.call (restartSt hs (hac.upd hU (fun _ _ _ h => h)) (fun k hk hl hR => by have := hRw k hR; have : k < w.heap.size := hk; omega)) rfl body_19 ⟨(ev_t rfl), (ev_t rfl), trivial⟩ rfl rfl rfl rfl ?_)
                      clear hs
                      rintro v w24 ⟨rfl, hs, hu24⟩
                      replace hQ := hQ.restart a.cuts
                      replace harm : (D.restart a.cuts).armed = 0 := rfl
                      have hs24 := hu24.size
                      replace hU := hU.trans hu24 (by first | exact (fun _ _ h => h) | exact (fun _ _ h => h.elim) | (intro k hl hk; (try simp only [At, New, Grow, From, No] at hk ⊢); omega) | (intro k hl hk; first | (have := hRw k hk; omega) | (rcases hk with hk | hk; (have := hRw k hk; omega); omega) | (simp only [At, New, Grow, From, No] at *; omega)))
                      replace hB5 := hB5.upd hu24 (by first | exact (fun h => h) | exact hRg | (simp only [At]; omega))
                      replace hdr := hdr.upd hu24 (by first | exact (fun _ _ _ h => h) | (intro k hk hl hS; have h4 := hFS k hk; first | exact h4.1 hS | (simp only [At] at hS; omega)))
                      replace hBa := hBa.upd hu24 (by first | exact (fun h => h) | exact hRa | (simp only [At]; omega))
                      replace hRw : ∀ k, Grow R w5 w24 k → w.heap.size ≤ k := fun k hk => hk.elim (hRw k) (fun h => by omega)
                      replace hRl : ∀ k, Grow R w5 w24 k → k < w24.heap.size := fun k hk => hk.elim (fun h => by have := hRl k h; omega) (fun h => h.2)
                      replace hRg : ¬ Grow R w5 w24 w2.heap.size := fun h => h.elim hRg (fun h => by omega)
                      replace hRa : ¬ Grow R w5 w24 w'.heap.size := fun h => h.elim hRa (fun h => by omega)
                      replace hFS : ∀ k, FS k → (¬ Grow R w5 w24 k) ∧ k ≠ w2.heap.size ∧ k < w24.heap.size := fun k hk => by obtain ⟨a1, a2, a3⟩ := hFS k hk; exact ⟨fun h => h.elim a1 (fun h => by omega), a2, by omega⟩
                      refine WL.val rfl rfl rfl rfl (r_neq rfl (ev_t rfl) ev_c) ?_
                      refine WL.val rfl rfl rfl rfl (r_pickT rfl (ev_t rfl) (ev_t rfl)) ?_
                      refine WL.nil ?_
                      refine WX.keep [(0, _), (3, _), (5, _), (6, _), (77, _)] ⟨rfl, rfl, rfl, rfl, rfl, trivial⟩ ?_
                      refine WX.next ?_
                      refine WC.cond rfl (ev_t rfl) (fun hc18 => ?_) (fun hc18 => ?_)
                      · try (exfalso; first | (simp at hc18; done) | (simp only [decide_eq_true_eq, decide_eq_false_iff_not, Bool.not_eq_true', Bool.not_eq_false', Bool.not_eq_true, Bool.not_eq_false] at hc18; omega) | omega)
                        all_goals
                         try simp only [decide_eq_true_eq, decide_eq_false_iff_not, Bool.not_eq_true', Bool.not_eq_false', Bool.not_eq_true, Bool.not_eq_false, Option.isNone_none, Option.isNone_some, Option.isSome_none, Option.isSome_some, ne_eq, Decidable.not_not] at hc18
                         refine WC.seq ?_
                         refine WC.region ?_
                         refine WL.val rfl rfl rfl rfl (r_assign rfl ev_c) ?_
                         refine WL.nil ?_
                         refine WX.keep [(2, _)] ⟨rfl, trivial⟩ ?_
                         refine WX.next ?_
                         refine WC.ret ?_
                         refine WX.thenRet ?_
                         refine WX.thenRet ?_
                         refine WX.blockRet ?_
                         refine WX.thenRet ?_
                         refine WX.thenRet ?_
                         refine WX.blockRet ?_
                         refine WX.thenRet ?_
                         refine WX.retE1 rfl rfl ?_
                         exact ⟨rfl, hU⟩
                      · try (exfalso; first | (simp at hc18; done) | (simp only [decide_eq_true_eq, decide_eq_false_iff_not, Bool.not_eq_true', Bool.not_eq_false', Bool.not_eq_true, Bool.not_eq_false] at hc18; omega) | omega)
                        all_goals
                         try simp only [decide_eq_true_eq, decide_eq_false_iff_not, Bool.not_eq_true', Bool.not_eq_false', Bool.not_eq_true, Bool.not_eq_false, Option.isNone_none, Option.isNone_some, Option.isSome_none, Option.isSome_some, ne_eq, Decidable.not_not] at hc18
                         refine WC.skip ?_
                         refine WX.next ?_
                         refine WC.seq ?_
                         obtain ⟨D3, e3, eT, hQ3, harm3⟩ := open_quiet hQ harm
                         refine WC.region ?_
                         refine WL.val rfl rfl rfl rfl (r_move rfl (ev_t rfl)) ?_
                         refine WL.cons (SO.call (openSt hs.drum (fun k hk => by have := hRl k hk; omega) hQ.len hQ.off) rfl body_32 ⟨(ev_t rfl), ev_c, trivial⟩ rfl rfl rfl rfl ?_)
                         clear hs
                         rw [e3, eT]
                         rintro v w25 ⟨hu25, hc⟩
                         obtain ⟨t3, rfl, hs⟩ := (hc.resolve_left (fun h => h.1 rfl)).2
                         dsimp only at hs
                         have hs25 := hu25.size
                         replace hU := hU.trans hu25 (by first | exact (fun _ _ h => h) | exact (fun _ _ h => h.elim) | (intro k hl hk; (try simp only [At, New, Grow, From, No] at hk ⊢); omega) | (intro k hl hk; first | (have := hRw k hk; omega) | (rcases hk with hk | hk; (have := hRw k hk; omega); omega) | (simp only [At, New, Grow, From, No] at *; omega)))
                         replace hB5 := hB5.upd hu25 (by first | exact (fun h => h) | exact hRg | (simp only [At]; omega))
                         replace hdr := hdr.upd hu25 (by first | exact (fun _ _ _ h => h) | (intro k hk hl hS; have h4 := hFS k hk; first | exact h4.1 hS | (simp only [At] at hS; omega)))
                         replace hBa := hBa.upd hu25 (by first | exact (fun h => h) | exact hRa | (simp only [At]; omega))
                         replace hRw : ∀ k, Grow _ w24 w25 k → w.heap.size ≤ k := fun k hk => hk.elim (hRw k) (fun h => by omega)
                         replace hRl : ∀ k, Grow _ w24 w25 k → k < w25.heap.size := fun k hk => hk.elim (fun h => by have := hRl k h; omega) (fun h => h.2)
                         replace hRg : ¬ Grow _ w24 w25 w2.heap.size := fun h => h.elim hRg (fun h => by omega)
                         replace hRa : ¬ Grow _ w24 w25 w'.heap.size := fun h => h.elim hRa (fun h => by omega)
                         replace hFS : ∀ k, FS k → (¬ Grow _ w24 w25 k) ∧ k ≠ w2.heap.size ∧ k < w25.heap.size := fun k hk => by obtain ⟨a1, a2, a3⟩ := hFS k hk; exact ⟨fun h => h.elim a1 (fun h => by omega), a2, by omega⟩
                         replace hQ := hQ3
                         replace harm := harm3
                         refine WL.val rfl rfl rfl rfl (r_move rfl (ev_t rfl)) ?_
                         refine WL.val rfl rfl rfl rfl (r_extract rfl (ev_t rfl) rfl) ?_
                         refine WL.val rfl rfl rfl rfl (r_extract rfl (ev_t rfl) rfl) ?_
                         refine WL.val rfl rfl rfl rfl (r_assign rfl (ev_t rfl)) ?_
                         refine WL.val rfl rfl rfl rfl (r_assign rfl (ev_t rfl)) ?_
                         refine WL.nil ?_
                         refine WX.keep [(0, _), (3, _), (5, _), (6, _), (10, _), (11, _)] ⟨rfl, rfl, rfl, rfl, rfl, rfl, trivial⟩ ?_
                         refine WX.next ?_
                         refine WC.seq ?_
                         refine WC.seq ?_
                         refine WC.region ?_
                         refine WL.val rfl rfl rfl rfl (r_move rfl (ev_t rfl)) ?_
                         refine WL.val rfl rfl rfl rfl (r_neq rfl (ev_t rfl) ev_c) ?_
                         refine WL.nil ?_
                         refine WX.keep [(0, _), (3, _), (5, _), (6, _), (10, _), (84, _)] ⟨rfl, rfl, rfl, rfl, rfl, rfl, trivial⟩ ?_
                         refine WX.next ?_
                         refine WC.cond rfl (ev_t rfl) (fun hc21 => ?_) (fun hc21 => ?_)
                         · try (exfalso; first | (simp at hc21; done) | (simp only [decide_eq_true_eq, decide_eq_false_iff_not, Bool.not_eq_true', Bool.not_eq_false', Bool.not_eq_true, Bool.not_eq_false] at hc21; omega) | omega)
                           all_goals
                            try simp only [decide_eq_true_eq, decide_eq_false_iff_not, Bool.not_eq_true', Bool.not_eq_false', Bool.not_eq_true, Bool.not_eq_false, Option.isNone_none, Option.isNone_some, Option.isSome_none, Option.isSome_some, ne_eq, Decidable.not_not] at hc21
                            refine WC.seq ?_
                            refine WC.region ?_
                            refine WL.val rfl rfl rfl rfl (r_assign rfl ev_c) ?_
                            refine WL.nil ?_
                            refine WX.keep [(2, _)] ⟨rfl, trivial⟩ ?_
                            refine WX.next ?_
                            refine WC.ret ?_
                            refine WX.thenRet ?_
                            refine WX.thenRet ?_
                            refine WX.blockRet ?_
                            refine WX.thenRet ?_
                            refine WX.thenRet ?_
                            refine WX.blockRet ?_
                            refine WX.thenRet ?_
                            refine WX.retE1 rfl rfl ?_
                            exact ⟨rfl, hU⟩
                         · try (exfalso; first | (simp at hc21; done) | (simp only [decide_eq_true_eq, decide_eq_false_iff_not, Bool.not_eq_true', Bool.not_eq_false', Bool.not_eq_true, Bool.not_eq_false] at hc21; omega) | omega)
                           all_goals
                            try simp only [decide_eq_true_eq, decide_eq_false_iff_not, Bool.not_eq_true', Bool.not_eq_false', Bool.not_eq_true, Bool.not_eq_false, Option.isNone_none, Option.isNone_some, Option.isSome_none, Option.isSome_some, ne_eq, Decidable.not_not] at hc21
                            refine WC.skip ?_
                            refine WX.next ?_
                            refine WC.region ?_
                            refine WL.val rfl rfl rfl rfl (r_move rfl (ev_t rfl)) ?_
                            refine WL.val rfl rfl rfl rfl (r_assign rfl (ev_t rfl)) ?_
                            refine WL.nil ?_
                            refine WX.keep [(0, _), (3, _), (4, _), (5, _), (6, _)] ⟨rfl, rfl, rfl, rfl, rfl, trivial⟩ ?_
                            refine WX.next ?_
                            refine WC.seq ?_
                            refine WC.draws' (fun u0_ u1_ => Upd No u0_ u1_) (fun j => [0, 1, 0, 2, 0].getD j 0) (.calm 0 (.held 2 (.one 1 (.one 3 (.calm 4 (.done)))))) mixed (by kernel_rfl) (by repeat (first | with_reducible exact Deaf.body | with_reducible apply Deaf.then | with_reducible apply Deaf.block)) ?_
                            intro w26 hu26
                            have hz26 := congrArg Array.size hu26.2.2.2
                            replace hu26 := Upd.of_draw hu26
                            have hs26 := hu26.size
                            replace hU := hU.trans hu26 (by first | exact (fun _ _ h => h) | exact (fun _ _ h => h.elim) | (intro k hl hk; (try simp only [At, New, Grow, From, No] at hk ⊢); omega) | (intro k hl hk; first | (have := hRw k hk; omega) | (rcases hk with hk | hk; (have := hRw k hk; omega); omega) | (simp only [At, New, Grow, From, No] at *; omega)))
                            replace hs := hs.upd hu26 (by first | exact (fun _ _ _ h => h) | (intro k hk hl hS; simp only [At] at hS; subst hS; first | exact hRg hk | (have := hRl _ hk; omega) | (rcases hk with hk | hk; exact hRg hk; omega) | (rcases hk with hk | hk; (have := hRl _ hk; omega); omega)))
                            replace hB5 := hB5.upd hu26 (by first | exact (fun h => h) | exact hRg | (simp only [At]; omega))
                            replace hdr := hdr.upd hu26 (by first | exact (fun _ _ _ h => h) | (intro k hk hl hS; have h4 := hFS k hk; first | exact h4.1 hS | (simp only [At] at hS; omega)))
                            replace hBa := hBa.upd hu26 (by first | exact (fun h => h) | exact hRa | (simp only [At]; omega))
                            have hS24 := Upd.refl No w26
                            refine WN.calm _ rfl rfl rfl rfl rfl (fun _ => r_move rfl (ev_t rfl)) ?_
                            refine WN.held _ rfl rfl rfl rfl rfl hS24 (fun w' hS => r_loadAgg (vs := [_, _, _]) rfl (ev_t rfl) agg_50 size_50 (Blk.cellsL (hB5.upd hS (fun h => h)))) ?_
                            refine WN.step _ rfl (SO.call (snapSt hs) rfl body_30 ⟨(ev_t rfl), trivial⟩ rfl rfl rfl rfl ?_)
                            rintro v w27 ⟨As, cs, rfl, hsn, hu27⟩
                            have hs27 := hu27.size
                            replace hS24 := Upd.transA hS24 hu27
                            replace hU := hU.trans hu27 (by first | exact (fun _ _ h => h) | exact (fun _ _ h => h.elim) | (intro k hl hk; (try simp only [At, New, Grow, From, No] at hk ⊢); omega) | (intro k hl hk; first | (have := hRw k hk; omega) | (rcases hk with hk | hk; (have := hRw k hk; omega); omega) | (simp only [At, New, Grow, From, No] at *; omega)))
                            replace hs := hs.upd hu27 (by first | exact (fun _ _ _ h => h) | (intro k hk hl hS; simp only [At] at hS; subst hS; first | exact hRg hk | (have := hRl _ hk; omega) | (rcases hk with hk | hk; exact hRg hk; omega) | (rcases hk with hk | hk; (have := hRl _ hk; omega); omega)))
                            replace hB5 := hB5.upd hu27 (by first | exact (fun h => h) | exact hRg | (simp only [At]; omega))
                            replace hdr := hdr.upd hu27 (by first | exact (fun _ _ _ h => h) | (intro k hk hl hS; have h4 := hFS k hk; first | exact h4.1 hS | (simp only [At] at hS; omega)))
                            replace hBa := hBa.upd hu27 (by first | exact (fun h => h) | exact hRa | (simp only [At]; omega))
                            refine ⟨hS24, ?_⟩
                            refine WN.step _ rfl (SO.call (same_ok (hsn.rd (by have h1 := hdr.le; have h2 := hdr.lenB; omega)) hdr) rfl body_29 ⟨(ev_t rfl), (ev_t rfl), trivial⟩ rfl rfl rfl rfl ?_)
                            rintro v w28 ⟨rfl, hu28⟩
                            have hs28 := hu28.size
                            try replace hS24 := Upd.transA hS24 hu28
                            replace hU := hU.trans hu28 (by first | exact (fun _ _ h => h) | exact (fun _ _ h => h.elim) | (intro k hl hk; (try simp only [At, New, Grow, From, No] at hk ⊢); omega) | (intro k hl hk; first | (have := hRw k hk; omega) | (rcases hk with hk | hk; (have := hRw k hk; omega); omega) | (simp only [At, New, Grow, From, No] at *; omega)))
                            replace hs := hs.upd hu28 (by first | exact (fun _ _ _ h => h) | (intro k hk hl hS; simp only [At] at hS; subst hS; first | exact hRg hk | (have := hRl _ hk; omega) | (rcases hk with hk | hk; exact hRg hk; omega) | (rcases hk with hk | hk; (have := hRl _ hk; omega); omega)))
                            replace hB5 := hB5.upd hu28 (by first | exact (fun h => h) | exact hRg | (simp only [At]; omega))
                            replace hdr := hdr.upd hu28 (by first | exact (fun _ _ _ h => h) | (intro k hk hl hS; have h4 := hFS k hk; first | exact h4.1 hS | (simp only [At] at hS; omega)))
                            replace hBa := hBa.upd hu28 (by first | exact (fun h => h) | exact hRa | (simp only [At]; omega))
                            replace hsn := hsn.upd hu28 (fun _ _ _ h => h)
                            refine ⟨trivial, ?_⟩
                            refine WN.calm _ rfl rfl rfl rfl rfl (fun _ => r_not rfl (ev_t rfl)) ?_
                            refine WN.done ?_
                            refine WX.keep [(0, _), (3, _), (4, _), (5, _), (6, _), (90, _)] ⟨rfl, rfl, rfl, rfl, rfl, rfl, trivial⟩ ?_
                            refine WX.next ?_
                            refine WC.cond rfl (ev_t rfl) (fun hc24 => ?_) (fun hc24 => ?_)
                            · try simp only [decide_eq_true_eq, decide_eq_false_iff_not, Bool.not_eq_true', Bool.not_eq_false', Bool.not_eq_true, Bool.not_eq_false, Option.isNone_none, Option.isNone_some, Option.isSome_none, Option.isSome_some, ne_eq, Decidable.not_not] at hc24
                              exfalso
                              simp at hc24
                            · try (exfalso; first | (simp at hc24; done) | (simp only [decide_eq_true_eq, decide_eq_false_iff_not, Bool.not_eq_true', Bool.not_eq_false', Bool.not_eq_true, Bool.not_eq_false] at hc24; omega) | omega)
                              all_goals
                               try simp only [decide_eq_true_eq, decide_eq_false_iff_not, Bool.not_eq_true', Bool.not_eq_false', Bool.not_eq_true, Bool.not_eq_false, Option.isNone_none, Option.isNone_some, Option.isSome_none, Option.isSome_some, ne_eq, Decidable.not_not] at hc24
                               refine WC.skip ?_
                               refine WX.blockNormal ?_
                               refine WX.next ?_
                               refine WC.region ?_
                               refine WL.val rfl rfl rfl rfl (r_move rfl (ev_t rfl)) ?_
                               first | refine WL.val rfl rfl rfl rfl (r_addN rfl (ev_t rfl) ev_c (by simp only [inK]; omega)) ?_ | refine WL.val rfl rfl rfl rfl (r_add rfl (ev_t rfl) ev_c) ?_
                               refine WL.val rfl rfl rfl rfl (r_assign rfl (ev_t rfl)) ?_
                               refine WL.nil ?_
                               refine WX.keep [(0, _), (3, _), (4, _), (5, _), (6, _)] ⟨rfl, rfl, rfl, rfl, rfl, trivial⟩ ?_
                               refine WX.meet [(0, _), (3, _), (4, _), (5, _), (6, _)] ⟨rfl, rfl, rfl, rfl, rfl, trivial⟩ ?_
                               exact ⟨l.length - (i + 1), by omega, i + 1, _, _, _, _, _, _, _, _, by omega, rfl, hU, by omega, hQ, harm, hs, hRw, (fun k hk => by have := hRl k hk; omega), hRg, hB5, hdr, (fun k hk => by obtain ⟨a1, a2, a3⟩ := hFS k hk; exact ⟨a1, a2, by omega⟩), rfl⟩
                   · try (exfalso; first | (simp at hb18_4; done) | (simp only [decide_eq_true_eq, decide_eq_false_iff_not, Bool.not_eq_true', Bool.not_eq_false', Bool.not_eq_true, Bool.not_eq_false] at hb18_4; omega) | omega)
                     all_goals
                      try simp only [decide_eq_true_eq, decide_eq_false_iff_not, Bool.not_eq_true', Bool.not_eq_false', Bool.not_eq_true, Bool.not_eq_false, Option.isNone_none, Option.isNone_some, Option.isSome_none, Option.isSome_some, ne_eq, Decidable.not_not] at hb18_4
                      refine WL.skip rfl rfl rfl ?_
                      refine WL.skip rfl rfl rfl ?_
                      refine WL.skip rfl rfl rfl ?_
                      refine WL.skip rfl rfl rfl ?_
                      refine WL.skip rfl rfl rfl ?_
                      refine WL.val rfl rfl rfl rfl (r_pickF rfl (ev_t rfl) ev_c) ?_
                      refine WL.nil ?_
                      refine WX.keep [(0, _), (3, _), (5, _), (6, _), (77, _)] ⟨rfl, rfl, rfl, rfl, rfl, trivial⟩ ?_
                      refine WX.next ?_
                      refine WC.cond_false rfl (ev_t rfl) ?_
                      refine WC.skip ?_
                      refine WX.next ?_
                      refine WC.seq ?_
                      obtain ⟨D3, e3, eT, hQ3, harm3⟩ := open_quiet hQ harm
                      refine WC.region ?_
                      refine WL.val rfl rfl rfl rfl (r_move rfl (ev_t rfl)) ?_
                      refine WL.cons (SO.call (openSt hs.drum (fun k hk => by have := hRl k hk; omega) hQ.len hQ.off) rfl body_32 ⟨(ev_t rfl), ev_c, trivial⟩ rfl rfl rfl rfl ?_)
                      clear hs
                      rw [e3, eT]
                      rintro v w29 ⟨hu29, hc⟩
                      obtain ⟨t3, rfl, hs⟩ := (hc.resolve_left (fun h => h.1 rfl)).2
                      dsimp only at hs
                      have hs29 := hu29.size
                      replace hU := hU.trans hu29 (by first | exact (fun _ _ h => h) | exact (fun _ _ h => h.elim) | (intro k hl hk; (try simp only [At, New, Grow, From, No] at hk ⊢); omega) | (intro k hl hk; first | (have := hRw k hk; omega) | (rcases hk with hk | hk; (have := hRw k hk; omega); omega) | (simp only [At, New, Grow, From, No] at *; omega)))
                      replace hB5 := hB5.upd hu29 (by first | exact (fun h => h) | exact hRg | (simp only [At]; omega))
                      replace hdr := hdr.upd hu29 (by first | exact (fun _ _ _ h => h) | (intro k hk hl hS; have h4 := hFS k hk; first | exact h4.1 hS | (simp only [At] at hS; omega)))
                      replace hBa := hBa.upd hu29 (by first | exact (fun h => h) | exact hRa | (simp only [At]; omega))
                      replace hRw : ∀ k, Grow _ w5 w29 k → w.heap.size ≤ k := fun k hk => hk.elim (hRw k) (fun h => by omega)
                      replace hRl : ∀ k, Grow _ w5 w29 k → k < w29.heap.size := fun k hk => hk.elim (fun h => by have := hRl k h; omega) (fun h => h.2)
                      replace hRg : ¬ Grow _ w5 w29 w2.heap.size := fun h => h.elim hRg (fun h => by omega)
                      replace hRa : ¬ Grow _ w5 w29 w'.heap.size := fun h => h.elim hRa (fun h => by omega)
                      replace hFS : ∀ k, FS k → (¬ Grow _ w5 w29 k) ∧ k ≠ w2.heap.size ∧ k < w29.heap.size := fun k hk => by obtain ⟨a1, a2, a3⟩ := hFS k hk; exact ⟨fun h => h.elim a1 (fun h => by omega), a2, by omega⟩
                      replace hQ := hQ3
                      replace harm := harm3
                      refine WL.val rfl rfl rfl rfl (r_move rfl (ev_t rfl)) ?_
                      refine WL.val rfl rfl rfl rfl (r_extract rfl (ev_t rfl) rfl) ?_
                      refine WL.val rfl rfl rfl rfl (r_extract rfl (ev_t rfl) rfl) ?_
                      refine WL.val rfl rfl rfl rfl (r_assign rfl (ev_t rfl)) ?_
                      refine WL.val rfl rfl rfl rfl (r_assign rfl (ev_t rfl)) ?_
                      refine WL.nil ?_
                      refine WX.keep [(0, _), (3, _), (5, _), (6, _), (10, _), (11, _)] ⟨rfl, rfl, rfl, rfl, rfl, rfl, trivial⟩ ?_
                      refine WX.next ?_
                      refine WC.seq ?_
                      refine WC.seq ?_
                      refine WC.region ?_
                      refine WL.val rfl rfl rfl rfl (r_move rfl (ev_t rfl)) ?_
                      refine WL.val rfl rfl rfl rfl (r_neq rfl (ev_t rfl) ev_c) ?_
                      refine WL.nil ?_
                      refine WX.keep [(0, _), (3, _), (5, _), (6, _), (10, _), (84, _)] ⟨rfl, rfl, rfl, rfl, rfl, rfl, trivial⟩ ?_
                      refine WX.next ?_
                      refine WC.cond rfl (ev_t rfl) (fun hc21 => ?_) (fun hc21 => ?_)
                      · try (exfalso; first | (simp at hc21; done) | (simp only [decide_eq_true_eq, decide_eq_false_iff_not, Bool.not_eq_true', Bool.not_eq_false', Bool.not_eq_true, Bool.not_eq_false] at hc21; omega) | omega)
                        all_goals
                         try simp only [decide_eq_true_eq, decide_eq_false_iff_not, Bool.not_eq_true', Bool.not_eq_false', Bool.not_eq_true, Bool.not_eq_false, Option.isNone_none, Option.isNone_some, Option.isSome_none, Option.isSome_some, ne_eq, Decidable.not_not] at hc21
                         refine WC.seq ?_
                         refine WC.region ?_
                         refine WL.val rfl rfl rfl rfl (r_assign rfl ev_c) ?_
                         refine WL.nil ?_
                         refine WX.keep [(2, _)] ⟨rfl, trivial⟩ ?_
                         refine WX.next ?_
                         refine WC.ret ?_
                         refine WX.thenRet ?_
                         refine WX.thenRet ?_
                         refine WX.blockRet ?_
                         refine WX.thenRet ?_
                         refine WX.thenRet ?_
                         refine WX.blockRet ?_
                         refine WX.thenRet ?_
                         refine WX.retE1 rfl rfl ?_
                         exact ⟨rfl, hU⟩
                      · try (exfalso; first | (simp at hc21; done) | (simp only [decide_eq_true_eq, decide_eq_false_iff_not, Bool.not_eq_true', Bool.not_eq_false', Bool.not_eq_true, Bool.not_eq_false] at hc21; omega) | omega)
                        all_goals
                         try simp only [decide_eq_true_eq, decide_eq_false_iff_not, Bool.not_eq_true', Bool.not_eq_false', Bool.not_eq_true, Bool.not_eq_false, Option.isNone_none, Option.isNone_some, Option.isSome_none, Option.isSome_some, ne_eq, Decidable.not_not] at hc21
                         refine WC.skip ?_
                         refine WX.next ?_
                         refine WC.region ?_
                         refine WL.val rfl rfl rfl rfl (r_move rfl (ev_t rfl)) ?_
                         refine WL.val rfl rfl rfl rfl (r_assign rfl (ev_t rfl)) ?_
                         refine WL.nil ?_
                         refine WX.keep [(0, _), (3, _), (4, _), (5, _), (6, _)] ⟨rfl, rfl, rfl, rfl, rfl, trivial⟩ ?_
                         refine WX.next ?_
                         refine WC.seq ?_
                         refine WC.draws' (fun u0_ u1_ => Upd No u0_ u1_) (fun j => [0, 1, 0, 2, 0].getD j 0) (.calm 0 (.held 2 (.one 1 (.one 3 (.calm 4 (.done)))))) mixed (by kernel_rfl) (by repeat (first | with_reducible exact Deaf.body | with_reducible apply Deaf.then | with_reducible apply Deaf.block)) ?_
                         intro w30 hu30
                         have hz30 := congrArg Array.size hu30.2.2.2
                         replace hu30 := Upd.of_draw hu30
                         have hs30 := hu30.size
                         replace hU := hU.trans hu30 (by first | exact (fun _ _ h => h) | exact (fun _ _ h => h.elim) | (intro k hl hk; (try simp only [At, New, Grow, From, No] at hk ⊢); omega) | (intro k hl hk; first | (have := hRw k hk; omega) | (rcases hk with hk | hk; (have := hRw k hk; omega); omega) | (simp only [At, New, Grow, From, No] at *; omega)))
                         replace hs := hs.upd hu30 (by first | exact (fun _ _ _ h => h) | (intro k hk hl hS; simp only [At] at hS; subst hS; first | exact hRg hk | (have := hRl _ hk; omega) | (rcases hk with hk | hk; exact hRg hk; omega) | (rcases hk with hk | hk; (have := hRl _ hk; omega); omega)))
                         replace hB5 := hB5.upd hu30 (by first | exact (fun h => h) | exact hRg | (simp only [At]; omega))
                         replace hdr := hdr.upd hu30 (by first | exact (fun _ _ _ h => h) | (intro k hk hl hS; have h4 := hFS k hk; first | exact h4.1 hS | (simp only [At] at hS; omega)))
                         replace hBa := hBa.upd hu30 (by first | exact (fun h => h) | exact hRa | (simp only [At]; omega))
                         have hS24 := Upd.refl No w30
                         refine WN.calm _ rfl rfl rfl rfl rfl (fun _ => r_move rfl (ev_t rfl)) ?_
                         refine WN.held _ rfl rfl rfl rfl rfl hS24 (fun w' hS => r_loadAgg (vs := [_, _, _]) rfl (ev_t rfl) agg_50 size_50 (Blk.cellsL (hB5.upd hS (fun h => h)))) ?_
                         refine WN.step _ rfl (SO.call (snapSt hs) rfl body_30 ⟨(ev_t rfl), trivial⟩ rfl rfl rfl rfl ?_)
                         rintro v w31 ⟨As, cs, rfl, hsn, hu31⟩
                         have hs31 := hu31.size
                         replace hS24 := Upd.transA hS24 hu31
                         replace hU := hU.trans hu31 (by first | exact (fun _ _ h => h) | exact (fun _ _ h => h.elim) | (intro k hl hk; (try simp only [At, New, Grow, From, No] at hk ⊢); omega) | (intro k hl hk; first | (have := hRw k hk; omega) | (rcases hk with hk | hk; (have := hRw k hk; omega); omega) | (simp only [At, New, Grow, From, No] at *; omega)))
                         replace hs := hs.upd hu31 (by first | exact (fun _ _ _ h => h) | (intro k hk hl hS; simp only [At] at hS; subst hS; first | exact hRg hk | (have := hRl _ hk; omega) | (rcases hk with hk | hk; exact hRg hk; omega) | (rcases hk with hk | hk; (have := hRl _ hk; omega); omega)))
                         replace hB5 := hB5.upd hu31 (by first | exact (fun h => h) | exact hRg | (simp only [At]; omega))
                         replace hdr := hdr.upd hu31 (by first | exact (fun _ _ _ h => h) | (intro k hk hl hS; have h4 := hFS k hk; first | exact h4.1 hS | (simp only [At] at hS; omega)))
                         replace hBa := hBa.upd hu31 (by first | exact (fun h => h) | exact hRa | (simp only [At]; omega))
                         refine ⟨hS24, ?_⟩
                         refine WN.step _ rfl (SO.call (same_ok (hsn.rd (by have h1 := hdr.le; have h2 := hdr.lenB; omega)) hdr) rfl body_29 ⟨(ev_t rfl), (ev_t rfl), trivial⟩ rfl rfl rfl rfl ?_)
                         rintro v w32 ⟨rfl, hu32⟩
                         have hs32 := hu32.size
                         try replace hS24 := Upd.transA hS24 hu32
                         replace hU := hU.trans hu32 (by first | exact (fun _ _ h => h) | exact (fun _ _ h => h.elim) | (intro k hl hk; (try simp only [At, New, Grow, From, No] at hk ⊢); omega) | (intro k hl hk; first | (have := hRw k hk; omega) | (rcases hk with hk | hk; (have := hRw k hk; omega); omega) | (simp only [At, New, Grow, From, No] at *; omega)))
                         replace hs := hs.upd hu32 (by first | exact (fun _ _ _ h => h) | (intro k hk hl hS; simp only [At] at hS; subst hS; first | exact hRg hk | (have := hRl _ hk; omega) | (rcases hk with hk | hk; exact hRg hk; omega) | (rcases hk with hk | hk; (have := hRl _ hk; omega); omega)))
                         replace hB5 := hB5.upd hu32 (by first | exact (fun h => h) | exact hRg | (simp only [At]; omega))
                         replace hdr := hdr.upd hu32 (by first | exact (fun _ _ _ h => h) | (intro k hk hl hS; have h4 := hFS k hk; first | exact h4.1 hS | (simp only [At] at hS; omega)))
                         replace hBa := hBa.upd hu32 (by first | exact (fun h => h) | exact hRa | (simp only [At]; omega))
                         replace hsn := hsn.upd hu32 (fun _ _ _ h => h)
                         refine ⟨trivial, ?_⟩
                         refine WN.calm _ rfl rfl rfl rfl rfl (fun _ => r_not rfl (ev_t rfl)) ?_
                         refine WN.done ?_
                         refine WX.keep [(0, _), (3, _), (4, _), (5, _), (6, _), (90, _)] ⟨rfl, rfl, rfl, rfl, rfl, rfl, trivial⟩ ?_
                         refine WX.next ?_
                         refine WC.cond rfl (ev_t rfl) (fun hc24 => ?_) (fun hc24 => ?_)
                         · try simp only [decide_eq_true_eq, decide_eq_false_iff_not, Bool.not_eq_true', Bool.not_eq_false', Bool.not_eq_true, Bool.not_eq_false, Option.isNone_none, Option.isNone_some, Option.isSome_none, Option.isSome_some, ne_eq, Decidable.not_not] at hc24
                           exfalso
                           simp at hc24
                         · try (exfalso; first | (simp at hc24; done) | (simp only [decide_eq_true_eq, decide_eq_false_iff_not, Bool.not_eq_true', Bool.not_eq_false', Bool.not_eq_true, Bool.not_eq_false] at hc24; omega) | omega)
                           all_goals
                            try simp only [decide_eq_true_eq, decide_eq_false_iff_not, Bool.not_eq_true', Bool.not_eq_false', Bool.not_eq_true, Bool.not_eq_false, Option.isNone_none, Option.isNone_some, Option.isSome_none, Option.isSome_some, ne_eq, Decidable.not_not] at hc24
                            refine WC.skip ?_
                            refine WX.blockNormal ?_
                            refine WX.next ?_
                            refine WC.region ?_
                            refine WL.val rfl rfl rfl rfl (r_move rfl (ev_t rfl)) ?_
                            first | refine WL.val rfl rfl rfl rfl (r_addN rfl (ev_t rfl) ev_c (by simp only [inK]; omega)) ?_ | refine WL.val rfl rfl rfl rfl (r_add rfl (ev_t rfl) ev_c) ?_
                            refine WL.val rfl rfl rfl rfl (r_assign rfl (ev_t rfl)) ?_
                            refine WL.nil ?_
                            refine WX.keep [(0, _), (3, _), (4, _), (5, _), (6, _)] ⟨rfl, rfl, rfl, rfl, rfl, trivial⟩ ?_
                            refine WX.meet [(0, _), (3, _), (4, _), (5, _), (6, _)] ⟨rfl, rfl, rfl, rfl, rfl, trivial⟩ ?_
                            exact ⟨l.length - (i + 1), by omega, i + 1, _, _, _, _, _, _, _, _, by omega, rfl, hU, by omega, hQ, harm, hs, hRw, (fun k hk => by have := hRl k hk; omega), hRg, hB5, hdr, (fun k hk => by obtain ⟨a1, a2, a3⟩ := hFS k hk; exact ⟨a1, a2, by omega⟩), rfl⟩
          · try (exfalso; first | (simp at hc6; done) | (simp only [decide_eq_true_eq, decide_eq_false_iff_not, Bool.not_eq_true', Bool.not_eq_false', Bool.not_eq_true, Bool.not_eq_false] at hc6; omega) | omega)
            all_goals
             try simp only [decide_eq_true_eq, decide_eq_false_iff_not, Bool.not_eq_true', Bool.not_eq_false', Bool.not_eq_true, Bool.not_eq_false, Option.isNone_none, Option.isNone_some, Option.isSome_none, Option.isSome_some, ne_eq, Decidable.not_not] at hc6
             refine WC.exit ?_
             refine WX.thenExit ?_
             refine WX.thenExit ?_
             refine WX.blockHere ?_
             refine WX.next ?_
             refine WC.seq ?_
             refine WC.region ?_
             refine WL.val rfl rfl rfl rfl (r_move rfl (ev_t rfl)) ?_
             refine WL.val rfl rfl rfl rfl (r_neqPtrNil rfl (ev_t rfl) ev_c ptr_44) ?_
             refine WL.val rfl rfl rfl rfl (r_assign rfl (ev_t rfl)) ?_
             refine WL.nil ?_
             refine WX.keep [(2, _)] ⟨rfl, trivial⟩ ?_
             refine WX.next ?_
             refine WC.ret ?_
             refine WX.retE1 rfl rfl ?_
             exact ⟨rfl, hU⟩
       · try (exfalso; first | (simp at hb6_4; done) | (simp only [decide_eq_true_eq, decide_eq_false_iff_not, Bool.not_eq_true', Bool.not_eq_false', Bool.not_eq_true, Bool.not_eq_false] at hb6_4; omega) | omega)
         all_goals
          try simp only [decide_eq_true_eq, decide_eq_false_iff_not, Bool.not_eq_true', Bool.not_eq_false', Bool.not_eq_true, Bool.not_eq_false, Option.isNone_none, Option.isNone_some, Option.isSome_none, Option.isSome_some, ne_eq, Decidable.not_not] at hb6_4
          refine WL.skip rfl rfl rfl ?_
          refine WL.skip rfl rfl rfl ?_
          refine WL.val rfl rfl rfl rfl (r_pickF rfl (ev_t rfl) ev_c) ?_
          refine WL.nil ?_
          refine WX.keep [(0, _), (3, _), (4, _), (5, _), (6, _), (25, _)] ⟨rfl, rfl, rfl, rfl, rfl, rfl, trivial⟩ ?_
          refine WX.next ?_
          refine WC.cond_false rfl (ev_t rfl) ?_
          refine WC.exit ?_
          refine WX.thenExit ?_
          refine WX.thenExit ?_
          refine WX.blockHere ?_
          refine WX.next ?_
          refine WC.seq ?_
          refine WC.region ?_
          refine WL.val rfl rfl rfl rfl (r_move rfl (ev_t rfl)) ?_
          refine WL.val rfl rfl rfl rfl (r_neqPtrNil rfl (ev_t rfl) ev_c ptr_44) ?_
          refine WL.val rfl rfl rfl rfl (r_assign rfl (ev_t rfl)) ?_
          refine WL.nil ?_
          refine WX.keep [(2, _)] ⟨rfl, trivial⟩ ?_
          refine WX.next ?_
          refine WC.ret ?_
          refine WX.retE1 rfl rfl ?_
          exact ⟨rfl, hU⟩
end Go.Proofs.Ytejlmcdmoghmaaa
