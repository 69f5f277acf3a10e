/-
  Load of good words.
-/
import Derived.Test.YtdpnnclkkbfihaaDoorHevb
namespace Go.Proofs.YtdpnnclkkbfihaaDoor
open Go
set_option linter.unusedSimpArgs false
set_option linter.unusedVariables false

set_option maxHeartbeats 4000000 in
theorem load_ok {w : World} {F : Nat → Prop} {v : Value} {l st : List Nat} (hr : Rd w F v l.length 1 (l.map Wd)) (hn : l.length ≤ 5000) (hF : ∀ k, F k → k < w.heap.size) (hg : GoodH l st) :
    Ret Tryd.prog 26 #[.int .i64 5000, v] w fun v' w' => ∃ G p A c, v' = .tuple #[.pointer (some ⟨p, 0, none⟩), .int .i64 0] ∧ HS w' G p A c l 5000 0 ∧ w.heap.size ≤ p ∧ (∀ k, G k → w.heap.size ≤ k) ∧ Upd No w w' := by
  have hw := hg.vd.w64
  have hTl := hg.vd.tile
  obtain ⟨A, c, rfl, hc⟩ := hr.slice_form
  generalize hB : w.heap.size = B at *
  refine enterRet (vs := [_, _]) (N := 139) Tryd.func26 rfl rfl rfl ?_
  have hU := Upd.refl No w
  refine WC.keep [(0, _), (1, _)] ⟨rfl, rfl, trivial⟩ ?_
  refine WC.seq ?_
  refine WC.region ?_
  refine WL.val rfl rfl rfl rfl (r_assign rfl ev_c) ?_
  refine WL.val rfl rfl rfl rfl (r_assign rfl ev_c) ?_
  refine WL.nil ?_
  refine WX.keep [(0, _), (1, _)] ⟨rfl, rfl, trivial⟩ ?_
  refine WX.next ?_
  refine WC.seq ?_
  refine WC.region ?_
  refine WL.val rfl rfl rfl rfl (r_move rfl (ev_t rfl)) ?_
  refine WL.cons (SO.call (new_ok (q := 5000) (by simp only [inK]; omega)) rfl body_11 ⟨(ev_t rfl), trivial⟩ rfl rfl rfl rfl ?_)
  rintro v w1 ⟨-, h2, hu1⟩
  obtain ⟨rfl, hb⟩ := h2 (by omega)
  obtain ⟨p, hp⟩ : ∃ p, p = w.heap.size := ⟨_, rfl⟩
  rw [← hp] at hb ⊢
  have hpl := hb.lt
  have hs1 := hu1.size
  replace hU := hU.trans hu1 (by first | exact (fun _ _ h => h) | exact (fun _ _ h => h.elim) | (intro k hl hk; (try simp only [At, New, Grow, From, No] at hk ⊢); omega) | (intro k hl hk; first | exact (show False from hk).elim | (simp only [At] at hk; omega) | (have h2 := hk.1; omega)))
  replace hr := hr.upd hu1 (fun k hk hl hS => by have h1 := hF k hk; first | exact (show False from hS).elim | (simp only [At] at hS; omega))
  refine WL.val rfl rfl rfl rfl (r_move rfl (ev_t rfl)) ?_
  refine WL.val rfl rfl rfl rfl (r_extract rfl (ev_t rfl) rfl) ?_
  refine WL.val rfl rfl rfl rfl (r_extract rfl (ev_t rfl) rfl) ?_
  refine WL.val rfl rfl rfl rfl (r_assign rfl (ev_t rfl)) ?_
  refine WL.val rfl rfl rfl rfl (r_assign rfl (ev_t rfl)) ?_
  refine WL.nil ?_
  refine WX.keep [(0, _), (1, _), (6, _), (7, _)] ⟨rfl, rfl, rfl, rfl, trivial⟩ ?_
  refine WX.next ?_
  refine WC.seq ?_
  refine WC.seq ?_
  refine WC.region ?_
  refine WL.val rfl rfl rfl rfl (r_move rfl (ev_t rfl)) ?_
  refine WL.val rfl rfl rfl rfl (r_neq rfl (ev_t rfl) ev_c) ?_
  refine WL.nil ?_
  refine WX.keep [(0, _), (1, _), (6, _), (7, _), (21, _)] ⟨rfl, rfl, rfl, rfl, rfl, trivial⟩ ?_
  refine WX.next ?_
  refine WC.cond rfl (ev_t rfl) (fun hc2 => ?_) (fun hc2 => ?_)
  · try (exfalso; first | (simp at hc2; done) | (simp only [decide_eq_true_eq, decide_eq_false_iff_not, Bool.not_eq_true', Bool.not_eq_false', Bool.not_eq_true, Bool.not_eq_false] at hc2; omega) | omega)
    all_goals
     try simp only [decide_eq_true_eq, decide_eq_false_iff_not, Bool.not_eq_true', Bool.not_eq_false', Bool.not_eq_true, Bool.not_eq_false, Option.isNone_none, Option.isNone_some, Option.isSome_none, Option.isSome_some, ne_eq, Decidable.not_not] at hc2
     refine WC.seq ?_
     refine WC.region ?_
     refine WL.val rfl rfl rfl rfl (r_move rfl (ev_t rfl)) ?_
     refine WL.val rfl rfl rfl rfl (r_assign rfl ev_c) ?_
     refine WL.val rfl rfl rfl rfl (r_assign rfl (ev_t rfl)) ?_
     refine WL.nil ?_
     refine WX.keep [(4, _), (5, _)] ⟨rfl, rfl, trivial⟩ ?_
     refine WX.next ?_
     refine WC.ret ?_
     refine WX.thenRet ?_
     refine WX.retE2 rfl rfl rfl ?_
     fail
  · try (exfalso; first | (simp at hc2; done) | (simp only [decide_eq_true_eq, decide_eq_false_iff_not, Bool.not_eq_true', Bool.not_eq_false', Bool.not_eq_true, Bool.not_eq_false] at hc2; omega) | omega)
    all_goals
     try simp only [decide_eq_true_eq, decide_eq_false_iff_not, Bool.not_eq_true', Bool.not_eq_false', Bool.not_eq_true, Bool.not_eq_false, Option.isNone_none, Option.isNone_some, Option.isSome_none, Option.isSome_some, ne_eq, Decidable.not_not] at hc2
     refine WC.skip ?_
     refine WX.next ?_
     refine WC.seq ?_
     refine WC.seq ?_
     refine WC.region ?_
     refine WL.val rfl rfl rfl rfl (r_move rfl (ev_t rfl)) ?_
     refine WL.val rfl rfl rfl rfl (r_lenSlice (ts := #[]) rfl (ev_t rfl) elem_30) ?_
     refine WL.val rfl rfl rfl rfl (r_move rfl (ev_t rfl)) ?_
     refine WL.val rfl rfl rfl rfl (r_gtr rfl (ev_t rfl) (ev_t rfl)) ?_
     refine WL.nil ?_
     refine WX.keep [(1, _), (6, _), (26, _)] ⟨rfl, rfl, rfl, trivial⟩ ?_
     refine WX.next ?_
     refine WC.cond rfl (ev_t rfl) (fun hc4 => ?_) (fun hc4 => ?_)
     · try (exfalso; first | (simp at hc4; done) | (simp only [decide_eq_true_eq, decide_eq_false_iff_not, Bool.not_eq_true', Bool.not_eq_false', Bool.not_eq_true, Bool.not_eq_false] at hc4; omega) | omega)
       all_goals
        try simp only [decide_eq_true_eq, decide_eq_false_iff_not, Bool.not_eq_true', Bool.not_eq_false', Bool.not_eq_true, Bool.not_eq_false, Option.isNone_none, Option.isNone_some, Option.isSome_none, Option.isSome_some, ne_eq, Decidable.not_not] at hc4
        refine WC.seq ?_
        refine WC.region ?_
        refine WL.val rfl rfl rfl rfl (r_assign rfl ev_c) ?_
        refine WL.val rfl rfl rfl rfl (r_assign rfl ev_c) ?_
        refine WL.nil ?_
        refine WX.keep [(4, _), (5, _)] ⟨rfl, rfl, trivial⟩ ?_
        refine WX.next ?_
        refine WC.ret ?_
        refine WX.thenRet ?_
        refine WX.retE2 rfl rfl rfl ?_
        fail
     · try (exfalso; first | (simp at hc4; done) | (simp only [decide_eq_true_eq, decide_eq_false_iff_not, Bool.not_eq_true', Bool.not_eq_false', Bool.not_eq_true, Bool.not_eq_false] at hc4; omega) | omega)
       all_goals
        try simp only [decide_eq_true_eq, decide_eq_false_iff_not, Bool.not_eq_true', Bool.not_eq_false', Bool.not_eq_true, Bool.not_eq_false, Option.isNone_none, Option.isNone_some, Option.isSome_none, Option.isSome_some, ne_eq, Decidable.not_not] at hc4
        refine WC.skip ?_
        refine WX.next ?_
        refine WC.seq ?_
        refine WC.region ?_
        refine WL.val rfl rfl rfl rfl (r_move rfl (ev_t rfl)) ?_
        refine WL.val rfl rfl rfl rfl (r_lenSlice (ts := #[]) rfl (ev_t rfl) elem_30) ?_
        refine WL.cons (SO.alloc rfl rfl rfl rfl (r_makeSlice (n := l.length) rfl (ev_t rfl) (ev_t rfl) row_93 (by omega) (by omega)) ?_)
        intro w2 hu2 hfl hzm
        obtain ⟨bF, hbF⟩ : ∃ g, g = w1.heap.size := ⟨_, rfl⟩
        rw [← hbF] at hfl ⊢
        rw [flRow_new] at hfl
        have hs2 := hu2.size
        replace hU := hU.trans hu2 (by first | exact (fun _ _ h => h) | exact (fun _ _ h => h.elim) | (intro k hl hk; (try simp only [At, New, Grow, From, No] at hk ⊢); omega) | (intro k hl hk; first | exact (show False from hk).elim | (simp only [At] at hk; omega) | (have h2 := hk.1; omega)))
        replace hr := hr.upd hu2 (fun k hk hl hS => by have h1 := hF k hk; first | exact (show False from hS).elim | (simp only [At] at hS; omega))
        replace hb := hb.upd hu2 (fun hS => by first | exact (show False from hS) | (simp only [At] at hS; omega))
        have hBp : B ≤ p ∧ p < bF := by omega
        refine WL.val rfl rfl rfl rfl (r_assign rfl (ev_t rfl)) ?_
        refine WL.nil ?_
        refine WX.keep [(1, _), (6, _), (8, _)] ⟨rfl, rfl, rfl, trivial⟩ ?_
        refine WX.next ?_
        refine WC.seq ?_
        refine WC.seq ?_
        refine WC.region ?_
        refine WL.val rfl rfl rfl rfl (r_assign rfl ev_c) ?_
        refine WL.nil ?_
        refine WX.keep [(1, _), (6, _), (8, _), (9, _)] ⟨rfl, rfl, rfl, rfl, trivial⟩ ?_
        refine WX.next ?_
        refine WC.block ?_
        -- loop 1: live [1, 6, 8, 9]
        refine WC.keep [(1, _), (6, _), (8, _), (9, _)] ⟨rfl, rfl, rfl, rfl, trivial⟩ ?_
        refine WC.loop (fun qq E wC => ∃ (m k : Nat) (fl : List Bool), m ≤ l.length ∧ qq = l.length - m ∧ Tile l m (st.drop k) ∧ k ≤ st.length ∧ FL l (st.take k) fl ∧ Upd No w wC ∧ Rd wC F (.slice A l.length c) l.length 1 (l.map Wd) ∧ Blk wC p #[.slice none 0 0, .int .i64 5000, .int .i64 0] 79 ∧ Blk wC bF (fl.map Value.bool).toArray 4 ∧ E = [(1, .slice A l.length c), (6, .pointer (some ⟨p, 0, none⟩)), (8, .slice (some ⟨bF, 0, none⟩) l.length l.length), (9, .int .i64 (m : Int))]) (l.length) ?_ ?_
        · exact ⟨0, 0, _, by omega, by omega, hTl, by omega, FL.zero l, hU, hr, hb, hfl, rfl⟩
        · clear hU hr hb hfl
          rintro qq E wC ⟨m, k, fl, hm, rfl, hTm, hkl, hFL, hU, hr, hb, hfl, rfl⟩
          have hUs := hU.size
          have hbl := hfl.lt
          refine WC.seq ?_
          refine WC.seq ?_
          refine WC.region ?_
          refine WL.val rfl rfl rfl rfl (r_move rfl (ev_t rfl)) ?_
          refine WL.val rfl rfl rfl rfl (r_move rfl (ev_t rfl)) ?_
          refine WL.val rfl rfl rfl rfl (r_lenSlice (ts := #[]) rfl (ev_t rfl) elem_30) ?_
          refine WL.val rfl rfl rfl rfl (r_lss rfl (ev_t rfl) (ev_t rfl)) ?_
          refine WL.nil ?_
          refine WX.keep [(1, _), (6, _), (8, _), (9, _), (33, _)] ⟨rfl, rfl, rfl, rfl, rfl, trivial⟩ ?_
          refine WX.next ?_
          refine WC.cond rfl (ev_t rfl) (fun hc8 => ?_) (fun hc8 => ?_)
          · try (exfalso; first | (simp at hc8; done) | (simp only [decide_eq_true_eq, decide_eq_false_iff_not, Bool.not_eq_true', Bool.not_eq_false', Bool.not_eq_true, Bool.not_eq_false] at hc8; omega) | omega)
            all_goals
             try simp only [decide_eq_true_eq, decide_eq_false_iff_not, Bool.not_eq_true', Bool.not_eq_false', Bool.not_eq_true, Bool.not_eq_false, Option.isNone_none, Option.isNone_some, Option.isSome_none, Option.isSome_some, ne_eq, Decidable.not_not] at hc8
             have hml : m < l.length := by omega
             obtain ⟨rest, hdr, g1, hTn⟩ := hTm.head_ hml
             have hk : st[k]? = some m := by rw [← List.head?_drop, hdr]; rfl
             have hkl2 := (List.getElem?_eq_some_iff.1 hk).1
             have hdr2 : st.drop (k + 1) = rest := by rw [← List.tail_drop, hdr]; rfl
             have hms : m ∈ st := List.mem_of_getElem? hk
             obtain ⟨g2, g3⟩ := hg.kd m hms
             have g4 := hg.n8 hms
             have hgx := getD_lt hml
             have hx64 := hw _ (List.mem_of_getElem? hgx)
             have hsz : szAt l m = szO (l.getD m 0) := rfl
             have hszp := szAt_pos l m
             obtain ⟨b0, off, rfl, _⟩ := hr.open (by omega)
             generalize hxx : l.getD m 0 = x at *
             refine WC.skip ?_
             refine WX.next ?_
             refine WC.block ?_
             refine WC.seq ?_
             refine WC.region ?_
             refine WL.val rfl rfl rfl rfl (r_move rfl (ev_t rfl)) ?_
             refine WL.val rfl rfl rfl rfl (r_move rfl (ev_t rfl)) ?_
             refine WL.val rfl rfl rfl rfl (r_indexAddr rfl (ev_t rfl) (ev_t rfl) elem_30 size_32 (by omega) (by omega)) ?_
             refine WL.val rfl rfl rfl rfl (r_load rfl (ev_t rfl) flat_32 (hr.cell (j := m) (u := Wd x) (show off + (m : Int).toNat * 1 = off + m by omega) (by rw [List.getElem?_map, hgx]; rfl))) ?_
             first | refine WL.val rfl rfl rfl rfl (r_convN rfl (ev_t rfl) some_32 int_5 (by simp only [inK]; omega)) ?_ | refine WL.val rfl rfl rfl rfl (r_conv rfl (ev_t rfl) some_32 int_5) ?_
             rw [hd_k]
             refine WL.val rfl rfl rfl rfl (r_assign rfl (ev_t rfl)) ?_
             refine WL.nil ?_
             refine WX.keep [(1, _), (6, _), (8, _), (9, _), (10, _)] ⟨rfl, rfl, rfl, rfl, rfl, trivial⟩ ?_
             refine WX.next ?_
             refine WC.seq ?_
             refine WC.region ?_
             refine WL.val rfl rfl rfl rfl (r_move rfl (ev_t rfl)) ?_
             refine WL.val rfl rfl rfl rfl (r_move rfl (ev_t rfl)) ?_
             refine WL.val rfl rfl rfl rfl (r_indexAddr rfl (ev_t rfl) (ev_t rfl) elem_30 size_32 (by omega) (by omega)) ?_
             refine WL.val rfl rfl rfl rfl (r_load rfl (ev_t rfl) flat_32 (hr.cell (j := m) (u := Wd x) (show off + (m : Int).toNat * 1 = off + m by omega) (by rw [List.getElem?_map, hgx]; rfl))) ?_
             refine WL.val rfl rfl rfl rfl (r_shr rfl (ev_t rfl) ev_c (by omega) (by simp only [IntKind.bits]; omega)) ?_
             rw [hd_u (x := x)]
             refine WL.val rfl rfl rfl rfl (r_assign rfl (ev_t rfl)) ?_
             refine WL.nil ?_
             refine WX.keep [(1, _), (6, _), (8, _), (9, _), (10, _), (11, _)] ⟨rfl, rfl, rfl, rfl, rfl, rfl, trivial⟩ ?_
             refine WX.next ?_
             refine WC.seq ?_
             refine WC.seq ?_
             refine WC.region ?_
             refine WL.val rfl rfl rfl rfl (r_move rfl (ev_t rfl)) ?_
             refine WL.val rfl rfl rfl rfl (r_lss rfl (ev_t rfl) ev_c) ?_
             refine WL.val rfl rfl rfl rfl (r_move rfl (ev_t rfl)) ?_
             refine WL.cases 46 rfl (fun hb11_2 => ?_) (fun hb11_2 => ?_)
             · try simp only [decide_eq_true_eq, decide_eq_false_iff_not, Bool.not_eq_true', Bool.not_eq_false', Bool.not_eq_true, Bool.not_eq_false, Option.isNone_none, Option.isNone_some, Option.isSome_none, Option.isSome_some, ne_eq, Decidable.not_not] at hb11_2
               exfalso
               omega
             · try (exfalso; first | (simp at hb11_2; done) | (simp only [decide_eq_true_eq, decide_eq_false_iff_not, Bool.not_eq_true', Bool.not_eq_false', Bool.not_eq_true, Bool.not_eq_false] at hb11_2; omega) | omega)
               all_goals
                try simp only [decide_eq_true_eq, decide_eq_false_iff_not, Bool.not_eq_true', Bool.not_eq_false', Bool.not_eq_true, Bool.not_eq_false, Option.isNone_none, Option.isNone_some, Option.isSome_none, Option.isSome_some, ne_eq, Decidable.not_not] at hb11_2
                refine WL.val rfl rfl rfl rfl (r_move rfl (ev_t rfl)) ?_
                refine WL.val rfl rfl rfl rfl (r_gtr rfl (ev_t rfl) ev_c) ?_
                refine WL.val rfl rfl rfl rfl (r_pickF rfl (ev_t rfl) (ev_t rfl)) ?_
                refine WL.val rfl rfl rfl rfl (r_move rfl (ev_t rfl)) ?_
                refine WL.cases 50 rfl (fun hb11_6 => ?_) (fun hb11_6 => ?_)
                · try simp only [decide_eq_true_eq, decide_eq_false_iff_not, Bool.not_eq_true', Bool.not_eq_false', Bool.not_eq_true, Bool.not_eq_false, Option.isNone_none, Option.isNone_some, Option.isSome_none, Option.isSome_some, ne_eq, Decidable.not_not] at hb11_6
                  exfalso
                  omega
                · try (exfalso; first | (simp at hb11_6; done) | (simp only [decide_eq_true_eq, decide_eq_false_iff_not, Bool.not_eq_true', Bool.not_eq_false', Bool.not_eq_true, Bool.not_eq_false] at hb11_6; omega) | omega)
                  all_goals
                   try simp only [decide_eq_true_eq, decide_eq_false_iff_not, Bool.not_eq_true', Bool.not_eq_false', Bool.not_eq_true, Bool.not_eq_false, Option.isNone_none, Option.isNone_some, Option.isSome_none, Option.isSome_some, ne_eq, Decidable.not_not] at hb11_6
                   refine WL.val rfl rfl rfl rfl (r_move rfl (ev_t rfl)) ?_
                   refine WL.val rfl rfl rfl rfl (r_move rfl (ev_t rfl)) ?_
                   refine WL.val rfl rfl rfl rfl (r_lenSlice (ts := #[]) rfl (ev_t rfl) elem_30) ?_
                   first | refine WL.val rfl rfl rfl rfl (r_mulN rfl ev_c (ev_t rfl) (by simp only [inK]; omega)) ?_ | refine WL.val rfl rfl rfl rfl (r_mul rfl ev_c (ev_t rfl)) ?_
                   first | refine WL.val rfl rfl rfl rfl (r_convN rfl (ev_t rfl) some_3 int_32 (by simp only [inK]; omega)) ?_ | refine WL.val rfl rfl rfl rfl (r_conv rfl (ev_t rfl) some_3 int_32) ?_
                   refine WL.val rfl rfl rfl rfl (r_gtr rfl (ev_t rfl) (ev_t rfl)) ?_
                   refine WL.val rfl rfl rfl rfl (r_pickF rfl (ev_t rfl) (ev_t rfl)) ?_
                   refine WL.val rfl rfl rfl rfl (r_move rfl (ev_t rfl)) ?_
                   refine WL.cases 58 rfl (fun hb11_14 => ?_) (fun hb11_14 => ?_)
                   · try simp only [decide_eq_true_eq, decide_eq_false_iff_not, Bool.not_eq_true', Bool.not_eq_false', Bool.not_eq_true, Bool.not_eq_false, Option.isNone_none, Option.isNone_some, Option.isSome_none, Option.isSome_some, ne_eq, Decidable.not_not] at hb11_14
                     exfalso
                     omega
                   · try (exfalso; first | (simp at hb11_14; done) | (simp only [decide_eq_true_eq, decide_eq_false_iff_not, Bool.not_eq_true', Bool.not_eq_false', Bool.not_eq_true, Bool.not_eq_false] at hb11_14; omega) | omega)
                     all_goals
                      try simp only [decide_eq_true_eq, decide_eq_false_iff_not, Bool.not_eq_true', Bool.not_eq_false', Bool.not_eq_true, Bool.not_eq_false, Option.isNone_none, Option.isNone_some, Option.isSome_none, Option.isSome_some, ne_eq, Decidable.not_not] at hb11_14
                      refine WL.val rfl rfl rfl rfl (r_move rfl (ev_t rfl)) ?_
                      refine WL.val rfl rfl rfl rfl (r_move rfl (ev_t rfl)) ?_
                      refine WL.cons (SO.call (size_ok hr hgx hx64) rfl body_44 ⟨(ev_t rfl), (ev_t rfl), trivial⟩ rfl rfl rfl rfl ?_)
                      rintro v w3 ⟨rfl, hu3⟩
                      have hs3 := hu3.size
                      replace hU := hU.trans hu3 (by first | exact (fun _ _ h => h) | exact (fun _ _ h => h.elim) | (intro k hl hk; (try simp only [At, New, Grow, From, No] at hk ⊢); omega) | (intro k hl hk; first | exact (show False from hk).elim | (simp only [At] at hk; omega) | (have h2 := hk.1; omega)))
                      replace hr := hr.upd hu3 (fun k hk hl hS => by have h1 := hF k hk; first | exact (show False from hS).elim | (simp only [At] at hS; omega))
                      replace hb := hb.upd hu3 (fun hS => by first | exact (show False from hS) | (simp only [At] at hS; omega))
                      replace hfl := hfl.upd hu3 (fun hS => by first | exact (show False from hS) | (simp only [At] at hS; omega))
                      refine WL.val rfl rfl rfl rfl (r_move rfl (ev_t rfl)) ?_
                      refine WL.val rfl rfl rfl rfl (r_lenSlice (ts := #[]) rfl (ev_t rfl) elem_30) ?_
                      refine WL.val rfl rfl rfl rfl (r_move rfl (ev_t rfl)) ?_
                      first | refine WL.val rfl rfl rfl rfl (r_subN rfl (ev_t rfl) (ev_t rfl) (by simp only [inK]; omega)) ?_ | refine WL.val rfl rfl rfl rfl (r_sub rfl (ev_t rfl) (ev_t rfl)) ?_
                      refine WL.val rfl rfl rfl rfl (r_gtr rfl (ev_t rfl) (ev_t rfl)) ?_
                      refine WL.val rfl rfl rfl rfl (r_pickF rfl (ev_t rfl) (ev_t rfl)) ?_
                      refine WL.nil ?_
                      refine WX.keep [(1, _), (6, _), (8, _), (9, _), (67, _)] ⟨rfl, rfl, rfl, rfl, rfl, trivial⟩ ?_
                      refine WX.next ?_
                      refine WC.cond rfl (ev_t rfl) (fun hc11 => ?_) (fun hc11 => ?_)
                      · try simp only [decide_eq_true_eq, decide_eq_false_iff_not, Bool.not_eq_true', Bool.not_eq_false', Bool.not_eq_true, Bool.not_eq_false, Option.isNone_none, Option.isNone_some, Option.isSome_none, Option.isSome_some, ne_eq, Decidable.not_not] at hc11
                        exfalso
                        omega
                      · try (exfalso; first | (simp at hc11; done) | (simp only [decide_eq_true_eq, decide_eq_false_iff_not, Bool.not_eq_true', Bool.not_eq_false', Bool.not_eq_true, Bool.not_eq_false] at hc11; omega) | omega)
                        all_goals
                         try simp only [decide_eq_true_eq, decide_eq_false_iff_not, Bool.not_eq_true', Bool.not_eq_false', Bool.not_eq_true, Bool.not_eq_false, Option.isNone_none, Option.isNone_some, Option.isSome_none, Option.isSome_some, ne_eq, Decidable.not_not] at hc11
                         refine WC.skip ?_
                         refine WX.next ?_
                         refine WC.seq ?_
                         refine WC.region ?_
                         refine WL.val rfl rfl rfl rfl (r_move rfl (ev_t rfl)) ?_
                         refine WL.val rfl rfl rfl rfl (r_move rfl (ev_t rfl)) ?_
                         refine WL.val rfl rfl rfl rfl (r_indexAddr rfl (ev_t rfl) (ev_t rfl) elem_93 size_4 (by omega) (by omega)) ?_
                         refine WL.cons (SO.store rfl (ev_t rfl) ev_c size_4 hfl (by rw [Nat.blt_eq]; simp [hFL.1]; omega) rfl rfl rfl rfl ?_)
                         intro w4 hu4 hfl2 hz3
                         rw [show 0 + (m : Int).toNat * 1 = m by omega, flRow_set] at hfl2
                         have hs4 := hu4.size
                         replace hU := hU.trans hu4 (by first | exact (fun _ _ h => h) | exact (fun _ _ h => h.elim) | (intro k hl hk; (try simp only [At, New, Grow, From, No] at hk ⊢); omega) | (intro k hl hk; first | exact (show False from hk).elim | (simp only [At] at hk; omega) | (have h2 := hk.1; omega)))
                         replace hr := hr.upd hu4 (fun k hk hl hS => by have h1 := hF k hk; first | exact (show False from hS).elim | (simp only [At] at hS; omega))
                         replace hb := hb.upd hu4 (fun hS => by first | exact (show False from hS) | (simp only [At] at hS; omega))
                         have hfl := hfl2
                         refine WL.nil ?_
                         refine WX.keep [(1, _), (6, _), (8, _), (9, _)] ⟨rfl, rfl, rfl, rfl, trivial⟩ ?_
                         refine WX.next ?_
                         refine WC.region ?_
                         refine WL.val rfl rfl rfl rfl (r_move rfl (ev_t rfl)) ?_
                         refine WL.val rfl rfl rfl rfl (r_move rfl (ev_t rfl)) ?_
                         refine WL.val rfl rfl rfl rfl (r_move rfl (ev_t rfl)) ?_
                         refine WL.cons (SO.call (size_ok hr hgx hx64) rfl body_44 ⟨(ev_t rfl), (ev_t rfl), trivial⟩ rfl rfl rfl rfl ?_)
                         rintro v w5 ⟨rfl, hu5⟩
                         have hs5 := hu5.size
                         replace hU := hU.trans hu5 (by first | exact (fun _ _ h => h) | exact (fun _ _ h => h.elim) | (intro k hl hk; (try simp only [At, New, Grow, From, No] at hk ⊢); omega) | (intro k hl hk; first | exact (show False from hk).elim | (simp only [At] at hk; omega) | (have h2 := hk.1; omega)))
                         replace hr := hr.upd hu5 (fun k hk hl hS => by have h1 := hF k hk; first | exact (show False from hS).elim | (simp only [At] at hS; omega))
                         replace hb := hb.upd hu5 (fun hS => by first | exact (show False from hS) | (simp only [At] at hS; omega))
                         replace hfl := hfl.upd hu5 (fun hS => by first | exact (show False from hS) | (simp only [At] at hS; omega))
                         first | refine WL.val rfl rfl rfl rfl (r_addN rfl (ev_t rfl) (ev_t rfl) (by simp only [inK]; omega)) ?_ | refine WL.val rfl rfl rfl rfl (r_add rfl (ev_t rfl) (ev_t rfl)) ?_
                         refine WL.val rfl rfl rfl rfl (r_assign rfl (ev_t rfl)) ?_
                         refine WL.nil ?_
                         refine WX.keep [(1, _), (6, _), (8, _), (9, _)] ⟨rfl, rfl, rfl, rfl, trivial⟩ ?_
                         refine WX.blockNormal ?_
                         refine WX.meet [(1, _), (6, _), (8, _), (9, _)] ⟨rfl, rfl, rfl, rfl, trivial⟩ ?_
                         have ew : IntKind.i64.wrap ((m : Int) + ((szO x : Nat) : Int)) = ((m + szAt l m : Nat) : Int) := by rw [wrap_i64_in (by omega) (by omega)]; omega
                         refine ⟨l.length - (m + szAt l m), by omega, m + szAt l m, k + 1, _, by omega, rfl, by rw [hdr2]; exact hTn, hkl2, by rw [take_get hk]; exact hFL.snoc hml, hU, hr, hb, hfl, ?_⟩
                         first
                           | rw [ew]
                           | (rw [hsz]; rfl)
                           | trace_state
          · try (exfalso; first | (simp at hc8; done) | (simp only [decide_eq_true_eq, decide_eq_false_iff_not, Bool.not_eq_true', Bool.not_eq_false', Bool.not_eq_true, Bool.not_eq_false] at hc8; omega) | omega)
            all_goals
             try simp only [decide_eq_true_eq, decide_eq_false_iff_not, Bool.not_eq_true', Bool.not_eq_false', Bool.not_eq_true, Bool.not_eq_false, Option.isNone_none, Option.isNone_some, Option.isSome_none, Option.isSome_some, ne_eq, Decidable.not_not] at hc8
             refine WC.exit ?_
             refine WX.thenExit ?_
             refine WX.thenExit ?_
             refine WX.blockHere ?_
             refine WX.next ?_
             refine WC.seq ?_
             refine WC.seq ?_
             obtain rfl : m = l.length := by omega
             have hks : st.drop k = [] := by
               cases hd : st.drop k with
               | nil => rfl
               | cons b r =>
                 rw [hd] at hTm
                 obtain ⟨rfl, h1, _⟩ := hTm
                 have := szAt_pos l l.length
                 omega
             rw [List.take_of_length_le (List.drop_eq_nil_iff.1 hks)] at hFL
             refine WC.region ?_
             refine WL.val rfl rfl rfl rfl (r_assign rfl ev_c) ?_
             refine WL.nil ?_
             refine WX.keep [(1, _), (6, _), (8, _), (12, _)] ⟨rfl, rfl, rfl, rfl, trivial⟩ ?_
             refine WX.next ?_
             refine WC.block ?_
             -- loop 2: live [1, 6, 8, 12]
             refine WC.keep [(1, _), (6, _), (8, _), (12, _)] ⟨rfl, rfl, rfl, rfl, trivial⟩ ?_
             refine WC.loop (fun qq E wC => ∃ (m k : Nat), m ≤ l.length ∧ qq = l.length - m ∧ Tile l m (st.drop k) ∧ Upd No w wC ∧ Rd wC F (.slice A l.length c) l.length 1 (l.map Wd) ∧ Blk wC p #[.slice none 0 0, .int .i64 5000, .int .i64 0] 79 ∧ Blk wC bF (fl.map Value.bool).toArray 4 ∧ E = [(1, .slice A l.length c), (6, .pointer (some ⟨p, 0, none⟩)), (8, .slice (some ⟨bF, 0, none⟩) l.length l.length), (12, .int .i64 (m : Int))]) (l.length) ?_ ?_
             · exact ⟨0, 0, by omega, by omega, hTl, hU, hr, hb, hfl, rfl⟩
             · clear hU hr hb hfl
               rintro qq E wC ⟨m, k2, hm, rfl, hTm2, hU, hr, hb, hfl, rfl⟩
               have hUs := hU.size
               have hbl := hfl.lt
               refine WC.seq ?_
               refine WC.seq ?_
               refine WC.region ?_
               refine WL.val rfl rfl rfl rfl (r_move rfl (ev_t rfl)) ?_
               refine WL.val rfl rfl rfl rfl (r_move rfl (ev_t rfl)) ?_
               refine WL.val rfl rfl rfl rfl (r_lenSlice (ts := #[]) rfl (ev_t rfl) elem_30) ?_
               refine WL.val rfl rfl rfl rfl (r_lss rfl (ev_t rfl) (ev_t rfl)) ?_
               refine WL.nil ?_
               refine WX.keep [(1, _), (6, _), (8, _), (12, _), (79, _)] ⟨rfl, rfl, rfl, rfl, rfl, trivial⟩ ?_
               refine WX.next ?_
               refine WC.cond rfl (ev_t rfl) (fun hc16 => ?_) (fun hc16 => ?_)
               · try (exfalso; first | (simp at hc16; done) | (simp only [decide_eq_true_eq, decide_eq_false_iff_not, Bool.not_eq_true', Bool.not_eq_false', Bool.not_eq_true, Bool.not_eq_false] at hc16; omega) | omega)
                 all_goals
                  try simp only [decide_eq_true_eq, decide_eq_false_iff_not, Bool.not_eq_true', Bool.not_eq_false', Bool.not_eq_true, Bool.not_eq_false, Option.isNone_none, Option.isNone_some, Option.isSome_none, Option.isSome_some, ne_eq, Decidable.not_not] at hc16
                  have hml : m < l.length := by omega
                  obtain ⟨rest, hdr, g1, hTn⟩ := hTm2.head_ hml
                  have hk : st[k2]? = some m := by rw [← List.head?_drop, hdr]; rfl
                  have hdr2 : st.drop (k2 + 1) = rest := by rw [← List.tail_drop, hdr]; rfl
                  have hms : m ∈ st := List.mem_of_getElem? hk
                  have hrefs := hg.vd.refs m hms
                  have hgx := getD_lt hml
                  have hx64 := hw _ (List.mem_of_getElem? hgx)
                  have hsz : szAt l m = szO (l.getD m 0) := rfl
                  have hszp := szAt_pos l m
                  obtain ⟨b0, off, rfl, _⟩ := hr.open (by omega)
                  generalize hxx : l.getD m 0 = x at *
                  refine WC.skip ?_
                  refine WX.next ?_
                  refine WC.seq ?_
                  refine WC.block ?_
                  refine WC.seq ?_
                  refine WC.region ?_
                  refine WL.val rfl rfl rfl rfl (r_assign rfl ev_c) ?_
                  refine WL.nil ?_
                  refine WX.keep [(1, _), (6, _), (8, _), (12, _), (13, _)] ⟨rfl, rfl, rfl, rfl, rfl, trivial⟩ ?_
                  refine WX.next ?_
                  refine WC.block ?_
                  -- loop 3: live [1, 6, 8, 12, 13]
                  refine WC.keep [(1, _), (6, _), (8, _), (12, _), (13, _)] ⟨rfl, rfl, rfl, rfl, rfl, trivial⟩ ?_
                  refine WC.loop (fun qq E wD => ∃ (i : Nat), i ≤ x / 256 ∧ qq = x / 256 - i ∧ Upd No w wD ∧ Rd wD F (.slice (some ⟨b0, off, none⟩) l.length c) l.length 1 (l.map Wd) ∧ Blk wD p #[.slice none 0 0, .int .i64 5000, .int .i64 0] 79 ∧ Blk wD bF (fl.map Value.bool).toArray 4 ∧ E = [(1, .slice (some ⟨b0, off, none⟩) l.length c), (6, .pointer (some ⟨p, 0, none⟩)), (8, .slice (some ⟨bF, 0, none⟩) l.length l.length), (12, .int .i64 (m : Int)), (13, .int .i64 (i : Int))]) (x / 256) ?_ ?_
                  · exact ⟨0, by omega, by omega, hU, hr, hb, hfl, rfl⟩
                  · clear hU hr hb hfl
                    rintro qq E wD ⟨i, hi, rfl, hU, hr, hb, hfl, rfl⟩
                    have hUs := hU.size
                    refine WC.seq ?_
                    refine WC.seq ?_
                    refine WC.region ?_
                    refine WL.val rfl rfl rfl rfl (r_move rfl (ev_t rfl)) ?_
                    refine WL.val rfl rfl rfl rfl (r_move rfl (ev_t rfl)) ?_
                    refine WL.val rfl rfl rfl rfl (r_indexAddr rfl (ev_t rfl) (ev_t rfl) elem_30 size_32 (by omega) (by omega)) ?_
                    refine WL.val rfl rfl rfl rfl (r_load rfl (ev_t rfl) flat_32 (hr.cell (j := m) (u := Wd x) (show off + (m : Int).toNat * 1 = off + m by omega) (by rw [List.getElem?_map, hgx]; rfl))) ?_
                    first | refine WL.val rfl rfl rfl rfl (r_convN rfl (ev_t rfl) some_32 int_5 (by simp only [inK]; omega)) ?_ | refine WL.val rfl rfl rfl rfl (r_conv rfl (ev_t rfl) some_32 int_5) ?_
                    rw [hd_k]
                    refine WL.val rfl rfl rfl rfl (r_neq rfl (ev_t rfl) ev_c) ?_
                    refine WL.val rfl rfl rfl rfl (r_move rfl (ev_t rfl)) ?_
                    refine WL.cases 91 rfl (fun hb19_6 => ?_) (fun hb19_6 => ?_)
                    · try (exfalso; first | (simp at hb19_6; done) | (simp only [decide_eq_true_eq, decide_eq_false_iff_not, Bool.not_eq_true', Bool.not_eq_false', Bool.not_eq_true, Bool.not_eq_false] at hb19_6; omega) | omega)
                      all_goals
                       try simp only [decide_eq_true_eq, decide_eq_false_iff_not, Bool.not_eq_true', Bool.not_eq_false', Bool.not_eq_true, Bool.not_eq_false, Option.isNone_none, Option.isNone_some, Option.isSome_none, Option.isSome_some, ne_eq, Decidable.not_not] at hb19_6
                       refine WL.val rfl rfl rfl rfl (r_move rfl (ev_t rfl)) ?_
                       refine WL.val rfl rfl rfl rfl (r_move rfl (ev_t rfl)) ?_
                       refine WL.val rfl rfl rfl rfl (r_move rfl (ev_t rfl)) ?_
                       refine WL.val rfl rfl rfl rfl (r_indexAddr rfl (ev_t rfl) (ev_t rfl) elem_30 size_32 (by omega) (by omega)) ?_
                       refine WL.val rfl rfl rfl rfl (r_load rfl (ev_t rfl) flat_32 (hr.cell (j := m) (u := Wd x) (show off + (m : Int).toNat * 1 = off + m by omega) (by rw [List.getElem?_map, hgx]; rfl))) ?_
                       refine WL.val rfl rfl rfl rfl (r_shr rfl (ev_t rfl) ev_c (by omega) (by simp only [IntKind.bits]; omega)) ?_
                       first | refine WL.val rfl rfl rfl rfl (r_convN rfl (ev_t rfl) some_32 int_3 (by simp only [inK]; omega)) ?_ | refine WL.val rfl rfl rfl rfl (r_conv rfl (ev_t rfl) some_32 int_3) ?_
                       rw [hd_n hx64]
                       refine WL.val rfl rfl rfl rfl (r_lss rfl (ev_t rfl) (ev_t rfl)) ?_
                       refine WL.val rfl rfl rfl rfl (r_pickT rfl (ev_t rfl) (ev_t rfl)) ?_
                       refine WL.nil ?_
                       refine WX.keep [(1, _), (6, _), (8, _), (12, _), (13, _), (100, _)] ⟨rfl, rfl, rfl, rfl, rfl, rfl, trivial⟩ ?_
                       refine WX.next ?_
                       refine WC.cond rfl (ev_t rfl) (fun hc19 => ?_) (fun hc19 => ?_)
                       · try (exfalso; first | (simp at hc19; done) | (simp only [decide_eq_true_eq, decide_eq_false_iff_not, Bool.not_eq_true', Bool.not_eq_false', Bool.not_eq_true, Bool.not_eq_false] at hc19; omega) | omega)
                         all_goals
                          try simp only [decide_eq_true_eq, decide_eq_false_iff_not, Bool.not_eq_true', Bool.not_eq_false', Bool.not_eq_true, Bool.not_eq_false, Option.isNone_none, Option.isNone_some, Option.isSome_none, Option.isSome_some, ne_eq, Decidable.not_not] at hc19
                          have hik : x % 256 ≠ 3 ∧ i < x / 256 := by first
                            | omega
                            | (simp_all; omega)
                          obtain ⟨hpi, hpi2⟩ := parts_get (old := l) (a := m) (i := i) (by rw [hxx]; exact hik.1) (by rw [hxx]; exact hik.2) g1
                          have hyr := hrefs _ (List.mem_of_getElem? hpi)
                          have hgy := getD_lt (l := l) (i := m + 1 + i) (by omega)
                          have hy64 := hw _ (List.mem_of_getElem? hgy)
                          generalize hyy : l.getD (m + 1 + i) 0 = y at *
                          refine WC.skip ?_
                          refine WX.next ?_
                          refine WC.seq ?_
                          refine WC.block ?_
                          refine WC.seq ?_
                          refine WC.region ?_
                          refine WL.val rfl rfl rfl rfl (r_move rfl (ev_t rfl)) ?_
                          refine WL.val rfl rfl rfl rfl (r_move rfl (ev_t rfl)) ?_
                          first | refine WL.val rfl rfl rfl rfl (r_addN rfl (ev_t rfl) ev_c (by simp only [inK]; omega)) ?_ | refine WL.val rfl rfl rfl rfl (r_add rfl (ev_t rfl) ev_c) ?_
                          refine WL.val rfl rfl rfl rfl (r_move rfl (ev_t rfl)) ?_
                          first | refine WL.val rfl rfl rfl rfl (r_addN rfl (ev_t rfl) (ev_t rfl) (by simp only [inK]; omega)) ?_ | refine WL.val rfl rfl rfl rfl (r_add rfl (ev_t rfl) (ev_t rfl)) ?_
                          refine WL.val rfl rfl rfl rfl (r_indexAddr rfl (ev_t rfl) (ev_t rfl) elem_30 size_32 (by omega) (by omega)) ?_
                          refine WL.val rfl rfl rfl rfl (r_load rfl (ev_t rfl) flat_32 (hr.cell (j := m + 1 + i) (u := Wd y) (show off + ((m : Int) + 1 + (i : Int)).toNat * 1 = off + (m + 1 + i) by omega) (by rw [List.getElem?_map, hgy]; rfl))) ?_
                          refine WL.val rfl rfl rfl rfl (r_assign rfl (ev_t rfl)) ?_
                          refine WL.nil ?_
                          refine WX.keep [(1, _), (6, _), (8, _), (12, _), (13, _), (14, _)] ⟨rfl, rfl, rfl, rfl, rfl, rfl, trivial⟩ ?_
                          refine WX.next ?_
                          refine WC.seq ?_
                          refine WC.region ?_
                          refine WL.val rfl rfl rfl rfl (r_move rfl (ev_t rfl)) ?_
                          refine WL.cons (SO.call (isNum_ok hy64) rfl body_19 ⟨(ev_t rfl), trivial⟩ rfl rfl rfl rfl ?_)
                          rintro v w6 ⟨rfl, rfl⟩
                          refine WL.val rfl rfl rfl rfl (r_not rfl (ev_t rfl)) ?_
                          refine WL.val rfl rfl rfl rfl (r_move rfl (ev_t rfl)) ?_
                          refine WL.cases 113 rfl (fun hb22_3 => ?_) (fun hb22_3 => ?_)
                          · try (exfalso; first | (simp at hb22_3; done) | (simp only [decide_eq_true_eq, decide_eq_false_iff_not, Bool.not_eq_true', Bool.not_eq_false', Bool.not_eq_true, Bool.not_eq_false] at hb22_3; omega) | omega)
                            all_goals
                             try simp only [decide_eq_true_eq, decide_eq_false_iff_not, Bool.not_eq_true', Bool.not_eq_false', Bool.not_eq_true, Bool.not_eq_false, Option.isNone_none, Option.isNone_some, Option.isSome_none, Option.isSome_some, ne_eq, Decidable.not_not] at hb22_3
                             have hye : y / 2 ∈ st := by
                               rcases hyr with h | h
                               · simp [h] at hb22_3
                               · exact h
                             have hyl := (hg.vd.in hye).1
                             refine WL.val rfl rfl rfl rfl (r_move rfl (ev_t rfl)) ?_
                             refine WL.val rfl rfl rfl rfl (r_shr rfl (ev_t rfl) ev_c (by omega) (by simp only [IntKind.bits]; omega)) ?_
                             try rw [half_u64]
                             refine WL.val rfl rfl rfl rfl (r_move rfl (ev_t rfl)) ?_
                             refine WL.val rfl rfl rfl rfl (r_lenSlice (ts := #[]) rfl (ev_t rfl) elem_30) ?_
                             first | refine WL.val rfl rfl rfl rfl (r_convN rfl (ev_t rfl) some_3 int_32 (by simp only [inK]; omega)) ?_ | refine WL.val rfl rfl rfl rfl (r_conv rfl (ev_t rfl) some_3 int_32) ?_
                             refine WL.val rfl rfl rfl rfl (r_geq rfl (ev_t rfl) (ev_t rfl)) ?_
                             refine WL.val rfl rfl rfl rfl (r_move rfl (ev_t rfl)) ?_
                             refine WL.cases 120 rfl (fun hb22_10 => ?_) (fun hb22_10 => ?_)
                             · try simp only [decide_eq_true_eq, decide_eq_false_iff_not, Bool.not_eq_true', Bool.not_eq_false', Bool.not_eq_true, Bool.not_eq_false, Option.isNone_none, Option.isNone_some, Option.isSome_none, Option.isSome_some, ne_eq, Decidable.not_not] at hb22_10
                               exfalso
                               omega
                             · try (exfalso; first | (simp at hb22_10; done) | (simp only [decide_eq_true_eq, decide_eq_false_iff_not, Bool.not_eq_true', Bool.not_eq_false', Bool.not_eq_true, Bool.not_eq_false] at hb22_10; omega) | omega)
                               all_goals
                                try simp only [decide_eq_true_eq, decide_eq_false_iff_not, Bool.not_eq_true', Bool.not_eq_false', Bool.not_eq_true, Bool.not_eq_false, Option.isNone_none, Option.isNone_some, Option.isSome_none, Option.isSome_some, ne_eq, Decidable.not_not] at hb22_10
                                refine WL.val rfl rfl rfl rfl (r_move rfl (ev_t rfl)) ?_
                                refine WL.val rfl rfl rfl rfl (r_move rfl (ev_t rfl)) ?_
                                refine WL.val rfl rfl rfl rfl (r_shr rfl (ev_t rfl) ev_c (by omega) (by simp only [IntKind.bits]; omega)) ?_
                                try rw [half_u64]
                                refine WL.val rfl rfl rfl rfl (r_indexAddr rfl (ev_t rfl) (ev_t rfl) elem_93 size_4 (by omega) (by omega)) ?_
                                refine WL.val rfl rfl rfl rfl (r_load rfl (ev_t rfl) flat_4 (Blk.cell hfl (by rw [show 0 + ((y / 2 : Nat) : Int).toNat * 1 = y / 2 by omega, List.getElem?_toArray, List.getElem?_map, hFL.2 _ (by omega)]; rfl))) ?_
                                refine WL.val rfl rfl rfl rfl (r_not rfl (ev_t rfl)) ?_
                                refine WL.val rfl rfl rfl rfl (r_pickF rfl (ev_t rfl) (ev_t rfl)) ?_
                                refine WL.val rfl rfl rfl rfl (r_pickT rfl (ev_t rfl) (ev_t rfl)) ?_
                                refine WL.nil ?_
                                refine WX.keep [(1, _), (6, _), (8, _), (12, _), (13, _), (128, _)] ⟨rfl, rfl, rfl, rfl, rfl, rfl, trivial⟩ ?_
                                refine WX.next ?_
                                refine WC.cond rfl (ev_t rfl) (fun hc22 => ?_) (fun hc22 => ?_)
                                · try simp only [decide_eq_true_eq, decide_eq_false_iff_not, Bool.not_eq_true', Bool.not_eq_false', Bool.not_eq_true, Bool.not_eq_false, Option.isNone_none, Option.isNone_some, Option.isSome_none, Option.isSome_some, ne_eq, Decidable.not_not] at hc22
                                  exfalso
                                  first
                                    | (simp [hye] at hc22; done)
                                    | (simp_all; done)
                                · try (exfalso; first | (simp at hc22; done) | (simp only [decide_eq_true_eq, decide_eq_false_iff_not, Bool.not_eq_true', Bool.not_eq_false', Bool.not_eq_true, Bool.not_eq_false] at hc22; omega) | omega)
                                  all_goals
                                   try simp only [decide_eq_true_eq, decide_eq_false_iff_not, Bool.not_eq_true', Bool.not_eq_false', Bool.not_eq_true, Bool.not_eq_false, Option.isNone_none, Option.isNone_some, Option.isSome_none, Option.isSome_some, ne_eq, Decidable.not_not] at hc22
                                   refine WC.skip ?_
                                   refine WX.blockNormal ?_
                                   refine WX.next ?_
                                   refine WC.region ?_
                                   refine WL.val rfl rfl rfl rfl (r_move rfl (ev_t rfl)) ?_
                                   first | refine WL.val rfl rfl rfl rfl (r_addN rfl (ev_t rfl) ev_c (by simp only [inK]; omega)) ?_ | refine WL.val rfl rfl rfl rfl (r_add rfl (ev_t rfl) ev_c) ?_
                                   refine WL.val rfl rfl rfl rfl (r_assign rfl (ev_t rfl)) ?_
                                   refine WL.nil ?_
                                   refine WX.keep [(1, _), (6, _), (8, _), (12, _), (13, _)] ⟨rfl, rfl, rfl, rfl, rfl, trivial⟩ ?_
                                   refine WX.meet [(1, _), (6, _), (8, _), (12, _), (13, _)] ⟨rfl, rfl, rfl, rfl, rfl, trivial⟩ ?_
                                   exact ⟨x / 256 - (i + 1), by omega, i + 1, by omega, rfl, hU, hr, hb, hfl, rfl⟩
                          · try (exfalso; first | (simp at hb22_3; done) | (simp only [decide_eq_true_eq, decide_eq_false_iff_not, Bool.not_eq_true', Bool.not_eq_false', Bool.not_eq_true, Bool.not_eq_false] at hb22_3; omega) | omega)
                            all_goals
                             try simp only [decide_eq_true_eq, decide_eq_false_iff_not, Bool.not_eq_true', Bool.not_eq_false', Bool.not_eq_true, Bool.not_eq_false, Option.isNone_none, Option.isNone_some, Option.isSome_none, Option.isSome_some, ne_eq, Decidable.not_not] at hb22_3
                             refine WL.skip rfl rfl rfl ?_
                             refine WL.skip rfl rfl rfl ?_
                             refine WL.skip rfl rfl rfl ?_
                             refine WL.skip rfl rfl rfl ?_
                             refine WL.skip rfl rfl rfl ?_
                             refine WL.skip rfl rfl rfl ?_
                             refine WL.skip rfl rfl rfl ?_
                             refine WL.skip rfl rfl rfl ?_
                             refine WL.skip rfl rfl rfl ?_
                             refine WL.skip rfl rfl rfl ?_
                             refine WL.skip rfl rfl rfl ?_
                             refine WL.skip rfl rfl rfl ?_
                             refine WL.skip rfl rfl rfl ?_
                             refine WL.skip rfl rfl rfl ?_
                             refine WL.val rfl rfl rfl rfl (r_pickF rfl (ev_t rfl) ev_c) ?_
                             refine WL.nil ?_
                             refine WX.keep [(1, _), (6, _), (8, _), (12, _), (13, _), (128, _)] ⟨rfl, rfl, rfl, rfl, rfl, rfl, trivial⟩ ?_
                             refine WX.next ?_
                             refine WC.cond_false rfl (ev_t rfl) ?_
                             refine WC.skip ?_
                             refine WX.blockNormal ?_
                             refine WX.next ?_
                             refine WC.region ?_
                             refine WL.val rfl rfl rfl rfl (r_move rfl (ev_t rfl)) ?_
                             first | refine WL.val rfl rfl rfl rfl (r_addN rfl (ev_t rfl) ev_c (by simp only [inK]; omega)) ?_ | refine WL.val rfl rfl rfl rfl (r_add rfl (ev_t rfl) ev_c) ?_
                             refine WL.val rfl rfl rfl rfl (r_assign rfl (ev_t rfl)) ?_
                             refine WL.nil ?_
                             refine WX.keep [(1, _), (6, _), (8, _), (12, _), (13, _)] ⟨rfl, rfl, rfl, rfl, rfl, trivial⟩ ?_
                             refine WX.meet [(1, _), (6, _), (8, _), (12, _), (13, _)] ⟨rfl, rfl, rfl, rfl, rfl, trivial⟩ ?_
                             exact ⟨x / 256 - (i + 1), by omega, i + 1, by omega, rfl, hU, hr, hb, hfl, rfl⟩
                       · try (exfalso; first | (simp at hc19; done) | (simp only [decide_eq_true_eq, decide_eq_false_iff_not, Bool.not_eq_true', Bool.not_eq_false', Bool.not_eq_true, Bool.not_eq_false] at hc19; omega) | omega)
                         all_goals
                          try simp only [decide_eq_true_eq, decide_eq_false_iff_not, Bool.not_eq_true', Bool.not_eq_false', Bool.not_eq_true, Bool.not_eq_false, Option.isNone_none, Option.isNone_some, Option.isSome_none, Option.isSome_some, ne_eq, Decidable.not_not] at hc19
                          refine WC.exit ?_
                          refine WX.thenExit ?_
                          refine WX.thenExit ?_
                          refine WX.blockHere ?_
                          refine WX.blockNormal ?_
                          refine WX.next ?_
                          refine WC.region ?_
                          refine WL.val rfl rfl rfl rfl (r_move rfl (ev_t rfl)) ?_
                          refine WL.val rfl rfl rfl rfl (r_move rfl (ev_t rfl)) ?_
                          refine WL.val rfl rfl rfl rfl (r_move rfl (ev_t rfl)) ?_
                          refine WL.cons (SO.call (size_ok hr hgx hx64) rfl body_44 ⟨(ev_t rfl), (ev_t rfl), trivial⟩ rfl rfl rfl rfl ?_)
                          rintro v w7 ⟨rfl, hu7⟩
                          have hs7 := hu7.size
                          replace hU := hU.trans hu7 (by first | exact (fun _ _ h => h) | exact (fun _ _ h => h.elim) | (intro k hl hk; (try simp only [At, New, Grow, From, No] at hk ⊢); omega) | (intro k hl hk; first | exact (show False from hk).elim | (simp only [At] at hk; omega) | (have h2 := hk.1; omega)))
                          replace hr := hr.upd hu7 (fun k hk hl hS => by have h1 := hF k hk; first | exact (show False from hS).elim | (simp only [At] at hS; omega))
                          replace hb := hb.upd hu7 (fun hS => by first | exact (show False from hS) | (simp only [At] at hS; omega))
                          replace hfl := hfl.upd hu7 (fun hS => by first | exact (show False from hS) | (simp only [At] at hS; omega))
                          first | refine WL.val rfl rfl rfl rfl (r_addN rfl (ev_t rfl) (ev_t rfl) (by simp only [inK]; omega)) ?_ | refine WL.val rfl rfl rfl rfl (r_add rfl (ev_t rfl) (ev_t rfl)) ?_
                          refine WL.val rfl rfl rfl rfl (r_assign rfl (ev_t rfl)) ?_
                          refine WL.nil ?_
                          refine WX.keep [(1, _), (6, _), (8, _), (12, _)] ⟨rfl, rfl, rfl, rfl, trivial⟩ ?_
                          refine WX.meet [(1, _), (6, _), (8, _), (12, _)] ⟨rfl, rfl, rfl, rfl, trivial⟩ ?_
                          have ew : IntKind.i64.wrap ((m : Int) + ((szO x : Nat) : Int)) = ((m + szAt l m : Nat) : Int) := by rw [wrap_i64_in (by omega) (by omega)]; omega
                          refine ⟨l.length - (m + szAt l m), by omega, m + szAt l m, k2 + 1, by omega, rfl, by rw [hdr2]; exact hTn, hU, hr, hb, hfl, ?_⟩
                          first
                            | rw [ew]
                            | (rw [hsz]; rfl)
                    · try (exfalso; first | (simp at hb19_6; done) | (simp only [decide_eq_true_eq, decide_eq_false_iff_not, Bool.not_eq_true', Bool.not_eq_false', Bool.not_eq_true, Bool.not_eq_false] at hb19_6; omega) | omega)
                      all_goals
                       try simp only [decide_eq_true_eq, decide_eq_false_iff_not, Bool.not_eq_true', Bool.not_eq_false', Bool.not_eq_true, Bool.not_eq_false, Option.isNone_none, Option.isNone_some, Option.isSome_none, Option.isSome_some, ne_eq, Decidable.not_not] at hb19_6
                       refine WL.skip rfl rfl rfl ?_
                       refine WL.skip rfl rfl rfl ?_
                       refine WL.skip rfl rfl rfl ?_
                       refine WL.skip rfl rfl rfl ?_
                       refine WL.skip rfl rfl rfl ?_
                       refine WL.skip rfl rfl rfl ?_
                       refine WL.skip rfl rfl rfl ?_
                       refine WL.skip rfl rfl rfl ?_
                       refine WL.val rfl rfl rfl rfl (r_pickF rfl (ev_t rfl) ev_c) ?_
                       refine WL.nil ?_
                       refine WX.keep [(1, _), (6, _), (8, _), (12, _), (13, _), (100, _)] ⟨rfl, rfl, rfl, rfl, rfl, rfl, trivial⟩ ?_
                       refine WX.next ?_
                       refine WC.cond_false rfl (ev_t rfl) ?_
                       refine WC.exit ?_
                       refine WX.thenExit ?_
                       refine WX.thenExit ?_
                       refine WX.blockHere ?_
                       refine WX.blockNormal ?_
                       refine WX.next ?_
                       refine WC.region ?_
                       refine WL.val rfl rfl rfl rfl (r_move rfl (ev_t rfl)) ?_
                       refine WL.val rfl rfl rfl rfl (r_move rfl (ev_t rfl)) ?_
                       refine WL.val rfl rfl rfl rfl (r_move rfl (ev_t rfl)) ?_
                       refine WL.cons (SO.call (size_ok hr hgx hx64) rfl body_44 ⟨(ev_t rfl), (ev_t rfl), trivial⟩ rfl rfl rfl rfl ?_)
                       rintro v w8 ⟨rfl, hu8⟩
                       have hs8 := hu8.size
                       replace hU := hU.trans hu8 (by first | exact (fun _ _ h => h) | exact (fun _ _ h => h.elim) | (intro k hl hk; (try simp only [At, New, Grow, From, No] at hk ⊢); omega) | (intro k hl hk; first | exact (show False from hk).elim | (simp only [At] at hk; omega) | (have h2 := hk.1; omega)))
                       replace hr := hr.upd hu8 (fun k hk hl hS => by have h1 := hF k hk; first | exact (show False from hS).elim | (simp only [At] at hS; omega))
                       replace hb := hb.upd hu8 (fun hS => by first | exact (show False from hS) | (simp only [At] at hS; omega))
                       replace hfl := hfl.upd hu8 (fun hS => by first | exact (show False from hS) | (simp only [At] at hS; omega))
                       first | refine WL.val rfl rfl rfl rfl (r_addN rfl (ev_t rfl) (ev_t rfl) (by simp only [inK]; omega)) ?_ | refine WL.val rfl rfl rfl rfl (r_add rfl (ev_t rfl) (ev_t rfl)) ?_
                       refine WL.val rfl rfl rfl rfl (r_assign rfl (ev_t rfl)) ?_
                       refine WL.nil ?_
                       refine WX.keep [(1, _), (6, _), (8, _), (12, _)] ⟨rfl, rfl, rfl, rfl, trivial⟩ ?_
                       refine WX.meet [(1, _), (6, _), (8, _), (12, _)] ⟨rfl, rfl, rfl, rfl, trivial⟩ ?_
                       have ew : IntKind.i64.wrap ((m : Int) + ((szO x : Nat) : Int)) = ((m + szAt l m : Nat) : Int) := by rw [wrap_i64_in (by omega) (by omega)]; omega
                       refine ⟨l.length - (m + szAt l m), by omega, m + szAt l m, k2 + 1, by omega, rfl, by rw [hdr2]; exact hTn, hU, hr, hb, hfl, ?_⟩
                       first
                         | rw [ew]
                         | (rw [hsz]; rfl)
               · try (exfalso; first | (simp at hc16; done) | (simp only [decide_eq_true_eq, decide_eq_false_iff_not, Bool.not_eq_true', Bool.not_eq_false', Bool.not_eq_true, Bool.not_eq_false] at hc16; omega) | omega)
                 all_goals
                  try simp only [decide_eq_true_eq, decide_eq_false_iff_not, Bool.not_eq_true', Bool.not_eq_false', Bool.not_eq_true, Bool.not_eq_false, Option.isNone_none, Option.isNone_some, Option.isSome_none, Option.isSome_some, ne_eq, Decidable.not_not] at hc16
                  refine WC.exit ?_
                  refine WX.thenExit ?_
                  refine WX.thenExit ?_
                  refine WX.blockHere ?_
                  refine WX.next ?_
                  refine WC.seq ?_
                  have hpl3 := hb.lt
                  refine WC.region ?_
                  refine WL.val rfl rfl rfl rfl (r_move rfl (ev_t rfl)) ?_
                  refine WL.val rfl rfl rfl rfl (r_move rfl (ev_t rfl)) ?_
                  refine WL.val rfl rfl rfl rfl (r_nilCheck rfl (ev_t rfl)) ?_
                  first | refine WL.val rfl rfl rfl rfl (r_field0 rfl (ev_t rfl) fld_79_0) ?_ | refine WL.val rfl rfl rfl rfl (r_fieldAt rfl (ev_t rfl) fld_79_0) ?_
                  refine WL.val rfl rfl rfl rfl (r_load rfl (ev_t rfl) flat_30 (Blk.cell hb rfl)) ?_
                  refine WL.val rfl rfl rfl rfl (r_move rfl (ev_t rfl)) ?_
                  refine WL.cons (SO.append (Own.nil _ No _ _) hr row_30 (fun u hu => by obtain ⟨x, _, rfl⟩ := List.mem_map.1 hu; rfl) (le_maxLen (by omega)) (by omega) rfl (ev_t rfl) (ev_t rfl) rfl rfl rfl rfl ?_)
                  intro v9 w9 how hu9
                  have hs9 := hu9.size
                  replace hU := hU.trans hu9 (by first | exact (fun _ _ h => h) | exact (fun _ _ h => h.elim) | (intro k hl hk; (try simp only [At, New, Grow, From, No] at hk ⊢); omega) | (intro k hl hk; first | exact (show False from hk).elim | (simp only [At] at hk; omega) | (have h2 := hk.1; omega)))
                  replace hr := hr.upd hu9 (fun k hk hl hS => by have h1 := hF k hk; first | exact (show False from hS).elim | (simp only [At] at hS; omega))
                  replace hb := hb.upd hu9 (fun hS => by first | exact (show False from hS) | (simp only [At] at hS; omega))
                  replace hfl := hfl.upd hu9 (fun hS => by first | exact (show False from hS) | (simp only [At] at hS; omega))
                  obtain ⟨A9, c9, rfl, hc9⟩ := Own.form how
                  simp only [Nat.zero_add, List.nil_append] at how ⊢
                  refine WL.val rfl rfl rfl rfl (r_nilCheck rfl (ev_t rfl)) ?_
                  first | refine WL.val rfl rfl rfl rfl (r_field0 rfl (ev_t rfl) fld_79_0) ?_ | refine WL.val rfl rfl rfl rfl (r_fieldAt rfl (ev_t rfl) fld_79_0) ?_
                  refine WL.cons (SO.store rfl (ev_t rfl) (ev_t rfl) size_30 hb rfl rfl rfl rfl rfl ?_)
                  intro w10 hu10 hb hz10
                  have hs10 := hu10.size
                  replace hU := hU.trans hu10 (by first | exact (fun _ _ h => h) | exact (fun _ _ h => h.elim) | (intro k hl hk; (try simp only [At, New, Grow, From, No] at hk ⊢); omega) | (intro k hl hk; first | exact (show False from hk).elim | (simp only [At] at hk; omega) | (have h2 := hk.1; omega)))
                  replace hr := hr.upd hu10 (fun k hk hl hS => by have h1 := hF k hk; first | exact (show False from hS).elim | (simp only [At] at hS; omega))
                  replace hfl := hfl.upd hu10 (fun hS => by first | exact (show False from hS) | (simp only [At] at hS; omega))
                  replace how := how.upd hu10 (fun k hk hl hS => by first | exact (show False from hS).elim | (rcases hk with hk | hk; exact hk.elim; simp only [At] at hS; omega))
                  refine WL.nil ?_
                  refine WX.keep [(6, _)] ⟨rfl, trivial⟩ ?_
                  refine WX.next ?_
                  refine WC.seq ?_
                  refine WC.region ?_
                  refine WL.val rfl rfl rfl rfl (r_move rfl (ev_t rfl)) ?_
                  refine WL.val rfl rfl rfl rfl (r_assign rfl (ev_t rfl)) ?_
                  refine WL.val rfl rfl rfl rfl (r_assign rfl ev_c) ?_
                  refine WL.nil ?_
                  refine WX.keep [(4, _), (5, _)] ⟨rfl, rfl, trivial⟩ ?_
                  refine WX.next ?_
                  refine WC.ret ?_
                  refine WX.retE2 rfl rfl rfl ?_
                  refine ⟨_, p, _, _, rfl, ⟨hb, how.bound, ?_, fun k hk => hk.2, ⟨by omega, by omega⟩, by omega⟩, by omega, ?_, hU⟩
                  · intro h
                    rcases h.1 with h | h
                    · exact h
                    · omega
                  · intro k h
                    rcases h.1 with h | h
                    · exact h.elim
                    · have := hU.size; omega
end Go.Proofs.YtdpnnclkkbfihaaDoor
