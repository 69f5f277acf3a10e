/-
  HeapTexts: the law.
-/
import Derived.Test.YtdpnnclkkbfihaaDoorHes
namespace Go.Proofs.YtdpnnclkkbfihaaDoor
open Go
set_option linter.unusedSimpArgs false
set_option linter.unusedVariables false

theorem TX.form {w : World} {B p q lim i : Nat} {rs : List Nat} {ws : List (List UInt8)} {vr vw : Value} (h : TX w B p q lim i rs ws vr vw) (hi : i ≤ 1000) :
    ∃ (g : Nat) (A : Option Addr) (c : Nat) (F : Nat → Prop), vr = .slice A (rs.map (2 * ·)).length c ∧ (0 < (rs.map (2 * ·)).length → A = some ⟨g, 0, none⟩ ∧ g < w.heap.size) ∧ Rd w F vr (rs.map (2 * ·)).length 1 ((rs.map (2 * ·)).map Wd) ∧ rs.length ≤ i ∧ p < w.heap.size := by
  obtain ⟨G, Gr, Gw, A1, c1, mem, st, n, h1, h2, h3, h4, h5, h6, h7, h8, h9, h10, h11, h12⟩ := h
  obtain ⟨g, A, c, hv, hpos, _⟩ := h5.roots
  exact ⟨g, A, c, Gr, hv, fun h0 => ⟨(hpos h0).1, (hpos h0).2.2⟩, h5.rd (by rw [List.length_map]; omega), h8, h1.hd.lt⟩
theorem TX.new {w : World} {p q : Nat} (h : Blk w p #[.slice none 0 0, .int .i64 (q : Int), .int .i64 0] 79) (hq : q ≤ 1048576) : TX w p p q 0 0 [] [] (.slice none 0 0) (.slice none 0 0) :=
  ⟨No, No, No, none, 0, [], [], 0, HS.new h hq, Vd.nil, Nat.zero_le _, Nat.le_refl _, Own.nil _ _ _ _, Own.nil _ _ _ _, rfl, Nat.le_refl _, fun j a s h => by simp at h, fun k h => h.elim, fun k h => h.elim, fun k h => h.elim⟩
namespace heapTexts
set_option maxHeartbeats 8000000 in
theorem walk {w : World} {F : Nat → Prop} {v : Value} {l : List (List UInt8)} {kp : Nat} (hr : Rd w F v l.length 1 (l.map Str)) (hF : ∀ k, F k → k < w.heap.size) (hkp : (kp : Int) ≤ 4294967295) : Ret Tryd.prog 3 #[v, .int .u32 (kp : Int)] w fun v w' => v = .bool true ∧ Upd No w w' := by
  have hlm := hr.le
  obtain ⟨A, c, rfl, hc⟩ := hr.slice_form
  generalize hB : w.heap.size = B at *
  refine enterRet (vs := [_, _]) (N := 124) Tryd.func3 rfl rfl rfl ?_
  have hU := Upd.refl No w
  refine WC.keep [(0, _), (1, _)] ⟨rfl, rfl, trivial⟩ ?_
  refine WC.seq ?_
  refine WC.region ?_
  refine WL.val rfl rfl rfl rfl (r_assign rfl ev_c) ?_
  refine WL.nil ?_
  refine WX.keep [(0, _), (1, _)] ⟨rfl, rfl, trivial⟩ ?_
  refine WX.next ?_
  refine WC.seq ?_
  refine WC.seq ?_
  refine WC.region ?_
  refine WL.cons (SO.call (awake_ok) rfl body_9 trivial rfl rfl rfl rfl ?_)
  rintro v w1 ⟨rfl, hu1⟩
  have hs1 := hu1.size
  replace hU := hU.trans hu1 (by first | exact (fun _ _ h => h) | exact (fun _ _ h => h.elim) | (intro k hl hk; (try simp only [At, New, Grow, From, No] at hk ⊢); omega) | (intro k hl hk; first | exact (show False from hk).elim | (have h2 := hGr _ hk; omega) | (have h2 := hGw _ hk; omega) | (have h2 : p ≤ k := hk; omega)))
  replace hr := hr.upd hu1 (fun k hk hl hS => by have h1 := hF k hk; first | exact (show False from hS).elim | (have h2 := hGr _ hS; omega) | (have h2 := hGw _ hS; omega) | (have h2 : p ≤ k := hS; omega))
  refine WL.val rfl rfl rfl rfl (r_not rfl (ev_t rfl)) ?_
  refine WL.val rfl rfl rfl rfl (r_move rfl (ev_t rfl)) ?_
  refine WL.cases 17 rfl (fun hb1_2 => ?_) (fun hb1_2 => ?_)
  · try (exfalso; first | (simp at hb1_2; done) | (simp only [decide_eq_true_eq, decide_eq_false_iff_not, Bool.not_eq_true', Bool.not_eq_false', Bool.not_eq_true, Bool.not_eq_false] at hb1_2; omega) | omega)
    all_goals
     try simp only [decide_eq_true_eq, decide_eq_false_iff_not, Bool.not_eq_true', Bool.not_eq_false', Bool.not_eq_true, Bool.not_eq_false, Option.isNone_none, Option.isNone_some, Option.isSome_none, Option.isSome_some, ne_eq, Decidable.not_not] at hb1_2
     refine WL.skip rfl rfl rfl ?_
     refine WL.skip rfl rfl rfl ?_
     refine WL.skip rfl rfl rfl ?_
     refine WL.val rfl rfl rfl rfl (r_pickT rfl (ev_t rfl) ev_c) ?_
     refine WL.nil ?_
     refine WX.keep [(0, _), (1, _), (21, _)] ⟨rfl, rfl, rfl, trivial⟩ ?_
     refine WX.next ?_
     refine WC.cond_true rfl (ev_t rfl) ?_
     refine WC.seq ?_
     refine WC.region ?_
     refine WL.cons (SO.call (awake_ok) rfl body_9 trivial rfl rfl rfl rfl ?_)
     rintro v w2 ⟨rfl, hu2⟩
     have hs2 := hu2.size
     replace hU := hU.trans hu2 (by first | exact (fun _ _ h => h) | exact (fun _ _ h => h.elim) | (intro k hl hk; (try simp only [At, New, Grow, From, No] at hk ⊢); omega) | (intro k hl hk; first | exact (show False from hk).elim | (have h2 := hGr _ hk; omega) | (have h2 := hGw _ hk; omega) | (have h2 : p ≤ k := hk; omega)))
     replace hr := hr.upd hu2 (fun k hk hl hS => by have h1 := hF k hk; first | exact (show False from hS).elim | (have h2 := hGr _ hS; omega) | (have h2 := hGw _ hS; omega) | (have h2 : p ≤ k := hS; omega))
     refine WL.val rfl rfl rfl rfl (r_assign rfl (ev_t rfl)) ?_
     refine WL.nil ?_
     refine WX.keep [(4, _)] ⟨rfl, trivial⟩ ?_
     refine WX.next ?_
     refine WC.ret ?_
     refine WX.thenRet ?_
     refine WX.retE1 rfl rfl ?_
     exact ⟨rfl, hU⟩
  · try (exfalso; first | (simp at hb1_2; done) | (simp only [decide_eq_true_eq, decide_eq_false_iff_not, Bool.not_eq_true', Bool.not_eq_false', Bool.not_eq_true, Bool.not_eq_false] at hb1_2; omega) | omega)
    all_goals
     try simp only [decide_eq_true_eq, decide_eq_false_iff_not, Bool.not_eq_true', Bool.not_eq_false', Bool.not_eq_true, Bool.not_eq_false, Option.isNone_none, Option.isNone_some, Option.isSome_none, Option.isSome_some, ne_eq, Decidable.not_not] at hb1_2
     refine WL.val rfl rfl rfl rfl (r_move rfl (ev_t rfl)) ?_
     refine WL.val rfl rfl rfl rfl (r_lenSlice (ts := #[]) rfl (ev_t rfl) elem_22) ?_
     refine WL.val rfl rfl rfl rfl (r_gtr rfl (ev_t rfl) ev_c) ?_
     refine WL.val rfl rfl rfl rfl (r_pickF rfl (ev_t rfl) (ev_t rfl)) ?_
     refine WL.nil ?_
     refine WX.keep [(0, _), (1, _), (21, _)] ⟨rfl, rfl, rfl, trivial⟩ ?_
     refine WX.next ?_
     refine WC.cond rfl (ev_t rfl) (fun hc1 => ?_) (fun hc1 => ?_)
     · try (exfalso; first | (simp at hc1; done) | (simp only [decide_eq_true_eq, decide_eq_false_iff_not, Bool.not_eq_true', Bool.not_eq_false', Bool.not_eq_true, Bool.not_eq_false] at hc1; omega) | omega)
       all_goals
        try simp only [decide_eq_true_eq, decide_eq_false_iff_not, Bool.not_eq_true', Bool.not_eq_false', Bool.not_eq_true, Bool.not_eq_false, Option.isNone_none, Option.isNone_some, Option.isSome_none, Option.isSome_some, ne_eq, Decidable.not_not] at hc1
        refine WC.seq ?_
        refine WC.region ?_
        refine WL.cons (SO.call (awake_ok) rfl body_9 trivial rfl rfl rfl rfl ?_)
        rintro v w3 ⟨rfl, hu3⟩
        have hs3 := hu3.size
        replace hU := hU.trans hu3 (by first | exact (fun _ _ h => h) | exact (fun _ _ h => h.elim) | (intro k hl hk; (try simp only [At, New, Grow, From, No] at hk ⊢); omega) | (intro k hl hk; first | exact (show False from hk).elim | (have h2 := hGr _ hk; omega) | (have h2 := hGw _ hk; omega) | (have h2 : p ≤ k := hk; omega)))
        replace hr := hr.upd hu3 (fun k hk hl hS => by have h1 := hF k hk; first | exact (show False from hS).elim | (have h2 := hGr _ hS; omega) | (have h2 := hGw _ hS; omega) | (have h2 : p ≤ k := hS; omega))
        refine WL.val rfl rfl rfl rfl (r_assign rfl (ev_t rfl)) ?_
        refine WL.nil ?_
        refine WX.keep [(4, _)] ⟨rfl, trivial⟩ ?_
        refine WX.next ?_
        refine WC.ret ?_
        refine WX.thenRet ?_
        refine WX.retE1 rfl rfl ?_
        exact ⟨rfl, hU⟩
     · try (exfalso; first | (simp at hc1; done) | (simp only [decide_eq_true_eq, decide_eq_false_iff_not, Bool.not_eq_true', Bool.not_eq_false', Bool.not_eq_true, Bool.not_eq_false] at hc1; omega) | omega)
       all_goals
        try simp only [decide_eq_true_eq, decide_eq_false_iff_not, Bool.not_eq_true', Bool.not_eq_false', Bool.not_eq_true, Bool.not_eq_false, Option.isNone_none, Option.isNone_some, Option.isSome_none, Option.isSome_some, ne_eq, Decidable.not_not] at hc1
        have hl30 : l.length ≤ 30 := by first | omega | (simp at hc1; omega) | (simp_all; omega)
        refine WC.skip ?_
        refine WX.next ?_
        refine WC.seq ?_
        refine WC.region ?_
        refine WL.val rfl rfl rfl rfl (r_assign rfl ev_c) ?_
        refine WL.nil ?_
        refine WX.keep [(0, _), (1, _), (5, _)] ⟨rfl, rfl, rfl, trivial⟩ ?_
        refine WX.next ?_
        refine WC.seq ?_
        refine WC.seq ?_
        refine WC.region ?_
        refine WL.val rfl rfl rfl rfl (r_assign rfl ev_c) ?_
        refine WL.nil ?_
        refine WX.keep [(0, _), (1, _), (5, _), (6, _)] ⟨rfl, rfl, rfl, rfl, trivial⟩ ?_
        refine WX.next ?_
        refine WC.block ?_
        -- loop 1: live [0, 1, 5, 6]
        refine WC.keep [(0, _), (1, _), (5, _), (6, _)] ⟨rfl, rfl, rfl, rfl, trivial⟩ ?_
        refine WC.loop (fun qq E wC => ∃ (j : Nat), j ≤ l.length ∧ qq = l.length - j ∧ (∀ i s, l[i]? = some s → i < j → s.length ≤ 1000) ∧ Upd No w wC ∧ Rd wC F (.slice A l.length c) l.length 1 (l.map Str) ∧ E = [(0, .slice A l.length c), (1, .int .u32 (kp : Int)), (5, .int .i64 ((1 + tsum (l.take j) : Nat) : Int)), (6, .int .i64 (j : Int))]) (l.length) ?_ ?_
        · exact ⟨0, by omega, by omega, fun i s _ h => absurd h (by omega), hU, hr, rfl⟩
        · clear hU hr
          rintro qq E wC ⟨j, hj, rfl, hlen, hU, hr, rfl⟩
          have hUs := hU.size
          have hts := tsum_le (l.take j) (fun x hx => by obtain ⟨i, hi, rfl⟩ := List.mem_iff_getElem.1 hx; rw [List.length_take] at hi; exact hlen i _ (by rw [List.getElem_take]; exact List.getElem?_eq_getElem (by omega)) (by omega))
          rw [List.length_take] at hts
          refine WC.seq ?_
          refine WC.seq ?_
          refine WC.region ?_
          refine WL.val rfl rfl rfl rfl (r_move rfl (ev_t rfl)) ?_
          refine WL.val rfl rfl rfl rfl (r_move rfl (ev_t rfl)) ?_
          refine WL.val rfl rfl rfl rfl (r_lenSlice (ts := #[]) rfl (ev_t rfl) elem_22) ?_
          refine WL.val rfl rfl rfl rfl (r_lss rfl (ev_t rfl) (ev_t rfl)) ?_
          refine WL.nil ?_
          refine WX.keep [(0, _), (1, _), (5, _), (6, _), (26, _)] ⟨rfl, rfl, rfl, rfl, rfl, trivial⟩ ?_
          refine WX.next ?_
          refine WC.cond rfl (ev_t rfl) (fun hc5 => ?_) (fun hc5 => ?_)
          · try (exfalso; first | (simp at hc5; done) | (simp only [decide_eq_true_eq, decide_eq_false_iff_not, Bool.not_eq_true', Bool.not_eq_false', Bool.not_eq_true, Bool.not_eq_false] at hc5; omega) | omega)
            all_goals
             try simp only [decide_eq_true_eq, decide_eq_false_iff_not, Bool.not_eq_true', Bool.not_eq_false', Bool.not_eq_true, Bool.not_eq_false, Option.isNone_none, Option.isNone_some, Option.isSome_none, Option.isSome_some, ne_eq, Decidable.not_not] at hc5
             have hjl : j < l.length := by simpa using hc5
             obtain ⟨b0, off, rfl, _⟩ := hr.open (by omega)
             have hgj : l[j]? = some l[j] := List.getElem?_eq_getElem hjl
             generalize l[j] = s at *
             refine WC.skip ?_
             refine WX.next ?_
             refine WC.seq ?_
             refine WC.block ?_
             refine WC.seq ?_
             refine WC.seq ?_
             refine WC.region ?_
             refine WL.val rfl rfl rfl rfl (r_move rfl (ev_t rfl)) ?_
             refine WL.val rfl rfl rfl rfl (r_move rfl (ev_t rfl)) ?_
             refine WL.val rfl rfl rfl rfl (r_indexAddr rfl (ev_t rfl) (ev_t rfl) elem_22 size_9 (by omega) (by omega)) ?_
             refine WL.val rfl rfl rfl rfl (r_load rfl (ev_t rfl) flat_9 (hr.cell (j := j) (u := Str s) (show off + (j : Int).toNat * 1 = off + j by omega) (by rw [List.getElem?_map, hgj]; rfl))) ?_
             refine WL.val rfl rfl rfl rfl (r_lenStrL rfl (ev_t rfl) str_9) ?_
             refine WL.val rfl rfl rfl rfl (r_gtr rfl (ev_t rfl) ev_c) ?_
             refine WL.nil ?_
             refine WX.keep [(0, _), (1, _), (5, _), (6, _), (34, _)] ⟨rfl, rfl, rfl, rfl, rfl, trivial⟩ ?_
             refine WX.next ?_
             refine WC.cond rfl (ev_t rfl) (fun hc7 => ?_) (fun hc7 => ?_)
             · try (exfalso; first | (simp at hc7; done) | (simp only [decide_eq_true_eq, decide_eq_false_iff_not, Bool.not_eq_true', Bool.not_eq_false', Bool.not_eq_true, Bool.not_eq_false] at hc7; omega) | omega)
               all_goals
                try simp only [decide_eq_true_eq, decide_eq_false_iff_not, Bool.not_eq_true', Bool.not_eq_false', Bool.not_eq_true, Bool.not_eq_false, Option.isNone_none, Option.isNone_some, Option.isSome_none, Option.isSome_some, ne_eq, Decidable.not_not] at hc7
                refine WC.seq ?_
                refine WC.region ?_
                refine WL.val rfl rfl rfl rfl (r_assign rfl ev_c) ?_
                refine WL.nil ?_
                refine WX.keep [(4, _)] ⟨rfl, trivial⟩ ?_
                refine WX.next ?_
                refine WC.ret ?_
                refine WX.thenRet ?_
                refine WX.blockRet ?_
                refine WX.thenRet ?_
                refine WX.thenRet ?_
                refine WX.blockRet ?_
                refine WX.thenRet ?_
                refine WX.retE1 rfl rfl ?_
                exact ⟨rfl, hU⟩
             · try (exfalso; first | (simp at hc7; done) | (simp only [decide_eq_true_eq, decide_eq_false_iff_not, Bool.not_eq_true', Bool.not_eq_false', Bool.not_eq_true, Bool.not_eq_false] at hc7; omega) | omega)
               all_goals
                try simp only [decide_eq_true_eq, decide_eq_false_iff_not, Bool.not_eq_true', Bool.not_eq_false', Bool.not_eq_true, Bool.not_eq_false, Option.isNone_none, Option.isNone_some, Option.isSome_none, Option.isSome_some, ne_eq, Decidable.not_not] at hc7
                have hs1 : s.length ≤ 1000 := by simp [Str] at hc7; omega
                refine WC.skip ?_
                refine WX.next ?_
                refine WC.region ?_
                refine WL.val rfl rfl rfl rfl (r_move rfl (ev_t rfl)) ?_
                refine WL.val rfl rfl rfl rfl (r_move rfl (ev_t rfl)) ?_
                refine WL.val rfl rfl rfl rfl (r_move rfl (ev_t rfl)) ?_
                refine WL.val rfl rfl rfl rfl (r_indexAddr rfl (ev_t rfl) (ev_t rfl) elem_22 size_9 (by omega) (by omega)) ?_
                refine WL.val rfl rfl rfl rfl (r_load rfl (ev_t rfl) flat_9 (hr.cell (j := j) (u := Str s) (show off + (j : Int).toNat * 1 = off + j by omega) (by rw [List.getElem?_map, hgj]; rfl))) ?_
                refine WL.val rfl rfl rfl rfl (r_lenStrL rfl (ev_t rfl) str_9) ?_
                refine WL.cons (SO.call (need_ok (n := s.length) (by omega)) rfl body_10 ⟨ev_c, (ev_t rfl), trivial⟩ rfl rfl rfl rfl ?_)
                rintro v w4 ⟨rfl, rfl⟩
                first | refine WL.val rfl rfl rfl rfl (r_addN rfl (ev_t rfl) (ev_t rfl) (by simp only [inK]; omega)) ?_ | refine WL.val rfl rfl rfl rfl (r_add rfl (ev_t rfl) (ev_t rfl)) ?_
                refine WL.val rfl rfl rfl rfl (r_assign rfl (ev_t rfl)) ?_
                refine WL.nil ?_
                refine WX.keep [(0, _), (1, _), (5, _), (6, _)] ⟨rfl, rfl, rfl, rfl, trivial⟩ ?_
                refine WX.blockNormal ?_
                refine WX.next ?_
                refine WC.region ?_
                refine WL.val rfl rfl rfl rfl (r_move rfl (ev_t rfl)) ?_
                first | refine WL.val rfl rfl rfl rfl (r_addN rfl (ev_t rfl) ev_c (by simp only [inK]; omega)) ?_ | refine WL.val rfl rfl rfl rfl (r_add rfl (ev_t rfl) ev_c) ?_
                refine WL.val rfl rfl rfl rfl (r_assign rfl (ev_t rfl)) ?_
                refine WL.nil ?_
                refine WX.keep [(0, _), (1, _), (5, _), (6, _)] ⟨rfl, rfl, rfl, rfl, trivial⟩ ?_
                refine WX.meet [(0, _), (1, _), (5, _), (6, _)] ⟨rfl, rfl, rfl, rfl, trivial⟩ ?_
                refine ⟨l.length - (j + 1), by omega, j + 1, by omega, rfl, ?_, hU, hr, ?_⟩
                · intro i x hx hi
                  rcases Nat.lt_or_ge i j with h | h
                  · exact hlen i x hx h
                  · obtain rfl : i = j := by omega
                    rw [hgj] at hx
                    injection hx with hx
                    rw [← hx]
                    exact hs1
                · have h1 := (tsum_take hgj).1
                  have h2 : textN s = 1 + (s.length + 7) / 8 := rfl
                  simp
                  omega
          · try (exfalso; first | (simp at hc5; done) | (simp only [decide_eq_true_eq, decide_eq_false_iff_not, Bool.not_eq_true', Bool.not_eq_false', Bool.not_eq_true, Bool.not_eq_false] at hc5; omega) | omega)
            all_goals
             try simp only [decide_eq_true_eq, decide_eq_false_iff_not, Bool.not_eq_true', Bool.not_eq_false', Bool.not_eq_true, Bool.not_eq_false, Option.isNone_none, Option.isNone_some, Option.isSome_none, Option.isSome_some, ne_eq, Decidable.not_not] at hc5
             refine WC.exit ?_
             refine WX.thenExit ?_
             refine WX.thenExit ?_
             refine WX.blockHere ?_
             refine WX.next ?_
             refine WC.seq ?_
             obtain rfl : j = l.length := by
               have : ¬ j < l.length := by simpa using hc5
               omega
             rw [List.take_length] at hts ⊢
             have hlen2 : ∀ s ∈ l, s.length ≤ 1000 := fun x hx => by obtain ⟨i, hi, rfl⟩ := List.mem_iff_getElem.1 hx; exact hlen i _ (List.getElem?_eq_getElem hi) hi
             obtain ⟨q, hq⟩ : ∃ q, q = 1 + tsum l + 200 := ⟨_, rfl⟩
             refine WC.region ?_
             refine WL.val rfl rfl rfl rfl (r_move rfl (ev_t rfl)) ?_
             first | refine WL.val rfl rfl rfl rfl (r_addN rfl (ev_t rfl) ev_c (by simp only [inK]; omega)) ?_ | refine WL.val rfl rfl rfl rfl (r_add rfl (ev_t rfl) ev_c) ?_
             rw [show (((1 + tsum l : Nat) : Int) + 200) = (q : Int) by omega]
             refine WL.cons (SO.call (new_ok (q := (q : Int)) (by simp only [inK]; omega)) rfl body_11 ⟨(ev_t rfl), trivial⟩ rfl rfl rfl rfl ?_)
             rintro v w5 ⟨-, h2, hu5⟩
             obtain ⟨rfl, hb⟩ := h2 (by omega)
             have hs5 := hu5.size
             replace hU := hU.trans hu5 (by first | exact (fun _ _ h => h) | exact (fun _ _ h => h.elim) | (intro k hl hk; (try simp only [At, New, Grow, From, No] at hk ⊢); omega) | (intro k hl hk; first | exact (show False from hk).elim | (have h2 := hGr _ hk; omega) | (have h2 := hGw _ hk; omega) | (have h2 : p ≤ k := hk; omega)))
             replace hr := hr.upd hu5 (fun k hk hl hS => by have h1 := hF k hk; first | exact (show False from hS).elim | (have h2 := hGr _ hS; omega) | (have h2 := hGw _ hS; omega) | (have h2 : p ≤ k := hS; omega))
             have hT := TX.new (q := q) hb (by omega)
             obtain ⟨p, hp⟩ : ∃ p, p = wC.heap.size := ⟨_, rfl⟩
             rw [← hp] at hT ⊢
             have hBp : B ≤ p := by have := hU.size; omega
             refine WL.val rfl rfl rfl rfl (r_move rfl (ev_t rfl)) ?_
             refine WL.val rfl rfl rfl rfl (r_extract rfl (ev_t rfl) rfl) ?_
             refine WL.val rfl rfl rfl rfl (r_extract rfl (ev_t rfl) rfl) ?_
             refine WL.val rfl rfl rfl rfl (r_assign rfl (ev_t rfl)) ?_
             refine WL.val rfl rfl rfl rfl (r_assign rfl (ev_t rfl)) ?_
             refine WL.nil ?_
             refine WX.keep [(0, _), (1, _), (7, _), (8, _)] ⟨rfl, rfl, rfl, rfl, trivial⟩ ?_
             refine WX.next ?_
             refine WC.seq ?_
             refine WC.seq ?_
             refine WC.region ?_
             refine WL.val rfl rfl rfl rfl (r_move rfl (ev_t rfl)) ?_
             refine WL.val rfl rfl rfl rfl (r_neq rfl (ev_t rfl) ev_c) ?_
             refine WL.nil ?_
             refine WX.keep [(0, _), (1, _), (7, _), (50, _)] ⟨rfl, rfl, rfl, rfl, trivial⟩ ?_
             refine WX.next ?_
             refine WC.cond rfl (ev_t rfl) (fun hc11 => ?_) (fun hc11 => ?_)
             · try (exfalso; first | (simp at hc11; done) | (simp only [decide_eq_true_eq, decide_eq_false_iff_not, Bool.not_eq_true', Bool.not_eq_false', Bool.not_eq_true, Bool.not_eq_false] at hc11; omega) | omega)
               all_goals
                try simp only [decide_eq_true_eq, decide_eq_false_iff_not, Bool.not_eq_true', Bool.not_eq_false', Bool.not_eq_true, Bool.not_eq_false, Option.isNone_none, Option.isNone_some, Option.isSome_none, Option.isSome_some, ne_eq, Decidable.not_not] at hc11
                refine WC.seq ?_
                refine WC.region ?_
                refine WL.val rfl rfl rfl rfl (r_assign rfl ev_c) ?_
                refine WL.nil ?_
                refine WX.keep [(4, _)] ⟨rfl, trivial⟩ ?_
                refine WX.next ?_
                refine WC.ret ?_
                refine WX.thenRet ?_
                refine WX.retE1 rfl rfl ?_
                fail
             · try (exfalso; first | (simp at hc11; done) | (simp only [decide_eq_true_eq, decide_eq_false_iff_not, Bool.not_eq_true', Bool.not_eq_false', Bool.not_eq_true, Bool.not_eq_false] at hc11; omega) | omega)
               all_goals
                try simp only [decide_eq_true_eq, decide_eq_false_iff_not, Bool.not_eq_true', Bool.not_eq_false', Bool.not_eq_true, Bool.not_eq_false, Option.isNone_none, Option.isNone_some, Option.isSome_none, Option.isSome_some, ne_eq, Decidable.not_not] at hc11
                refine WC.skip ?_
                refine WX.next ?_
                refine WC.seq ?_
                refine WC.region ?_
                refine WL.val rfl rfl rfl rfl (r_assign rfl ev_c) ?_
                refine WL.nil ?_
                refine WX.keep [(0, _), (1, _), (7, _), (9, _)] ⟨rfl, rfl, rfl, rfl, trivial⟩ ?_
                refine WX.next ?_
                refine WC.seq ?_
                refine WC.region ?_
                refine WL.val rfl rfl rfl rfl (r_assign rfl ev_c) ?_
                refine WL.nil ?_
                refine WX.keep [(0, _), (1, _), (7, _), (9, _), (10, _)] ⟨rfl, rfl, rfl, rfl, rfl, trivial⟩ ?_
                refine WX.next ?_
                refine WC.seq ?_
                refine WC.seq ?_
                refine WC.region ?_
                refine WL.val rfl rfl rfl rfl (r_assign rfl ev_c) ?_
                refine WL.nil ?_
                refine WX.keep [(0, _), (1, _), (7, _), (9, _), (10, _), (11, _)] ⟨rfl, rfl, rfl, rfl, rfl, rfl, trivial⟩ ?_
                refine WX.next ?_
                refine WC.block ?_
                -- loop 2: live [0, 1, 7, 9, 10, 11]
                refine WC.keep [(0, _), (1, _), (7, _), (9, _), (10, _), (11, _)] ⟨rfl, rfl, rfl, rfl, rfl, rfl, trivial⟩ ?_
                refine WC.loop (fun qq E wC => ∃ (i : Nat) (rs : List Nat) (ws : List (List UInt8)) (vr vw : Value), i ≤ l.length ∧ qq = l.length - i ∧ Upd No w wC ∧ Rd wC F (.slice A l.length c) l.length 1 (l.map Str) ∧ TX wC p p q (tsum (l.take i)) (2 * i) rs ws vr vw ∧ E = [(0, .slice A l.length c), (1, .int .u32 (kp : Int)), (7, .pointer (some ⟨p, 0, none⟩)), (9, vr), (10, vw), (11, .int .i64 (i : Int))]) (l.length) ?_ ?_
                · exact ⟨0, [], [], _, _, by omega, by omega, hU, hr, hT, rfl⟩
                · clear hU hr hT
                  rintro qq E wD ⟨i, rs, ws, vr, vw, hi, rfl, hU, hr, hT, rfl⟩
                  have hUs := hU.size
                  obtain ⟨g, Av, cv, Fv, rfl, hpos, hRv, hrsl, hpl⟩ := hT.form (by omega)
                  have hrm : (rs.map (2 * ·)).length = rs.length := List.length_map _
                  refine WC.seq ?_
                  refine WC.seq ?_
                  refine WC.region ?_
                  refine WL.val rfl rfl rfl rfl (r_move rfl (ev_t rfl)) ?_
                  refine WL.val rfl rfl rfl rfl (r_move rfl (ev_t rfl)) ?_
                  refine WL.val rfl rfl rfl rfl (r_lenSlice (ts := #[]) rfl (ev_t rfl) elem_22) ?_
                  refine WL.val rfl rfl rfl rfl (r_lss rfl (ev_t rfl) (ev_t rfl)) ?_
                  refine WL.nil ?_
                  refine WX.keep [(0, _), (1, _), (7, _), (9, _), (10, _), (11, _), (54, _)] ⟨rfl, rfl, rfl, rfl, rfl, rfl, rfl, trivial⟩ ?_
                  refine WX.next ?_
                  refine WC.cond rfl (ev_t rfl) (fun hc16 => ?_) (fun hc16 => ?_)
                  · try (exfalso; first | (simp at hc16; done) | (simp only [decide_eq_true_eq, decide_eq_false_iff_not, Bool.not_eq_true', Bool.not_eq_false', Bool.not_eq_true, Bool.not_eq_false] at hc16; omega) | omega)
                    all_goals
                     try simp only [decide_eq_true_eq, decide_eq_false_iff_not, Bool.not_eq_true', Bool.not_eq_false', Bool.not_eq_true, Bool.not_eq_false, Option.isNone_none, Option.isNone_some, Option.isSome_none, Option.isSome_some, ne_eq, Decidable.not_not] at hc16
                     have hil : i < l.length := by simpa using hc16
                     obtain ⟨b0, off, rfl, _⟩ := hr.open (by omega)
                     have hgi : l[i]? = some l[i] := List.getElem?_eq_getElem hil
                     generalize l[i] = s at *
                     have hs1 := hlen2 s (List.mem_of_getElem? hgi)
                     obtain ⟨ht1, ht2⟩ := tsum_take hgi
                     refine WC.skip ?_
                     refine WX.next ?_
                     refine WC.seq ?_
                     refine WC.block ?_
                     refine WC.seq ?_
                     refine WC.draws' (fun u0_ u1_ => Upd No u0_ u1_) (fun j => [0, 0, 0, 0, 0, 0, 1, 2, 0, 0, 0, 0, 0].getD j 0) (.calm 0 (.calm 1 (.calm 2 (.calm 3 (.calm 5 (.held 4 (.one 6 (.one 7 (.calm 8 (.calm 9 (.calm 10 (.calm 11 (.calm 12 (.done)))))))))))))) mixed (by kernel_rfl) (by repeat (first | with_reducible exact Deaf.body | with_reducible apply Deaf.then | with_reducible apply Deaf.block)) ?_
                     intro w6 hu6
                     have hz6 := congrArg Array.size hu6.2.2.2
                     replace hu6 := Upd.of_draw hu6
                     have hs6 := hu6.size
                     replace hU := hU.trans hu6 (by first | exact (fun _ _ h => h) | exact (fun _ _ h => h.elim) | (intro k hl hk; (try simp only [At, New, Grow, From, No] at hk ⊢); omega) | (intro k hl hk; first | exact (show False from hk).elim | (have h2 := hGr _ hk; omega) | (have h2 := hGw _ hk; omega) | (have h2 : p ≤ k := hk; omega)))
                     replace hr := hr.upd hu6 (fun k hk hl hS => by have h1 := hF k hk; first | exact (show False from hS).elim | (have h2 := hGr _ hS; omega) | (have h2 := hGw _ hS; omega) | (have h2 : p ≤ k := hS; omega))
                     replace hT := hT.upd hu6 (fun k hl hS => hS)
                     replace hRv := hRv.upd hu6 (fun k hk hl hS => (show False from hS).elim)
                     have hS18 := Upd.refl No w6
                     refine WN.calm _ rfl rfl rfl rfl rfl (fun _ => r_move rfl (ev_t rfl)) ?_
                     refine WN.calm _ rfl rfl rfl rfl rfl (fun _ => r_move rfl (ev_t rfl)) ?_
                     refine WN.calm _ rfl rfl rfl rfl rfl (fun _ => r_move rfl (ev_t rfl)) ?_
                     refine WN.calm _ rfl rfl rfl rfl rfl (fun _ => r_indexAddr rfl (ev_t rfl) (ev_t rfl) elem_22 size_9 (by omega) (by omega)) ?_
                     refine WN.calm _ rfl rfl rfl rfl rfl (fun _ => r_move rfl (ev_t rfl)) ?_
                     refine WN.held _ rfl rfl rfl rfl rfl hS18 (fun w' hS => r_load rfl (ev_t rfl) flat_9 ((hr.upd hS (fun _ _ _ h => h)).cell (j := i) (u := Str s) (show off + (i : Int).toNat * 1 = off + i by omega) (by rw [List.getElem?_map, hgi]; rfl))) ?_
                     refine WN.step _ rfl (SO.call (pointers_ok (g := g) hRv (fun h => (hpos h).1) (by rw [List.length_map]; omega)) rfl body_13 ⟨(ev_t rfl), trivial⟩ rfl rfl rfl rfl ?_)
                     rintro v w7 ⟨-, hu7⟩
                     have hs7 := hu7.size
                     replace hS18 := Upd.transA hS18 hu7
                     replace hU := hU.trans hu7 (by first | exact (fun _ _ h => h) | exact (fun _ _ h => h.elim) | (intro k hl hk; (try simp only [At, New, Grow, From, No] at hk ⊢); omega) | (intro k hl hk; first | exact (show False from hk).elim | (have h2 := hGr _ hk; omega) | (have h2 := hGw _ hk; omega) | (have h2 : p ≤ k := hk; omega)))
                     replace hr := hr.upd hu7 (fun k hk hl hS => by have h1 := hF k hk; first | exact (show False from hS).elim | (have h2 := hGr _ hS; omega) | (have h2 := hGw _ hS; omega) | (have h2 : p ≤ k := hS; omega))
                     replace hT := hT.upd hu7 (fun k hl hS => hS)
                     replace hRv := hRv.upd hu7 (fun k hk hl hS => (show False from hS).elim)
                     refine ⟨hS18, ?_⟩
                     refine WN.step _ rfl (SO.call (puttextTX_ok (s := s) hT hs1 (by omega) (Nat.le_refl _)) rfl body_12 ⟨(ev_t rfl), (ev_t rfl), (ev_t rfl), trivial⟩ rfl rfl rfl rfl ?_)
                     rintro v w8 ⟨G, Gr, Gw, A1, c1, mem, st, nn, rfl, hH, hv, hml, hnl, hR, hW, hwl, hrl, hP, hGb, hGr, hGw, hu8⟩
                     have hs8 := hu8.size
                     try replace hS18 := Upd.transA hS18 hu8
                     replace hU := hU.trans hu8 (by first | exact (fun _ _ h => h) | exact (fun _ _ h => h.elim) | (intro k hl hk; (try simp only [At, New, Grow, From, No] at hk ⊢); omega) | (intro k hl hk; first | exact (show False from hk).elim | (have h2 := hGr _ hk; omega) | (have h2 := hGw _ hk; omega) | (have h2 : p ≤ k := hk; omega)))
                     replace hr := hr.upd hu8 (fun k hk hl hS => by have h1 := hF k hk; first | exact (show False from hS).elim | (have h2 := hGr _ hS; omega) | (have h2 := hGw _ hS; omega) | (have h2 : p ≤ k := hS; omega))
                     obtain ⟨z0, hz0⟩ : ∃ z, z = (w8).heap.size := ⟨_, rfl⟩
                     rw [← hz0] at hGr hGw
                     have hHl' := hH.lt
                     rw [← hz0] at hHl'
                     have hpz := hH.hd.lt
                     rw [← hz0] at hpz
                     have hml2 : (mem ++ [s.length * 256 + 3] ++ encT s).length ≤ tsum (l.take (i + 1)) := by
                       rw [ht1, List.length_append, List.length_append, encT_len]
                       unfold textN
                       simp
                       omega
                     refine ⟨trivial, ?_⟩
                     refine WN.calm _ rfl rfl rfl rfl rfl (fun _ => r_move rfl (ev_t rfl)) ?_
                     refine WN.calm _ rfl rfl rfl rfl rfl (fun _ => r_extract rfl (ev_t rfl) rfl) ?_
                     refine WN.calm _ rfl rfl rfl rfl rfl (fun _ => r_extract rfl (ev_t rfl) rfl) ?_
                     refine WN.calm _ rfl rfl rfl rfl rfl (fun _ => r_assign rfl (ev_t rfl)) ?_
                     refine WN.calm _ rfl rfl rfl rfl rfl (fun _ => r_assign rfl (ev_t rfl)) ?_
                     refine WN.done ?_
                     refine WX.keep [(0, _), (1, _), (7, _), (9, _), (10, _), (11, _), (12, _), (13, _)] ⟨rfl, rfl, rfl, rfl, rfl, rfl, rfl, rfl, trivial⟩ ?_
                     refine WX.next ?_
                     refine WC.seq ?_
                     refine WC.seq ?_
                     refine WC.region ?_
                     refine WL.val rfl rfl rfl rfl (r_move rfl (ev_t rfl)) ?_
                     refine WL.val rfl rfl rfl rfl (r_neq rfl (ev_t rfl) ev_c) ?_
                     refine WL.nil ?_
                     refine WX.keep [(0, _), (1, _), (7, _), (9, _), (10, _), (11, _), (12, _), (69, _)] ⟨rfl, rfl, rfl, rfl, rfl, rfl, rfl, rfl, trivial⟩ ?_
                     refine WX.next ?_
                     refine WC.cond rfl (ev_t rfl) (fun hc19 => ?_) (fun hc19 => ?_)
                     · try (exfalso; first | (simp at hc19; done) | (simp only [decide_eq_true_eq, decide_eq_false_iff_not, Bool.not_eq_true', Bool.not_eq_false', Bool.not_eq_true, Bool.not_eq_false] at hc19; omega) | omega)
                       all_goals
                        try simp only [decide_eq_true_eq, decide_eq_false_iff_not, Bool.not_eq_true', Bool.not_eq_false', Bool.not_eq_true, Bool.not_eq_false, Option.isNone_none, Option.isNone_some, Option.isSome_none, Option.isSome_some, ne_eq, Decidable.not_not] at hc19
                        refine WC.seq ?_
                        refine WC.region ?_
                        refine WL.val rfl rfl rfl rfl (r_assign rfl ev_c) ?_
                        refine WL.nil ?_
                        refine WX.keep [(4, _)] ⟨rfl, trivial⟩ ?_
                        refine WX.next ?_
                        refine WC.ret ?_
                        refine WX.thenRet ?_
                        refine WX.blockRet ?_
                        refine WX.thenRet ?_
                        refine WX.thenRet ?_
                        refine WX.blockRet ?_
                        refine WX.thenRet ?_
                        refine WX.retE1 rfl rfl ?_
                        fail
                     · try (exfalso; first | (simp at hc19; done) | (simp only [decide_eq_true_eq, decide_eq_false_iff_not, Bool.not_eq_true', Bool.not_eq_false', Bool.not_eq_true, Bool.not_eq_false] at hc19; omega) | omega)
                       all_goals
                        try simp only [decide_eq_true_eq, decide_eq_false_iff_not, Bool.not_eq_true', Bool.not_eq_false', Bool.not_eq_true, Bool.not_eq_false, Option.isNone_none, Option.isNone_some, Option.isSome_none, Option.isSome_some, ne_eq, Decidable.not_not] at hc19
                        refine WC.skip ?_
                        refine WX.next ?_
                        -- cut 21: live [0, 1, 7, 9, 10, 11]
                        refine WC.cut (fun E wB => ∃ (rs2 : List Nat) (ws2 : List (List UInt8)) (vr2 vw2 : Value), Upd No w wB ∧ Rd wB F (.slice (some ⟨b0, off, none⟩) l.length c) l.length 1 (l.map Str) ∧ TX wB p p q (tsum (l.take (i + 1))) (2 * i + 1) rs2 ws2 vr2 vw2 ∧ E = [(0, .slice (some ⟨b0, off, none⟩) l.length c), (1, .int .u32 (kp : Int)), (7, .pointer (some ⟨p, 0, none⟩)), (9, vr2), (10, vw2), (11, .int .i64 (i : Int))]) ?_ ?_
                        · refine WC.seq ?_
                          refine WC.region ?_
                          refine WL.val rfl rfl rfl rfl (r_move rfl (ev_t rfl)) ?_
                          refine WL.val rfl rfl rfl rfl (r_move rfl (ev_t rfl)) ?_
                          refine WL.val rfl rfl rfl rfl (r_shr rfl (ev_t rfl) (ev_t rfl) (by omega) (by simp only [IntKind.bits]; omega)) ?_
                          refine WL.val rfl rfl rfl rfl (r_and rfl (ev_t rfl) ev_c) ?_
                          refine WL.val rfl rfl rfl rfl (r_eql rfl (ev_t rfl) ev_c) ?_
                          refine WL.nil ?_
                          refine WX.keep [(0, _), (1, _), (7, _), (9, _), (10, _), (11, _), (12, _), (74, _)] ⟨rfl, rfl, rfl, rfl, rfl, rfl, rfl, rfl, trivial⟩ ?_
                          refine WX.next ?_
                          refine WC.cond rfl (ev_t rfl) (fun hc21 => ?_) (fun hc21 => ?_)
                          · try (exfalso; first | (simp at hc21; done) | (simp only [decide_eq_true_eq, decide_eq_false_iff_not, Bool.not_eq_true', Bool.not_eq_false', Bool.not_eq_true, Bool.not_eq_false] at hc21; omega) | omega)
                            all_goals
                             try simp only [decide_eq_true_eq, decide_eq_false_iff_not, Bool.not_eq_true', Bool.not_eq_false', Bool.not_eq_true, Bool.not_eq_false, Option.isNone_none, Option.isNone_some, Option.isSome_none, Option.isSome_some, ne_eq, Decidable.not_not] at hc21
                             refine WC.seq ?_
                             refine WC.region ?_
                             refine WL.val rfl rfl rfl rfl (r_move rfl (ev_t rfl)) ?_
                             refine WL.val rfl rfl rfl rfl (r_move rfl (ev_t rfl)) ?_
                             refine WL.cons (SO.alloc rfl rfl rfl rfl (r_buildSlice1 (vs := [_]) rfl ⟨(ev_t rfl), trivial⟩ rfl row_30 rfl rfl) ?_)
                             intro w9 hu9 hB9 hz9
                             have hs9 := hu9.size
                             replace hU := hU.trans hu9 (by first | exact (fun _ _ h => h) | exact (fun _ _ h => h.elim) | (intro k hl hk; (try simp only [At, New, Grow, From, No] at hk ⊢); omega) | (intro k hl hk; first | exact (show False from hk).elim | (have h2 := hGr _ hk; omega) | (have h2 := hGw _ hk; omega) | (have h2 : p ≤ k := hk; omega)))
                             replace hr := hr.upd hu9 (fun k hk hl hS => by have h1 := hF k hk; first | exact (show False from hS).elim | (have h2 := hGr _ hS; omega) | (have h2 := hGw _ hS; omega) | (have h2 : p ≤ k := hS; omega))
                             replace hH := hH.upd hu9 (fun k hk hl hS => by first | exact (show False from hS).elim | (have h2 := hGr k hS; rcases hk with hk | hk; exact h2.2.1 hk; exact h2.2.2.1 hk) | (have h2 := hGw k hS; rcases hk with hk | hk; exact h2.2.1 hk; exact h2.2.2.1 hk))
                             replace hR := hR.upd hu9 (fun k hk hl hS => by first | exact (show False from hS).elim | (have h3 := hGw k hS; rcases hk with hk | hk; exact (hGr k hk).2.2.2.1 hS; omega))
                             replace hW := hW.upd hu9 (fun k hk hl hS => by first | exact (show False from hS).elim | (have h2 := hGr k hS; exact h2.2.2.2.1 hk))
                             refine WL.cons (SO.append hR (show Rd _ _ _ 1 1 [Wd (2 * mem.length)] from Rd.of_blk (F := At _) (n := 1) (sz := 1) hB9 rfl rfl (by omega)) row_30 (fun u hu => by simp at hu; subst hu; rfl) (le_maxLen (by omega)) (by omega) rfl (ev_t rfl) (ev_t rfl) rfl rfl rfl rfl ?_)
                             intro v10 w10 hR hu10
                             have hs10 := hu10.size
                             replace hU := hU.trans hu10 (by first | exact (fun _ _ h => h) | exact (fun _ _ h => h.elim) | (intro k hl hk; (try simp only [At, New, Grow, From, No] at hk ⊢); omega) | (intro k hl hk; first | exact (show False from hk).elim | (have h2 := hGr _ hk; omega) | (have h2 := hGw _ hk; omega) | (have h2 : p ≤ k := hk; omega)))
                             replace hr := hr.upd hu10 (fun k hk hl hS => by have h1 := hF k hk; first | exact (show False from hS).elim | (have h2 := hGr _ hS; omega) | (have h2 := hGw _ hS; omega) | (have h2 : p ≤ k := hS; omega))
                             replace hH := hH.upd hu10 (fun k hk hl hS => by first | exact (show False from hS).elim | (have h2 := hGr k hS; rcases hk with hk | hk; exact h2.2.1 hk; exact h2.2.2.1 hk) | (have h2 := hGw k hS; rcases hk with hk | hk; exact h2.2.1 hk; exact h2.2.2.1 hk))
                             replace hW := hW.upd hu10 (fun k hk hl hS => by first | exact (show False from hS).elim | (have h2 := hGr k hS; exact h2.2.2.2.1 hk))
                             obtain ⟨A10, c10, rfl, hc10⟩ := Own.form hR
                             obtain ⟨z1, hz1⟩ : ∃ z, z = (w10).heap.size := ⟨_, rfl⟩
                             replace hR := hR.mono (F' := fun k => Gr k ∨ z0 ≤ k ∧ k < z1) (fun k hk => by rcases hk with hk | hk; exact .inl hk; exact .inr (by omega))
                             refine WL.val rfl rfl rfl rfl (r_assign rfl (ev_t rfl)) ?_
                             refine WL.nil ?_
                             refine WX.keep [(0, _), (1, _), (7, _), (9, _), (10, _), (11, _)] ⟨rfl, rfl, rfl, rfl, rfl, rfl, trivial⟩ ?_
                             refine WX.next ?_
                             refine WC.region ?_
                             refine WL.val rfl rfl rfl rfl (r_move rfl (ev_t rfl)) ?_
                             refine WL.val rfl rfl rfl rfl (r_move rfl (ev_t rfl)) ?_
                             refine WL.val rfl rfl rfl rfl (r_move rfl (ev_t rfl)) ?_
                             refine WL.val rfl rfl rfl rfl (r_indexAddr rfl (ev_t rfl) (ev_t rfl) elem_22 size_9 (by omega) (by omega)) ?_
                             refine WL.val rfl rfl rfl rfl (r_load rfl (ev_t rfl) flat_9 (hr.cell (j := i) (u := Str s) (show off + (i : Int).toNat * 1 = off + i by omega) (by rw [List.getElem?_map, hgi]; rfl))) ?_
                             refine WL.cons (SO.alloc rfl rfl rfl rfl (r_buildSlice1 (vs := [_]) rfl ⟨(ev_t rfl), trivial⟩ rfl row_22 rfl rfl) ?_)
                             intro w11 hu11 hB11 hz11
                             have hs11 := hu11.size
                             replace hU := hU.trans hu11 (by first | exact (fun _ _ h => h) | exact (fun _ _ h => h.elim) | (intro k hl hk; (try simp only [At, New, Grow, From, No] at hk ⊢); omega) | (intro k hl hk; first | exact (show False from hk).elim | (have h2 := hGr _ hk; omega) | (have h2 := hGw _ hk; omega) | (have h2 : p ≤ k := hk; omega)))
                             replace hr := hr.upd hu11 (fun k hk hl hS => by have h1 := hF k hk; first | exact (show False from hS).elim | (have h2 := hGr _ hS; omega) | (have h2 := hGw _ hS; omega) | (have h2 : p ≤ k := hS; omega))
                             replace hH := hH.upd hu11 (fun k hk hl hS => by first | exact (show False from hS).elim | (have h2 := hGr k hS; rcases hk with hk | hk; exact h2.2.1 hk; exact h2.2.2.1 hk) | (have h2 := hGw k hS; rcases hk with hk | hk; exact h2.2.1 hk; exact h2.2.2.1 hk))
                             replace hR := hR.upd hu11 (fun k hk hl hS => by first | exact (show False from hS).elim | (have h3 := hGw k hS; rcases hk with hk | hk; exact (hGr k hk).2.2.2.1 hS; omega))
                             replace hW := hW.upd hu11 (fun k hk hl hS => by first | exact (show False from hS).elim | (have h2 := hGr k hS; exact h2.2.2.2.1 hk))
                             refine WL.cons (SO.append hW (show Rd _ _ _ 1 1 [Str s] from Rd.of_blk (F := At _) (n := 1) (sz := 1) hB11 rfl rfl (by omega)) row_22 (fun u hu => by simp at hu; subst hu; rfl) (le_maxLen (by omega)) (by omega) rfl (ev_t rfl) (ev_t rfl) rfl rfl rfl rfl ?_)
                             intro v12 w12 hW hu12
                             have hs12 := hu12.size
                             replace hU := hU.trans hu12 (by first | exact (fun _ _ h => h) | exact (fun _ _ h => h.elim) | (intro k hl hk; (try simp only [At, New, Grow, From, No] at hk ⊢); omega) | (intro k hl hk; first | exact (show False from hk).elim | (have h2 := hGr _ hk; omega) | (have h2 := hGw _ hk; omega) | (have h2 : p ≤ k := hk; omega)))
                             replace hr := hr.upd hu12 (fun k hk hl hS => by have h1 := hF k hk; first | exact (show False from hS).elim | (have h2 := hGr _ hS; omega) | (have h2 := hGw _ hS; omega) | (have h2 : p ≤ k := hS; omega))
                             replace hH := hH.upd hu12 (fun k hk hl hS => by first | exact (show False from hS).elim | (have h2 := hGr k hS; rcases hk with hk | hk; exact h2.2.1 hk; exact h2.2.2.1 hk) | (have h2 := hGw k hS; rcases hk with hk | hk; exact h2.2.1 hk; exact h2.2.2.1 hk))
                             replace hR := hR.upd hu12 (fun k hk hl hS => by first | exact (show False from hS).elim | (have h3 := hGw k hS; rcases hk with hk | hk; exact (hGr k hk).2.2.2.1 hS; omega))
                             obtain ⟨A12, c12, rfl, hc12⟩ := Own.form hW
                             refine WL.val rfl rfl rfl rfl (r_assign rfl (ev_t rfl)) ?_
                             refine WL.nil ?_
                             refine WX.keep [(0, _), (1, _), (7, _), (9, _), (10, _), (11, _)] ⟨rfl, rfl, rfl, rfl, rfl, rfl, trivial⟩ ?_
                             refine WX.meet [(0, _), (1, _), (7, _), (9, _), (10, _), (11, _)] ⟨rfl, rfl, rfl, rfl, rfl, rfl, trivial⟩ ?_
                             first
                               | exact ⟨rs, ws, _, _, hU, hr, ⟨G, Gr, Gw, A1, c1, _, _, nn, hH, hv, hml2, by omega, hR, hW, hwl, by omega, hP, hGb, fun k hk => by have := hGr k hk; exact ⟨this.1, this.2.1, this.2.2.1, this.2.2.2.1, by omega⟩, fun k hk => by have := hGw k hk; exact ⟨this.1, this.2.1, this.2.2.1, by omega⟩⟩, rfl⟩
                               | (have hHl := hH.lt
                                  have hWl := hW.lt
                                  rw [show (rs.map (2 * ·)).map Wd ++ [Wd (2 * mem.length)] = ((rs ++ [mem.length]).map (2 * ·)).map Wd by simp, show (rs.map (2 * ·)).length + 1 = ((rs ++ [mem.length]).map (2 * ·)).length by simp] at hR
                                  rw [show ws.map Str ++ [Str s] = (ws ++ [s]).map Str by simp, show ws.length + 1 = (ws ++ [s]).length by simp] at hW
                                  rw [show (rs.map (2 * ·)).length + 1 = ((rs ++ [mem.length]).map (2 * ·)).length by simp, show ws.length + 1 = (ws ++ [s]).length by simp]
                                  refine ⟨rs ++ [mem.length], ws ++ [s], _, _, hU, hr, ⟨G, _, _, A1, c1, _, _, nn, hH, hv, hml2, by omega, hR, hW, by simp [hwl], by simp; omega, ?_, hGb, ?_, ?_⟩, rfl⟩
                                  · intro j a s' ha hw
                                    rcases Nat.lt_or_ge j rs.length with hj | hj
                                    · rw [List.getElem?_append_left hj] at ha
                                      rw [List.getElem?_append_left (by omega)] at hw
                                      exact hP j a s' ha hw
                                    · rw [List.getElem?_append_right hj] at ha
                                      rw [List.getElem?_append_right (by omega)] at hw
                                      have hj0 : j - rs.length = 0 := by have := (List.getElem?_eq_some_iff.1 ha).1; simp at this; omega
                                      rw [hj0] at ha
                                      rw [show j - ws.length = 0 by omega] at hw
                                      simp at ha hw
                                      subst ha hw
                                      exact ⟨by simp, textAt_put _ _, hs1⟩
                                  · intro k hk
                                    rcases hk with hk | hk
                                    · have h1 := hGr k hk
                                      refine ⟨h1.1, h1.2.1, h1.2.2.1, fun h => ?_, by omega⟩
                                      rcases h with h | h
                                      · exact h1.2.2.2.1 h
                                      · omega
                                    · refine ⟨by omega, by omega, fun h => by have := hHl' k h; omega, fun h => ?_, by omega⟩
                                      rcases h with h | h
                                      · have := hGw k h; omega
                                      · omega
                                  · intro k hk
                                    rcases hk with hk | hk
                                    · have h1 := hGw k hk
                                      exact ⟨h1.1, h1.2.1, h1.2.2.1, by omega⟩
                                    · exact ⟨by omega, by omega, fun h => by have := hHl' k h; omega, by omega⟩)
                          · try (exfalso; first | (simp at hc21; done) | (simp only [decide_eq_true_eq, decide_eq_false_iff_not, Bool.not_eq_true', Bool.not_eq_false', Bool.not_eq_true, Bool.not_eq_false] at hc21; omega) | omega)
                            all_goals
                             try simp only [decide_eq_true_eq, decide_eq_false_iff_not, Bool.not_eq_true', Bool.not_eq_false', Bool.not_eq_true, Bool.not_eq_false, Option.isNone_none, Option.isNone_some, Option.isSome_none, Option.isSome_some, ne_eq, Decidable.not_not] at hc21
                             refine WC.skip ?_
                             refine WX.meet [(0, _), (1, _), (7, _), (9, _), (10, _), (11, _)] ⟨rfl, rfl, rfl, rfl, rfl, rfl, trivial⟩ ?_
                             first
                               | exact ⟨rs, ws, _, _, hU, hr, ⟨G, Gr, Gw, A1, c1, _, _, nn, hH, hv, hml2, by omega, hR, hW, hwl, by omega, hP, hGb, fun k hk => by have := hGr k hk; exact ⟨this.1, this.2.1, this.2.2.1, this.2.2.2.1, by omega⟩, fun k hk => by have := hGw k hk; exact ⟨this.1, this.2.1, this.2.2.1, by omega⟩⟩, rfl⟩
                               | (have hHl := hH.lt
                                  have hWl := hW.lt
                                  rw [show (rs.map (2 * ·)).map Wd ++ [Wd (2 * mem.length)] = ((rs ++ [mem.length]).map (2 * ·)).map Wd by simp, show (rs.map (2 * ·)).length + 1 = ((rs ++ [mem.length]).map (2 * ·)).length by simp] at hR
                                  rw [show ws.map Str ++ [Str s] = (ws ++ [s]).map Str by simp, show ws.length + 1 = (ws ++ [s]).length by simp] at hW
                                  rw [show (rs.map (2 * ·)).length + 1 = ((rs ++ [mem.length]).map (2 * ·)).length by simp, show ws.length + 1 = (ws ++ [s]).length by simp]
                                  refine ⟨rs ++ [mem.length], ws ++ [s], _, _, hU, hr, ⟨G, _, _, A1, c1, _, _, nn, hH, hv, hml2, by omega, hR, hW, by simp [hwl], by simp; omega, ?_, hGb, ?_, ?_⟩, rfl⟩
                                  · intro j a s' ha hw
                                    rcases Nat.lt_or_ge j rs.length with hj | hj
                                    · rw [List.getElem?_append_left hj] at ha
                                      rw [List.getElem?_append_left (by omega)] at hw
                                      exact hP j a s' ha hw
                                    · rw [List.getElem?_append_right hj] at ha
                                      rw [List.getElem?_append_right (by omega)] at hw
                                      have hj0 : j - rs.length = 0 := by have := (List.getElem?_eq_some_iff.1 ha).1; simp at this; omega
                                      rw [hj0] at ha
                                      rw [show j - ws.length = 0 by omega] at hw
                                      simp at ha hw
                                      subst ha hw
                                      exact ⟨by simp, textAt_put _ _, hs1⟩
                                  · intro k hk
                                    rcases hk with hk | hk
                                    · have h1 := hGr k hk
                                      refine ⟨h1.1, h1.2.1, h1.2.2.1, fun h => ?_, by omega⟩
                                      rcases h with h | h
                                      · exact h1.2.2.2.1 h
                                      · omega
                                    · refine ⟨by omega, by omega, fun h => by have := hHl' k h; omega, fun h => ?_, by omega⟩
                                      rcases h with h | h
                                      · have := hGw k h; omega
                                      · omega
                                  · intro k hk
                                    rcases hk with hk | hk
                                    · have h1 := hGw k hk
                                      exact ⟨h1.1, h1.2.1, h1.2.2.1, by omega⟩
                                    · exact ⟨by omega, by omega, fun h => by have := hHl' k h; omega, by omega⟩)
                        · clear hU hr hT hH hR hW hP
                          rintro E wB ⟨rs2, ws2, vr2, vw2, hU, hr, hT, rfl⟩
                          have hUs := hU.size
                          obtain ⟨g2, Av2, cv2, Fv2, rfl, hpos2, hRv, hrsl2, hpl2⟩ := hT.form (by omega)
                          have hrm2 : (rs2.map (2 * ·)).length = rs2.length := List.length_map _
                          -- cut 24: live [0, 1, 7, 9, 10, 11]
                          refine WC.cut (fun E wB => ∃ (rs3 : List Nat), rs3.length = rs2.length ∧ Upd No w wB ∧ Rd wB F (.slice (some ⟨b0, off, none⟩) l.length c) l.length 1 (l.map Str) ∧ TX wB p p q (tsum (l.take (i + 1))) (2 * i + 2) rs3 ws2 (.slice Av2 (rs2.map (2 * ·)).length cv2) vw2 ∧ E = [(0, .slice (some ⟨b0, off, none⟩) l.length c), (1, .int .u32 (kp : Int)), (7, .pointer (some ⟨p, 0, none⟩)), (9, .slice Av2 (rs2.map (2 * ·)).length cv2), (10, vw2), (11, .int .i64 (i : Int))]) ?_ ?_
                          · refine WC.seq ?_
                            refine WC.region ?_
                            refine WL.val rfl rfl rfl rfl (r_move rfl (ev_t rfl)) ?_
                            first | refine WL.val rfl rfl rfl rfl (r_remN rfl (ev_t rfl) ev_c (by omega) (by omega)) ?_ | refine WL.val rfl rfl rfl rfl (r_rem rfl (ev_t rfl) ev_c (by omega)) ?_
                            refine WL.val rfl rfl rfl rfl (r_eql rfl (ev_t rfl) ev_c) ?_
                            refine WL.nil ?_
                            refine WX.keep [(0, _), (1, _), (7, _), (9, _), (10, _), (11, _), (88, _)] ⟨rfl, rfl, rfl, rfl, rfl, rfl, rfl, trivial⟩ ?_
                            refine WX.next ?_
                            refine WC.cond rfl (ev_t rfl) (fun hc24 => ?_) (fun hc24 => ?_)
                            · try (exfalso; first | (simp at hc24; done) | (simp only [decide_eq_true_eq, decide_eq_false_iff_not, Bool.not_eq_true', Bool.not_eq_false', Bool.not_eq_true, Bool.not_eq_false] at hc24; omega) | omega)
                              all_goals
                               try simp only [decide_eq_true_eq, decide_eq_false_iff_not, Bool.not_eq_true', Bool.not_eq_false', Bool.not_eq_true, Bool.not_eq_false, Option.isNone_none, Option.isNone_some, Option.isSome_none, Option.isSome_some, ne_eq, Decidable.not_not] at hc24
                               refine WC.region ?_
                               refine WL.val rfl rfl rfl rfl (r_move rfl (ev_t rfl)) ?_
                               refine WL.val rfl rfl rfl rfl (r_move rfl (ev_t rfl)) ?_
                               refine WL.cons (SO.call (pointers_ok (g := g2) hRv (fun h => (hpos2 h).1) (by omega)) rfl body_13 ⟨(ev_t rfl), trivial⟩ rfl rfl rfl rfl ?_)
                               rintro v w13 ⟨how, hu13⟩
                               have hs13 := hu13.size
                               replace hU := hU.trans hu13 (by first | exact (fun _ _ h => h) | exact (fun _ _ h => h.elim) | (intro k hl hk; (try simp only [At, New, Grow, From, No] at hk ⊢); omega) | (intro k hl hk; first | exact (show False from hk).elim | (have h2 := hGr _ hk; omega) | (have h2 := hGw _ hk; omega) | (have h2 : p ≤ k := hk; omega)))
                               replace hr := hr.upd hu13 (fun k hk hl hS => by have h1 := hF k hk; first | exact (show False from hS).elim | (have h2 := hGr _ hS; omega) | (have h2 := hGw _ hS; omega) | (have h2 : p ≤ k := hS; omega))
                               replace hT := hT.upd hu13 (fun k hl hS => hS)
                               have hsz9 := (hu13).size
                               refine WL.cons (SO.call (collectTX_ok (g := g2) hT (by omega) (Nat.le_refl _) (how.rd (by rw [rowAt_len]; omega)) (fun h => ⟨cv2, by rw [(hpos2 (by omega)).1]⟩) (fun k hk => hk.2) (fun k hk => ⟨by have := hk.1; omega, fun h => by have := hk.1; have := (hpos2 (by omega)).2; omega⟩)) rfl body_14 ⟨(ev_t rfl), (ev_t rfl), trivial⟩ rfl rfl rfl rfl ?_)
                               rintro v w14 ⟨rs3, hrs3, hT2, hu14⟩
                               have hs14 := hu14.size
                               replace hU := hU.trans hu14 (by first | exact (fun _ _ h => h) | exact (fun _ _ h => h.elim) | (intro k hl hk; (try simp only [At, New, Grow, From, No] at hk ⊢); omega) | (intro k hl hk; first | exact (show False from hk).elim | (have h2 := hGr _ hk; omega) | (have h2 := hGw _ hk; omega) | (have h2 : p ≤ k := hk; omega)))
                               replace hr := hr.upd hu14 (fun k hk hl hS => by have h1 := hF k hk; first | exact (show False from hS).elim | (have h2 := hGr _ hS; omega) | (have h2 := hGw _ hS; omega) | (have h2 : p ≤ k := hS; omega))
                               have hT3 := hT2
                               refine WL.nil ?_
                               refine WX.keep [(0, _), (1, _), (7, _), (9, _), (10, _), (11, _)] ⟨rfl, rfl, rfl, rfl, rfl, rfl, trivial⟩ ?_
                               refine WX.meet [(0, _), (1, _), (7, _), (9, _), (10, _), (11, _)] ⟨rfl, rfl, rfl, rfl, rfl, rfl, trivial⟩ ?_
                               first
                                 | exact ⟨rs3, hrs3, hU, hr, hT3, rfl⟩
                                 | exact ⟨rs2, rfl, hU, hr, hT.mono (Nat.le_refl _) (by omega), rfl⟩
                            · try (exfalso; first | (simp at hc24; done) | (simp only [decide_eq_true_eq, decide_eq_false_iff_not, Bool.not_eq_true', Bool.not_eq_false', Bool.not_eq_true, Bool.not_eq_false] at hc24; omega) | omega)
                              all_goals
                               try simp only [decide_eq_true_eq, decide_eq_false_iff_not, Bool.not_eq_true', Bool.not_eq_false', Bool.not_eq_true, Bool.not_eq_false, Option.isNone_none, Option.isNone_some, Option.isSome_none, Option.isSome_some, ne_eq, Decidable.not_not] at hc24
                               refine WC.skip ?_
                               refine WX.meet [(0, _), (1, _), (7, _), (9, _), (10, _), (11, _)] ⟨rfl, rfl, rfl, rfl, rfl, rfl, trivial⟩ ?_
                               first
                                 | exact ⟨rs3, hrs3, hU, hr, hT3, rfl⟩
                                 | exact ⟨rs2, rfl, hU, hr, hT.mono (Nat.le_refl _) (by omega), rfl⟩
                          · clear hU hr hT
                            rintro E wB ⟨rs3, hrs3, hU, hr, hT, rfl⟩
                            have hUs := hU.size
                            refine WC.seq ?_
                            refine WC.region ?_
                            refine WL.val rfl rfl rfl rfl (r_assign rfl ev_c) ?_
                            refine WL.nil ?_
                            refine WX.keep [(0, _), (1, _), (7, _), (9, _), (10, _), (11, _), (14, _)] ⟨rfl, rfl, rfl, rfl, rfl, rfl, rfl, trivial⟩ ?_
                            refine WX.next ?_
                            refine WC.block ?_
                            -- loop 3: live [0, 1, 7, 9, 10, 11, 14]
                            refine WC.keep [(0, _), (1, _), (7, _), (9, _), (10, _), (11, _), (14, _)] ⟨rfl, rfl, rfl, rfl, rfl, rfl, rfl, trivial⟩ ?_
                            refine WC.loop (fun qq E wC => ∃ (k : Nat), k ≤ rs3.length ∧ qq = rs3.length - k ∧ Upd No w wC ∧ Rd wC F (.slice (some ⟨b0, off, none⟩) l.length c) l.length 1 (l.map Str) ∧ TX wC p p q (tsum (l.take (i + 1))) (2 * i + 2) rs3 ws2 (.slice Av2 (rs2.map (2 * ·)).length cv2) vw2 ∧ E = [(0, .slice (some ⟨b0, off, none⟩) l.length c), (1, .int .u32 (kp : Int)), (7, .pointer (some ⟨p, 0, none⟩)), (9, .slice Av2 (rs2.map (2 * ·)).length cv2), (10, vw2), (11, .int .i64 (i : Int)), (14, .int .i64 (k : Int))]) (rs3.length) ?_ ?_
                            · exact ⟨0, by omega, by omega, hU, hr, hT, rfl⟩
                            · clear hU hr hT
                              rintro qq E wC ⟨k, hk, rfl, hU, hr, hT, rfl⟩
                              have hUs := hU.size
                              refine WC.seq ?_
                              refine WC.seq ?_
                              refine WC.region ?_
                              refine WL.val rfl rfl rfl rfl (r_move rfl (ev_t rfl)) ?_
                              refine WL.val rfl rfl rfl rfl (r_move rfl (ev_t rfl)) ?_
                              refine WL.val rfl rfl rfl rfl (r_lenSlice (ts := #[]) rfl (ev_t rfl) elem_30) ?_
                              refine WL.val rfl rfl rfl rfl (r_lss rfl (ev_t rfl) (ev_t rfl)) ?_
                              refine WL.nil ?_
                              refine WX.keep [(0, _), (1, _), (7, _), (9, _), (10, _), (11, _), (14, _), (96, _)] ⟨rfl, rfl, rfl, rfl, rfl, rfl, rfl, rfl, trivial⟩ ?_
                              refine WX.next ?_
                              refine WC.cond rfl (ev_t rfl) (fun hc27 => ?_) (fun hc27 => ?_)
                              · try (exfalso; first | (simp at hc27; done) | (simp only [decide_eq_true_eq, decide_eq_false_iff_not, Bool.not_eq_true', Bool.not_eq_false', Bool.not_eq_true, Bool.not_eq_false] at hc27; omega) | omega)
                                all_goals
                                 try simp only [decide_eq_true_eq, decide_eq_false_iff_not, Bool.not_eq_true', Bool.not_eq_false', Bool.not_eq_true, Bool.not_eq_false, Option.isNone_none, Option.isNone_some, Option.isSome_none, Option.isSome_some, ne_eq, Decidable.not_not] at hc27
                                 have hkl : k < rs3.length := by omega
                                 have hT' := hT
                                 obtain ⟨G, Gr, Gw, A1, c1, mem, st, nn, hH, hv, hml, hnl, hR, hW, hwl, hrl, hP, hGb, hGr, hGw⟩ := hT'
                                 have hrm3 : (rs3.map (2 * ·)).length = rs3.length := List.length_map _
                                 rw [show (rs2.map (2 * ·)).length = (rs3.map (2 * ·)).length by omega] at hR ⊢
                                 replace hR := hR.rd (by omega)
                                 replace hW := hW.rd (by omega)
                                 obtain ⟨b1, off1, rfl, _⟩ := hR.open (by omega)
                                 obtain ⟨Aw, cw, rfl, _⟩ := hW.slice_form
                                 obtain ⟨b2, off2, rfl, _⟩ := hW.open (by omega)
                                 obtain ⟨a, hka⟩ : ∃ a, rs3[k]? = some a := ⟨_, List.getElem?_eq_getElem hkl⟩
                                 obtain ⟨s2, hks⟩ : ∃ s2, ws2[k]? = some s2 := ⟨_, List.getElem?_eq_getElem (by omega)⟩
                                 obtain ⟨ha1, ha2, ha3⟩ := hP k a s2 hka hks
                                 have e256 : (s2.length * 256 + 3) / 256 = s2.length := by omega
                                 have hgR : ((rs3.map (2 * ·)).map Wd)[k]? = some (Wd (2 * a)) := by rw [List.getElem?_map, List.getElem?_map, hka]; rfl
                                 have hgW : (ws2.map Str)[k]? = some (Str s2) := by rw [List.getElem?_map, hks]; rfl
                                 refine WC.skip ?_
                                 refine WX.next ?_
                                 refine WC.seq ?_
                                 refine WC.block ?_
                                 refine WC.seq ?_
                                 refine WC.draws' (fun u0_ u1_ => Upd No u0_ u1_) (fun j => [0, 0, 0, 0, 0, 1, 0, 0, 0, 0, 0, 0, 0, 0, 0, 0, 0, 1, 0, 0, 0, 0, 0, 0, 0].getD j 0) (.calm 0 (.calm 1 (.calm 2 (.calm 3 (.calm 6 (.calm 7 (.calm 8 (.held 4 (.held 9 (.one 5 (.calm 10 (.calm 11 (.calm 12 (.calm 13 (.calm 14 (.calm 15 (.calm 18 (.calm 19 (.calm 20 (.held 16 (.held 21 (.calm 22 (.one 17 (.calm 23 (.calm 24 (.done)))))))))))))))))))))))))) mixed (by kernel_rfl) (by repeat (first | with_reducible exact Deaf.body | with_reducible apply Deaf.then | with_reducible apply Deaf.block)) ?_
                                 intro w15 hu15
                                 have hz15 := congrArg Array.size hu15.2.2.2
                                 replace hu15 := Upd.of_draw hu15
                                 have hs15 := hu15.size
                                 replace hU := hU.trans hu15 (by first | exact (fun _ _ h => h) | exact (fun _ _ h => h.elim) | (intro k hl hk; (try simp only [At, New, Grow, From, No] at hk ⊢); omega) | (intro k hl hk; first | exact (show False from hk).elim | (have h2 := hGr _ hk; omega) | (have h2 := hGw _ hk; omega) | (have h2 : p ≤ k := hk; omega)))
                                 replace hr := hr.upd hu15 (fun k hk hl hS => by have h1 := hF k hk; first | exact (show False from hS).elim | (have h2 := hGr _ hS; omega) | (have h2 := hGw _ hS; omega) | (have h2 : p ≤ k := hS; omega))
                                 replace hT := hT.upd hu15 (fun k hl hS => hS)
                                 replace hH := hH.upd hu15 (fun k hk hl hS => by first | exact (show False from hS).elim | (have h2 := hGr k hS; rcases hk with hk | hk; exact h2.2.1 hk; exact h2.2.2.1 hk) | (have h2 := hGw k hS; rcases hk with hk | hk; exact h2.2.1 hk; exact h2.2.2.1 hk))
                                 replace hR := hR.upd hu15 (fun k hk hl hS => by first | exact (show False from hS).elim | (have h3 := hGw k hS; rcases hk with hk | hk; exact (hGr k hk).2.2.2.1 hS; omega))
                                 replace hW := hW.upd hu15 (fun k hk hl hS => by first | exact (show False from hS).elim | (have h2 := hGr k hS; exact h2.2.2.2.1 hk))
                                 have hS29 := Upd.refl No w15
                                 have hR0 := hR
                                 have hW0 := hW
                                 refine WN.calm _ rfl rfl rfl rfl rfl (fun _ => r_move rfl (ev_t rfl)) ?_
                                 refine WN.calm _ rfl rfl rfl rfl rfl (fun _ => r_move rfl (ev_t rfl)) ?_
                                 refine WN.calm _ rfl rfl rfl rfl rfl (fun _ => r_move rfl (ev_t rfl)) ?_
                                 refine WN.calm _ rfl rfl rfl rfl rfl (fun _ => r_indexAddr rfl (ev_t rfl) (ev_t rfl) elem_30 size_32 (by omega) (by omega)) ?_
                                 refine WN.calm _ rfl rfl rfl rfl rfl (fun _ => r_move rfl (ev_t rfl)) ?_
                                 refine WN.calm _ rfl rfl rfl rfl rfl (fun _ => r_move rfl (ev_t rfl)) ?_
                                 refine WN.calm _ rfl rfl rfl rfl rfl (fun _ => r_indexAddr rfl (ev_t rfl) (ev_t rfl) elem_22 size_9 (by omega) (by omega)) ?_
                                 refine WN.held _ rfl rfl rfl rfl rfl hS29 (fun w' hS => r_load rfl (ev_t rfl) flat_32 ((hR.upd hS (fun _ _ _ h => h)).cell (j := k) (u := Wd (2 * a)) (show off1 + (k : Int).toNat * 1 = off1 + k by omega) hgR)) ?_
                                 refine WN.held _ rfl rfl rfl rfl rfl hS29 (fun w' hS => r_load rfl (ev_t rfl) flat_9 ((hW0.upd hS (fun _ _ _ h => h)).cell (j := k) (u := Str s2) (show off2 + (k : Int).toNat * 1 = off2 + k by omega) hgW)) ?_
                                 refine WN.step _ rfl (SO.call (text_ok hH ha2 (by omega)) rfl body_15 ⟨(ev_t rfl), (ev_t rfl), trivial⟩ rfl rfl rfl rfl ?_)
                                 rintro v w16 ⟨rfl, hu16⟩
                                 have hs16 := hu16.size
                                 replace hS29 := Upd.transA hS29 hu16
                                 replace hU := hU.trans hu16 (by first | exact (fun _ _ h => h) | exact (fun _ _ h => h.elim) | (intro k hl hk; (try simp only [At, New, Grow, From, No] at hk ⊢); omega) | (intro k hl hk; first | exact (show False from hk).elim | (have h2 := hGr _ hk; omega) | (have h2 := hGw _ hk; omega) | (have h2 : p ≤ k := hk; omega)))
                                 replace hr := hr.upd hu16 (fun k hk hl hS => by have h1 := hF k hk; first | exact (show False from hS).elim | (have h2 := hGr _ hS; omega) | (have h2 := hGw _ hS; omega) | (have h2 : p ≤ k := hS; omega))
                                 replace hT := hT.upd hu16 (fun k hl hS => hS)
                                 replace hH := hH.upd hu16 (fun k hk hl hS => by first | exact (show False from hS).elim | (have h2 := hGr k hS; rcases hk with hk | hk; exact h2.2.1 hk; exact h2.2.2.1 hk) | (have h2 := hGw k hS; rcases hk with hk | hk; exact h2.2.1 hk; exact h2.2.2.1 hk))
                                 replace hR := hR.upd hu16 (fun k hk hl hS => by first | exact (show False from hS).elim | (have h3 := hGw k hS; rcases hk with hk | hk; exact (hGr k hk).2.2.2.1 hS; omega))
                                 replace hW := hW.upd hu16 (fun k hk hl hS => by first | exact (show False from hS).elim | (have h2 := hGr k hS; exact h2.2.2.2.1 hk))
                                 refine ⟨hS29, ?_⟩
                                 refine WN.calm _ rfl rfl rfl rfl rfl (fun _ => r_neqStrL rfl (ev_t rfl) (ev_t rfl)) ?_
                                 refine WN.calm _ rfl rfl rfl rfl rfl (fun _ => r_move rfl (ev_t rfl)) ?_
                                 refine WN.cases 110 rfl (fun hb29_11 => ?_) (fun hb29_11 => ?_)
                                 · try simp only [decide_eq_true_eq, decide_eq_false_iff_not, Bool.not_eq_true', Bool.not_eq_false', Bool.not_eq_true, Bool.not_eq_false, Option.isNone_none, Option.isNone_some, Option.isSome_none, Option.isSome_some, ne_eq, Decidable.not_not] at hb29_11
                                   exfalso
                                   simp [Str] at hb29_11
                                 · try (exfalso; first | (simp at hb29_11; done) | (simp only [decide_eq_true_eq, decide_eq_false_iff_not, Bool.not_eq_true', Bool.not_eq_false', Bool.not_eq_true, Bool.not_eq_false] at hb29_11; omega) | omega)
                                   all_goals
                                    try simp only [decide_eq_true_eq, decide_eq_false_iff_not, Bool.not_eq_true', Bool.not_eq_false', Bool.not_eq_true, Bool.not_eq_false, Option.isNone_none, Option.isNone_some, Option.isSome_none, Option.isSome_some, ne_eq, Decidable.not_not] at hb29_11
                                    refine WN.calm _ rfl rfl rfl rfl rfl (fun _ => r_move rfl (ev_t rfl)) ?_
                                    refine WN.calm _ rfl rfl rfl rfl rfl (fun _ => r_move rfl (ev_t rfl)) ?_
                                    refine WN.calm _ rfl rfl rfl rfl rfl (fun _ => r_move rfl (ev_t rfl)) ?_
                                    refine WN.calm _ rfl rfl rfl rfl rfl (fun _ => r_indexAddr rfl (ev_t rfl) (ev_t rfl) elem_30 size_32 (by omega) (by omega)) ?_
                                    refine WN.calm _ rfl rfl rfl rfl rfl (fun _ => r_move rfl (ev_t rfl)) ?_
                                    refine WN.calm _ rfl rfl rfl rfl rfl (fun _ => r_move rfl (ev_t rfl)) ?_
                                    refine WN.calm _ rfl rfl rfl rfl rfl (fun _ => r_indexAddr rfl (ev_t rfl) (ev_t rfl) elem_22 size_9 (by omega) (by omega)) ?_
                                    refine WN.held _ rfl rfl rfl rfl rfl hS29 (fun w' hS => r_load rfl (ev_t rfl) flat_32 ((hR0.upd hS (fun _ _ _ h => h)).cell (j := k) (u := Wd (2 * a)) (show off1 + (k : Int).toNat * 1 = off1 + k by omega) hgR)) ?_
                                    refine WN.held _ rfl rfl rfl rfl rfl hS29 (fun w' hS => r_load rfl (ev_t rfl) flat_9 ((hW0.upd hS (fun _ _ _ h => h)).cell (j := k) (u := Str s2) (show off2 + (k : Int).toNat * 1 = off2 + k by omega) hgW)) ?_
                                    refine WN.calm _ rfl rfl rfl rfl rfl (fun _ => r_lenStrL rfl (ev_t rfl) str_9) ?_
                                    refine WN.step _ rfl (SO.call (len_ok hH ha2.1 (by omega)) rfl body_16 ⟨(ev_t rfl), (ev_t rfl), trivial⟩ rfl rfl rfl rfl ?_)
                                    rw [e256]
                                    rintro v w17 ⟨rfl, rfl⟩
                                    refine ⟨hS29, ?_⟩
                                    refine WN.calm _ rfl rfl rfl rfl rfl (fun _ => r_neq rfl (ev_t rfl) (ev_t rfl)) ?_
                                    refine WN.calm _ rfl rfl rfl rfl rfl (fun _ => r_pickF rfl (ev_t rfl) (ev_t rfl)) ?_
                                    refine WN.done ?_
                                    refine WX.keep [(0, _), (1, _), (7, _), (9, _), (10, _), (11, _), (14, _), (123, _)] ⟨rfl, rfl, rfl, rfl, rfl, rfl, rfl, rfl, trivial⟩ ?_
                                    refine WX.next ?_
                                    refine WC.cond rfl (ev_t rfl) (fun hc29 => ?_) (fun hc29 => ?_)
                                    · try simp only [decide_eq_true_eq, decide_eq_false_iff_not, Bool.not_eq_true', Bool.not_eq_false', Bool.not_eq_true, Bool.not_eq_false, Option.isNone_none, Option.isNone_some, Option.isSome_none, Option.isSome_some, ne_eq, Decidable.not_not] at hc29
                                      exfalso
                                      first
                                        | (simp [Str] at hc29; done)
                                        | (simp [Str] at hc29; omega)
                                    · try (exfalso; first | (simp at hc29; done) | (simp only [decide_eq_true_eq, decide_eq_false_iff_not, Bool.not_eq_true', Bool.not_eq_false', Bool.not_eq_true, Bool.not_eq_false] at hc29; omega) | omega)
                                      all_goals
                                       try simp only [decide_eq_true_eq, decide_eq_false_iff_not, Bool.not_eq_true', Bool.not_eq_false', Bool.not_eq_true, Bool.not_eq_false, Option.isNone_none, Option.isNone_some, Option.isSome_none, Option.isSome_some, ne_eq, Decidable.not_not] at hc29
                                       refine WC.skip ?_
                                       refine WX.blockNormal ?_
                                       refine WX.next ?_
                                       refine WC.region ?_
                                       refine WL.val rfl rfl rfl rfl (r_move rfl (ev_t rfl)) ?_
                                       first | refine WL.val rfl rfl rfl rfl (r_addN rfl (ev_t rfl) ev_c (by simp only [inK]; omega)) ?_ | refine WL.val rfl rfl rfl rfl (r_add rfl (ev_t rfl) ev_c) ?_
                                       refine WL.val rfl rfl rfl rfl (r_assign rfl (ev_t rfl)) ?_
                                       refine WL.nil ?_
                                       refine WX.keep [(0, _), (1, _), (7, _), (9, _), (10, _), (11, _), (14, _)] ⟨rfl, rfl, rfl, rfl, rfl, rfl, rfl, trivial⟩ ?_
                                       refine WX.meet [(0, _), (1, _), (7, _), (9, _), (10, _), (11, _), (14, _)] ⟨rfl, rfl, rfl, rfl, rfl, rfl, rfl, trivial⟩ ?_
                                       rw [show (rs3.map (2 * ·)).length = (rs2.map (2 * ·)).length by omega]
                                       exact ⟨rs3.length - (k + 1), by omega, k + 1, by omega, rfl, hU, hr, hT, rfl⟩
                              · try (exfalso; first | (simp at hc27; done) | (simp only [decide_eq_true_eq, decide_eq_false_iff_not, Bool.not_eq_true', Bool.not_eq_false', Bool.not_eq_true, Bool.not_eq_false] at hc27; omega) | omega)
                                all_goals
                                 try simp only [decide_eq_true_eq, decide_eq_false_iff_not, Bool.not_eq_true', Bool.not_eq_false', Bool.not_eq_true, Bool.not_eq_false, Option.isNone_none, Option.isNone_some, Option.isSome_none, Option.isSome_some, ne_eq, Decidable.not_not] at hc27
                                 refine WC.exit ?_
                                 refine WX.thenExit ?_
                                 refine WX.thenExit ?_
                                 refine WX.blockHere ?_
                                 refine WX.blockNormal ?_
                                 refine WX.next ?_
                                 refine WC.region ?_
                                 refine WL.val rfl rfl rfl rfl (r_move rfl (ev_t rfl)) ?_
                                 first | refine WL.val rfl rfl rfl rfl (r_addN rfl (ev_t rfl) ev_c (by simp only [inK]; omega)) ?_ | refine WL.val rfl rfl rfl rfl (r_add rfl (ev_t rfl) ev_c) ?_
                                 refine WL.val rfl rfl rfl rfl (r_assign rfl (ev_t rfl)) ?_
                                 refine WL.nil ?_
                                 refine WX.keep [(0, _), (1, _), (7, _), (9, _), (10, _), (11, _)] ⟨rfl, rfl, rfl, rfl, rfl, rfl, trivial⟩ ?_
                                 refine WX.meet [(0, _), (1, _), (7, _), (9, _), (10, _), (11, _)] ⟨rfl, rfl, rfl, rfl, rfl, rfl, trivial⟩ ?_
                                 exact ⟨l.length - (i + 1), by omega, i + 1, rs3, ws2, _, _, by omega, rfl, hU, hr, hT, rfl⟩
                  · try (exfalso; first | (simp at hc16; done) | (simp only [decide_eq_true_eq, decide_eq_false_iff_not, Bool.not_eq_true', Bool.not_eq_false', Bool.not_eq_true, Bool.not_eq_false] at hc16; omega) | omega)
                    all_goals
                     try simp only [decide_eq_true_eq, decide_eq_false_iff_not, Bool.not_eq_true', Bool.not_eq_false', Bool.not_eq_true, Bool.not_eq_false, Option.isNone_none, Option.isNone_some, Option.isSome_none, Option.isSome_some, ne_eq, Decidable.not_not] at hc16
                     refine WC.exit ?_
                     refine WX.thenExit ?_
                     refine WX.thenExit ?_
                     refine WX.blockHere ?_
                     refine WX.next ?_
                     refine WC.seq ?_
                     refine WC.region ?_
                     refine WL.val rfl rfl rfl rfl (r_assign rfl ev_c) ?_
                     refine WL.nil ?_
                     refine WX.keep [(4, _)] ⟨rfl, trivial⟩ ?_
                     refine WX.next ?_
                     refine WC.ret ?_
                     refine WX.retE1 rfl rfl ?_
                     exact ⟨rfl, hU⟩
end heapTexts
end Go.Proofs.YtdpnnclkkbfihaaDoor
