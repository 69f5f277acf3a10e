/-
  Several texts put together: Seh, SumP, RefP, Sum, Seal, Ref, Rfu, Rrd, Rre, Rfi, Sei.
-/
import Derived.Test.YtipabhbnljadfaaZc
/-
  session.Load.
-/
namespace Go.Proofs.Ytipabhbnljadfaa
open Go
set_option linter.unusedSimpArgs false
set_option linter.unusedVariables false

theorem IsR.lt' {w : World} {F : Nat → Prop} {g : Nat} {s : Option (List UInt8)} (h : IsR w F g s) : g < w.heap.size := by
  cases s with
  | none => obtain ⟨_, _, _, hb⟩ := h; exact hb.lt
  | some l => obtain ⟨_, _, hb, _⟩ := h; exact hb.lt
theorem U8_lenle (l : List UInt8) : (l.map U8).length = l.length := List.length_map _

set_option maxHeartbeats 4000000 in
theorem Load_ok {w : World} {F : Nat → Prop} {pv : Value} {n : Nat} {p : List UInt8} (hp : Rd w F pv n 1 (p.map U8)) :
    Ret Try.prog 17 #[pv] w fun u w' => Upd No w w' ∧ (((loadS p).1 = some [] ∧ ∃ t, u = .tuple #[.pointer (some ⟨t, 0, none⟩), .int .i64 0] ∧ IsT w' (New w w') t (loadS p).2) ∨
      ((loadS p).1 ≠ some [] ∧ u = .tuple #[.pointer none, .int .i64 3])) := by
  obtain ⟨F', hp, hFl⟩ : ∃ F' : Nat → Prop, Rd w F' pv n 1 (p.map U8) ∧ ∀ k, F' k → k < w.heap.size := ⟨_, hp.bound, fun k hk => hk.2⟩
  obtain ⟨n0, s0, hn0⟩ : ∃ n0 s0, uptoR 64 (some p) = (n0, s0) := ⟨_, _, rfl⟩
  obtain ⟨fin, hfin⟩ : ∃ fin, loadL n0 s0 [] = fin := ⟨_, rfl⟩
  have hS : loadS p = fin := by unfold loadS; rw [hn0]; exact hfin
  rw [hS]
  have hn64 : n0 ≤ 64 := by have := uptoR_le (most := 64) (s := some p) (by omega); rw [hn0] at this; simp only at this; omega
  refine enterRet (vs := [_]) (N := 79) Try.func17 rfl rfl rfl ?_
  have hU := Upd.refl No w
  refine WC.keep [(0, _)] ⟨rfl, trivial⟩ ?_
  refine WC.seq ?_
  refine WC.region ?_
  refine WL.val rfl rfl rfl rfl (r_assign rfl ev_c) ?_
  refine WL.val rfl rfl rfl rfl (r_assign rfl ev_c) ?_
  refine WL.nil ?_
  refine WX.keep [(0, _)] ⟨rfl, trivial⟩ ?_
  refine WX.next ?_
  refine WC.seq ?_
  refine WC.region ?_
  refine WL.val rfl rfl rfl rfl (r_move rfl (ev_t rfl)) ?_
  refine WL.cons (SO.call (newReader_ok hp) rfl body_26 ⟨(ev_t rfl), trivial⟩ rfl rfl rfl rfl ?_)
  rintro v w1 ⟨rfl, hR, hu1⟩
  have hs1 := hu1.size
  replace hU := hU.trans hu1 (by first | exact (fun _ _ h => h) | exact (fun _ _ h => h.elim) | (intro k hl hk; (try simp only [At, New, Grow, From, No] at hk ⊢); omega) | (intro k hl hk; first | (have h1 := hG k hk; have h2 := hRw k h1.1; omega) | ((try simp only [At, New, Grow, From, No] at *); omega)))
  refine WL.val rfl rfl rfl rfl (r_assign rfl (ev_t rfl)) ?_
  refine WL.nil ?_
  refine WX.keep [(4, _)] ⟨rfl, trivial⟩ ?_
  refine WX.next ?_
  refine WC.seq ?_
  refine WC.region ?_
  refine WL.cons (SO.call (SNew_ok) rfl body_10 trivial rfl rfl rfl rfl ?_)
  rintro v w2 ⟨t, rfl, hT, hu2⟩
  have hgl := hR.lt'
  have hs2 := hu2.size
  replace hU := hU.trans hu2 (by first | exact (fun _ _ h => h) | exact (fun _ _ h => h.elim) | (intro k hl hk; (try simp only [At, New, Grow, From, No] at hk ⊢); omega) | (intro k hl hk; first | (have h1 := hG k hk; have h2 := hRw k h1.1; omega) | ((try simp only [At, New, Grow, From, No] at *); omega)))
  replace hR := hR.upd hu2 (by first | exact (fun h => h) | (exact fun h => by have := hRw _ (hG _ h).1; omega) | (simp only [At, No]; omega)) (by first | exact (fun _ _ _ h => h) | (intro k hk hl hS; have := hFl k hk; first | (have := hRw _ (hG _ hS).1; omega) | (simp only [At, No] at hS; omega)))
  have hRw : ∀ k, New w1 w2 k → w.heap.size < k := fun k hk => by simp only [New] at hk; omega
  have hRl : ∀ k, New w1 w2 k → k < w2.heap.size := fun k hk => hk.2
  have htR : New w1 w2 t := by obtain ⟨_, _, _, _, _, _, _, _, _, h, _⟩ := hT; exact h
  refine WL.val rfl rfl rfl rfl (r_assign rfl (ev_t rfl)) ?_
  refine WL.nil ?_
  refine WX.keep [(4, _), (5, _)] ⟨rfl, rfl, trivial⟩ ?_
  refine WX.next ?_
  refine WC.seq ?_
  refine WC.seq ?_
  refine WC.region ?_
  refine WL.val rfl rfl rfl rfl (r_move rfl (ev_t rfl)) ?_
  refine WL.cons (SO.call (upto_ok hR (fun h => by have := hFl _ h; omega) (by simp only [inK]; omega) hn0) rfl body_27 ⟨(ev_t rfl), ev_c, trivial⟩ rfl rfl rfl rfl ?_)
  rintro v w3 ⟨rfl, hR, hu3⟩
  replace hT := hT.upd hu3 (fun k hk hl hS => by have := hRw k hk; simp only [At] at hS; omega)
  have hs3 := hu3.size
  replace hU := hU.trans hu3 (by first | exact (fun _ _ h => h) | exact (fun _ _ h => h.elim) | (intro k hl hk; (try simp only [At, New, Grow, From, No] at hk ⊢); omega) | (intro k hl hk; first | (have h1 := hG k hk; have h2 := hRw k h1.1; omega) | ((try simp only [At, New, Grow, From, No] at *); omega)))
  refine WL.val rfl rfl rfl rfl (r_assign rfl (ev_t rfl)) ?_
  refine WL.nil ?_
  refine WX.keep [(4, _), (5, _), (6, _)] ⟨rfl, rfl, rfl, trivial⟩ ?_
  refine WX.next ?_
  refine WC.block ?_
  -- loop 1: live [4, 5, 6]
  refine WC.keep [(4, _), (5, _), (6, _)] ⟨rfl, rfl, rfl, trivial⟩ ?_
  refine WC.loop (fun q E w' => ∃ (s : Option (List UInt8)) (L : List Ls) (R : Nat → Prop), q ≤ 64 ∧ L.length + q ≤ 64 ∧ Upd No w w' ∧ IsR w' F' w.heap.size s ∧ IsTG 55 58 w' R t L ∧ (∀ k, R k → w.heap.size < k) ∧ (∀ k, R k → k < w'.heap.size) ∧ R t ∧ ((s = none ∧ fin.1 = none) ∨ (s ≠ none ∧ loadL q s L = fin)) ∧   E = [(4, .pointer (some ⟨w.heap.size, 0, none⟩)), (5, .pointer (some ⟨t, 0, none⟩)), (6, .int .i64 (q : Int))]) (n0) ?_ ?_
  · refine ⟨s0, [], _, hn64, by simpa using hn64, hU, hR, hT, hRw, (fun k hk => by have := hRl k hk; omega), htR, ?_, rfl⟩
    cases s0 with
    | none => rw [loadL_none] at hfin; subst hfin; exact .inl ⟨rfl, rfl⟩
    | some q => exact .inr ⟨by simp, hfin⟩
  · clear hU hT hR hRw hRl htR
    rintro q E w' ⟨s, L, R, hq, hLq, hU, hR, hT, hRw, hRl, htR, hs, rfl⟩
    have hw0 := hU.size
    have hgl := hR.lt'
    have htw := hRw t htR
    have htl := hRl t htR
    refine WC.seq ?_
    refine WC.seq ?_
    refine WC.region ?_
    refine WL.val rfl rfl rfl rfl (r_move rfl (ev_t rfl)) ?_
    refine WL.val rfl rfl rfl rfl (r_gtr rfl (ev_t rfl) ev_c) ?_
    refine WL.val rfl rfl rfl rfl (r_move rfl (ev_t rfl)) ?_
    refine WL.cases 15 rfl (fun hb4_2 => ?_) (fun hb4_2 => ?_)
    · try (exfalso; first | (simp at hb4_2; done) | (simp only [decide_eq_true_eq, decide_eq_false_iff_not, Bool.not_eq_true', Bool.not_eq_false', Bool.not_eq_true, Bool.not_eq_false] at hb4_2; omega) | omega)
      all_goals
       try simp only [decide_eq_true_eq, decide_eq_false_iff_not, Bool.not_eq_true', Bool.not_eq_false', Bool.not_eq_true, Bool.not_eq_false, Option.isNone_none, Option.isNone_some, Option.isSome_none, Option.isSome_some, ne_eq, Decidable.not_not] at hb4_2
       refine WL.val rfl rfl rfl rfl (r_move rfl (ev_t rfl)) ?_
       refine WL.cons (SO.call (bad_ok hR) rfl body_28 ⟨(ev_t rfl), trivial⟩ rfl rfl rfl rfl ?_)
       rintro v w4 ⟨rfl, he⟩
       obtain rfl := he.symm
       refine WL.val rfl rfl rfl rfl (r_not rfl (ev_t rfl)) ?_
       refine WL.val rfl rfl rfl rfl (r_pickT rfl (ev_t rfl) (ev_t rfl)) ?_
       refine WL.nil ?_
       refine WX.keep [(4, _), (5, _), (6, _), (19, _)] ⟨rfl, rfl, rfl, rfl, trivial⟩ ?_
       refine WX.next ?_
       refine WC.cond rfl (ev_t rfl) (fun hc4 => ?_) (fun hc4 => ?_)
       · try (exfalso; first | (simp at hc4; done) | (simp only [decide_eq_true_eq, decide_eq_false_iff_not, Bool.not_eq_true', Bool.not_eq_false', Bool.not_eq_true, Bool.not_eq_false] at hc4; omega) | omega)
         all_goals
          try simp only [decide_eq_true_eq, decide_eq_false_iff_not, Bool.not_eq_true', Bool.not_eq_false', Bool.not_eq_true, Bool.not_eq_false, Option.isNone_none, Option.isNone_some, Option.isSome_none, Option.isSome_some, ne_eq, Decidable.not_not] at hc4
          refine WC.skip ?_
          refine WX.next ?_
          refine WC.seq ?_
          refine WC.block ?_
          refine WC.seq ?_
          obtain ⟨q1, rfl⟩ : ∃ q1, q = q1 + 1 := ⟨q - 1, by omega⟩
          obtain ⟨p1, rfl⟩ : ∃ p1, s = some p1 := by
            cases s with
            | none => simp at *
            | some p1 => exact ⟨p1, rfl⟩
          replace hs : loadL (q1 + 1) (some p1) L = fin := by rcases hs with h | h; exact absurd h.1 (by simp); exact h.2
          obtain ⟨a, s1, ha⟩ : ∃ a s1, uintR (some p1) = (a, s1) := ⟨_, _, rfl⟩
          obtain ⟨b, s2, hb⟩ : ∃ b s2, uintR s1 = (b, s2) := ⟨_, _, rfl⟩
          obtain ⟨d, s3, hd⟩ : ∃ d s3, bytesR 1048576 s2 = (d, s3) := ⟨_, _, rfl⟩
          refine WC.region ?_
          refine WL.val rfl rfl rfl rfl (r_move rfl (ev_t rfl)) ?_
          refine WL.cons (SO.call (ruint_ok hR (fun h => by have := hFl _ h; omega) ha) rfl body_29 ⟨(ev_t rfl), trivial⟩ rfl rfl rfl rfl ?_)
          rintro v w5 ⟨rfl, hR, hu5⟩
          have hs5 := hu5.size
          replace hU := hU.trans hu5 (by first | exact (fun _ _ h => h) | exact (fun _ _ h => h.elim) | (intro k hl hk; (try simp only [At, New, Grow, From, No] at hk ⊢); omega) | (intro k hl hk; first | (have h1 := hG k hk; have h2 := hRw k h1.1; omega) | ((try simp only [At, New, Grow, From, No] at *); omega)))
          replace hT := hT.upd hu5 (by first | exact (fun _ _ _ h => h) | (intro k hk hl hS; have := hRw k hk; have := hRl k hk; simp only [At, No] at hS; omega))
          refine WL.val rfl rfl rfl rfl (r_move rfl (ev_t rfl)) ?_
          refine WL.cons (SO.call (ruint_ok hR (fun h => by have := hFl _ h; omega) hb) rfl body_29 ⟨(ev_t rfl), trivial⟩ rfl rfl rfl rfl ?_)
          rintro v w6 ⟨rfl, hR, hu6⟩
          have hs6 := hu6.size
          replace hU := hU.trans hu6 (by first | exact (fun _ _ h => h) | exact (fun _ _ h => h.elim) | (intro k hl hk; (try simp only [At, New, Grow, From, No] at hk ⊢); omega) | (intro k hl hk; first | (have h1 := hG k hk; have h2 := hRw k h1.1; omega) | ((try simp only [At, New, Grow, From, No] at *); omega)))
          replace hT := hT.upd hu6 (by first | exact (fun _ _ _ h => h) | (intro k hk hl hS; have := hRw k hk; have := hRl k hk; simp only [At, No] at hS; omega))
          refine WL.val rfl rfl rfl rfl (r_move rfl (ev_t rfl)) ?_
          refine WL.cons (SO.call (bytes_ok hR (fun h => by have := hFl _ h; omega) (by simp only [inK]; omega) hd) rfl body_30 ⟨(ev_t rfl), ev_c, trivial⟩ rfl rfl rfl rfl ?_)
          rintro v w7 ⟨hcl, hR, hu7, hdl⟩
          obtain ⟨Ad, cd, rfl, hcd⟩ := Own.form hcl
          have hCn : ∀ k, New w6 w7 k → w'.heap.size ≤ k ∧ k < w7.heap.size := fun k hk => by simp only [New] at hk; omega
          generalize New w6 w7 = C at *
          have hs7 := hu7.size
          replace hU := hU.trans hu7 (by first | exact (fun _ _ h => h) | exact (fun _ _ h => h.elim) | (intro k hl hk; (try simp only [At, New, Grow, From, No] at hk ⊢); omega) | (intro k hl hk; first | (have h1 := hG k hk; have h2 := hRw k h1.1; omega) | ((try simp only [At, New, Grow, From, No] at *); omega)))
          replace hT := hT.upd hu7 (by first | exact (fun _ _ _ h => h) | (intro k hk hl hS; have := hRw k hk; have := hRl k hk; simp only [At, No] at hS; omega))
          refine WL.val rfl rfl rfl rfl (r_build (cs := #[_, _, _]) (vs := [(0, _), (1, _), (2, _)]) rfl ⟨⟨rfl, (ev_t rfl)⟩, ⟨rfl, (ev_t rfl)⟩, ⟨rfl, (ev_t rfl)⟩, trivial⟩ plc_58 zero_58 rfl) ?_
          refine WL.cons (SO.alloc rfl rfl rfl rfl (r_alloc rfl zero_58) ?_)
          intro w8 hu8 hB8 hz8
          have hs8 := hu8.size
          replace hU := hU.trans hu8 (by first | exact (fun _ _ h => h) | exact (fun _ _ h => h.elim) | (intro k hl hk; (try simp only [At, New, Grow, From, No] at hk ⊢); omega) | (intro k hl hk; first | (have h1 := hG k hk; have h2 := hRw k h1.1; omega) | ((try simp only [At, New, Grow, From, No] at *); omega)))
          replace hR := hR.upd hu8 (by first | exact (fun h => h) | (exact fun h => by have := hRw _ (hG _ h).1; omega) | (simp only [At, No]; omega)) (by first | exact (fun _ _ _ h => h) | (intro k hk hl hS; have := hFl k hk; first | (have := hRw _ (hG _ hS).1; omega) | (simp only [At, No] at hS; omega)))
          replace hT := hT.upd hu8 (by first | exact (fun _ _ _ h => h) | (intro k hk hl hS; have := hRw k hk; have := hRl k hk; simp only [At, No] at hS; omega))
          replace hcl := hcl.upd hu8 (by first | exact (fun _ _ _ h => h) | (intro k hk hl hS; have := hCn k hk; first | (have := hRl _ (hG _ hS).1; omega) | (simp only [At] at hS; omega)))
          refine WL.cons (SO.storeAll (us := [_, _, _]) rfl (ev_t rfl) (ev_t rfl) size_58 hB8 rfl rfl rfl rfl rfl ?_)
          intro w9 hu9 hB8 hz9
          have hs9 := hu9.size
          replace hU := hU.trans hu9 (by first | exact (fun _ _ h => h) | exact (fun _ _ h => h.elim) | (intro k hl hk; (try simp only [At, New, Grow, From, No] at hk ⊢); omega) | (intro k hl hk; first | (have h1 := hG k hk; have h2 := hRw k h1.1; omega) | ((try simp only [At, New, Grow, From, No] at *); omega)))
          replace hR := hR.upd hu9 (by first | exact (fun h => h) | (exact fun h => by have := hRw _ (hG _ h).1; omega) | (simp only [At, No]; omega)) (by first | exact (fun _ _ _ h => h) | (intro k hk hl hS; have := hFl k hk; first | (have := hRw _ (hG _ hS).1; omega) | (simp only [At, No] at hS; omega)))
          replace hT := hT.upd hu9 (by first | exact (fun _ _ _ h => h) | (intro k hk hl hS; have := hRw k hk; have := hRl k hk; simp only [At, No] at hS; omega))
          replace hcl := hcl.upd hu9 (by first | exact (fun _ _ _ h => h) | (intro k hk hl hS; have := hCn k hk; first | (have := hRl _ (hG _ hS).1; omega) | (simp only [At] at hS; omega)))
          refine WL.nil ?_
          refine WX.keep [(4, _), (5, _), (6, _), (7, _)] ⟨rfl, rfl, rfl, rfl, trivial⟩ ?_
          have hBx : Blk w9 _ #[.int .u64 (a : Int), .int .u64 (b : Int), .slice Ad d.length cd] 58 := hB8
          refine WX.next ?_
          -- cut 7: live [4, 5, 6, 7]
          refine WC.cut (fun E w2 => ∃ (s4 : Option (List UInt8)), Upd No w w2 ∧ IsR w2 F' w.heap.size s4 ∧ IsTG 55 58 w2 R t L ∧ Blk w2 w7.heap.size #[.int .u64 (a : Int), .int .u64 (b : Int), .slice Ad d.length cd] 58 ∧ Own w2 C 5 1 (.slice Ad d.length cd) d.length (d.map U8) ∧   ((s4 = none ∧ fin.1 = none) ∨ (s4 ≠ none ∧ loadL q1 s4 (L ++ [⟨a, b, d⟩]) = fin)) ∧   E = [(4, .pointer (some ⟨w.heap.size, 0, none⟩)), (5, .pointer (some ⟨t, 0, none⟩)), (6, .int .i64 ((q1 + 1 : Nat) : Int)), (7, .pointer (some ⟨w7.heap.size, 0, none⟩))]) ?_ ?_
          · refine WC.seq ?_
            obtain ⟨A, c, V, G, H, hB, hO, hD, hLV, _, _, hG, hH⟩ := id hT
            have hlen : V.length = L.length := by rw [← hLV, List.length_map]
            have hnx : nextOK L a = match V[V.length - 1]? with | some r => decide (r.x.id < a) | none => true := by
              unfold nextOK
              rw [← hLV, List.length_map, List.getElem?_map]
              cases V[V.length - 1]? <;> rfl
            refine WC.draws' (fun u0_ u1_ => Upd No u0_ u1_) (fun j => [0, 1, 0, 0, 0, 1, 0, 0, 0, 0, 0, 0, 1, 0, 0, 0, 0, 0, 0, 0, 0, 0, 0, 0, 0, 0, 0, 0, 0, 0, 1, 0, 0, 0].getD j 0) (.calm 0 (.one 1 (.calm 2 (.calm 3 (.calm 4 (.one 5 (.calm 6 (.calm 7 (.calm 8 (.calm 9 (.calm 10 (.calm 11 (.one 12 (.calm 13 (.calm 14 (.calm 15 (.calm 16 (.calm 17 (.calm 18 (.calm 20 (.calm 21 (.calm 22 (.calm 29 (.held 19 (.held 23 (.calm 24 (.calm 25 (.calm 26 (.calm 27 (.held 28 (.one 30 (.calm 31 (.calm 32 (.calm 33 (.done))))))))))))))))))))))))))))))))))) mixed (by kernel_rfl) (by repeat (first | with_reducible exact Deaf.body | with_reducible apply Deaf.then | with_reducible apply Deaf.block)) ?_
            intro w10 hu10
            have hz10 := congrArg Array.size hu10.2.2.2
            replace hu10 := Upd.of_draw hu10
            have hs10 := hu10.size
            replace hU := hU.trans hu10 (by first | exact (fun _ _ h => h) | exact (fun _ _ h => h.elim) | (intro k hl hk; (try simp only [At, New, Grow, From, No] at hk ⊢); omega) | (intro k hl hk; first | (have h1 := hG k hk; have h2 := hRw k h1.1; omega) | ((try simp only [At, New, Grow, From, No] at *); omega)))
            replace hR := hR.upd hu10 (by first | exact (fun h => h) | (exact fun h => by have := hRw _ (hG _ h).1; omega) | (simp only [At, No]; omega)) (by first | exact (fun _ _ _ h => h) | (intro k hk hl hS; have := hFl k hk; first | (have := hRw _ (hG _ hS).1; omega) | (simp only [At, No] at hS; omega)))
            replace hT := hT.upd hu10 (by first | exact (fun _ _ _ h => h) | (intro k hk hl hS; have := hRw k hk; have := hRl k hk; simp only [At, No] at hS; omega))
            replace hcl := hcl.upd hu10 (by first | exact (fun _ _ _ h => h) | (intro k hk hl hS; have := hCn k hk; first | (have := hRl _ (hG _ hS).1; omega) | (simp only [At] at hS; omega)))
            replace hBx := hBx.upd hu10 (by first | exact (fun h => h) | (exact fun h => by have := hRl _ (hG _ h).1; omega) | (simp only [At]; omega))
            replace hB := hB.upd hu10 (by first | exact (fun h => h) | (exact fun h => (hG t h).2.1 rfl) | (simp only [At, No]; omega))
            replace hO := hO.upd hu10 (by first | exact (fun _ _ _ h => h) | (intro k hk hl hS; have := hG k hk; have := hRw k this.1; simp only [At, No] at hS; omega))
            have hS7 := Upd.refl No w10
            first | refine WN.calm _ rfl rfl rfl rfl rfl (fun _ => r_field0 rfl (ev_t rfl) fld_58_0) ?_ | refine WN.calm _ rfl rfl rfl rfl rfl (fun _ => r_fieldAt rfl (ev_t rfl) fld_58_0) ?_
            refine WN.step _ rfl (SO.val rfl rfl rfl rfl (r_load rfl (ev_t rfl) flat_27 (Blk.cell hBx rfl)) ?_)
            refine ⟨hS7, ?_⟩
            refine WN.calm _ rfl rfl rfl rfl rfl (fun _ => r_eql rfl (ev_t rfl) ev_c) ?_
            refine WN.calm _ rfl rfl rfl rfl rfl (fun _ => r_move rfl (ev_t rfl)) ?_
            refine WN.cases 32 rfl (fun hb7_3 => ?_) (fun hb7_3 => ?_)
            · try (exfalso; first | (simp at hb7_3; done) | (simp only [decide_eq_true_eq, decide_eq_false_iff_not, Bool.not_eq_true', Bool.not_eq_false', Bool.not_eq_true, Bool.not_eq_false] at hb7_3; omega) | omega)
              all_goals
               try simp only [decide_eq_true_eq, decide_eq_false_iff_not, Bool.not_eq_true', Bool.not_eq_false', Bool.not_eq_true, Bool.not_eq_false, Option.isNone_none, Option.isNone_some, Option.isSome_none, Option.isSome_some, ne_eq, Decidable.not_not] at hb7_3
               refine WN.skip _ rfl rfl rfl rfl ?_
               refine WN.step _ rfl (SO.skip rfl rfl rfl ?_)
               refine ⟨hS7, ?_⟩
               refine WN.skip _ rfl rfl rfl rfl ?_
               refine WN.calm _ rfl rfl rfl rfl rfl (fun _ => r_pickT rfl (ev_t rfl) ev_c) ?_
               refine WN.calm _ rfl rfl rfl rfl rfl (fun _ => r_move rfl (ev_t rfl)) ?_
               refine WN.skip _ rfl rfl rfl rfl ?_
               refine WN.skip _ rfl rfl rfl rfl ?_
               refine WN.skip _ rfl rfl rfl rfl ?_
               refine WN.step _ rfl (SO.skip rfl rfl rfl ?_)
               refine ⟨hS7, ?_⟩
               refine WN.skip _ rfl rfl rfl rfl ?_
               refine WN.skip _ rfl rfl rfl rfl ?_
               refine WN.skip _ rfl rfl rfl rfl ?_
               refine WN.skip _ rfl rfl rfl rfl ?_
               refine WN.skip _ rfl rfl rfl rfl ?_
               refine WN.skip _ rfl rfl rfl rfl ?_
               refine WN.skip _ rfl rfl rfl rfl ?_
               refine WN.skip _ rfl rfl rfl rfl ?_
               refine WN.skip _ rfl rfl rfl rfl ?_
               refine WN.skip _ rfl rfl rfl rfl ?_
               refine WN.heldSkip _ rfl rfl rfl rfl hS7 ?_
               refine WN.heldSkip _ rfl rfl rfl rfl hS7 ?_
               refine WN.skip _ rfl rfl rfl rfl ?_
               refine WN.skip _ rfl rfl rfl rfl ?_
               refine WN.skip _ rfl rfl rfl rfl ?_
               refine WN.skip _ rfl rfl rfl rfl ?_
               refine WN.heldSkip _ rfl rfl rfl rfl hS7 ?_
               refine WN.step _ rfl (SO.skip rfl rfl rfl ?_)
               refine ⟨hS7, ?_⟩
               refine WN.skip _ rfl rfl rfl rfl ?_
               refine WN.skip _ rfl rfl rfl rfl ?_
               refine WN.calm _ rfl rfl rfl rfl rfl (fun _ => r_pickT rfl (ev_t rfl) ev_c) ?_
               refine WN.done ?_
               refine WX.keep [(4, _), (5, _), (6, _), (7, _), (62, _)] ⟨rfl, rfl, rfl, rfl, rfl, trivial⟩ ?_
               refine WX.next ?_
               refine WC.cond_true rfl (ev_t rfl) ?_
               have hbad : a = 0 ∨ b = 0 ∨ nextOK L a = false := by simp_all
               refine WC.region ?_
               refine WL.val rfl rfl rfl rfl (r_move rfl (ev_t rfl)) ?_
               refine WL.cons (SO.call (fail_ok hR) rfl body_31 ⟨(ev_t rfl), trivial⟩ rfl rfl rfl rfl ?_)
               rintro v w11 ⟨hR, hu11⟩
               have hs11 := hu11.size
               replace hU := hU.trans hu11 (by first | exact (fun _ _ h => h) | exact (fun _ _ h => h.elim) | (intro k hl hk; (try simp only [At, New, Grow, From, No] at hk ⊢); omega) | (intro k hl hk; first | (have h1 := hG k hk; have h2 := hRw k h1.1; omega) | ((try simp only [At, New, Grow, From, No] at *); omega)))
               replace hT := hT.upd hu11 (by first | exact (fun _ _ _ h => h) | (intro k hk hl hS; have := hRw k hk; have := hRl k hk; simp only [At, No] at hS; omega))
               replace hcl := hcl.upd hu11 (by first | exact (fun _ _ _ h => h) | (intro k hk hl hS; have := hCn k hk; first | (have := hRl _ (hG _ hS).1; omega) | (simp only [At] at hS; omega)))
               replace hBx := hBx.upd hu11 (by first | exact (fun h => h) | (exact fun h => by have := hRl _ (hG _ h).1; omega) | (simp only [At]; omega))
               replace hB := hB.upd hu11 (by first | exact (fun h => h) | (exact fun h => (hG t h).2.1 rfl) | (simp only [At, No]; omega))
               replace hO := hO.upd hu11 (by first | exact (fun _ _ _ h => h) | (intro k hk hl hS; have := hG k hk; have := hRw k this.1; simp only [At, No] at hS; omega))
               refine WL.nil ?_
               refine WX.keep [(4, _), (5, _), (6, _), (7, _)] ⟨rfl, rfl, rfl, rfl, trivial⟩ ?_
               refine WX.meet [(4, _), (5, _), (6, _), (7, _)] ⟨rfl, rfl, rfl, rfl, trivial⟩ ?_
               first
                 | exact ⟨none, hU, hR, hT, hBx, hcl, .inl ⟨rfl, by rw [← hs, loadL_bad ha hb hbad]⟩, rfl⟩
                 | (refine ⟨s3, hU, hR, hT, hBx, hcl, ?_, rfl⟩; rw [loadL_good ha hb hd (by simp_all)] at hs; cases s3 with | none => (rw [loadL_none] at hs; subst hs; exact .inl ⟨rfl, rfl⟩) | some q3 => exact .inr ⟨by simp, hs⟩)
            · try (exfalso; first | (simp at hb7_3; done) | (simp only [decide_eq_true_eq, decide_eq_false_iff_not, Bool.not_eq_true', Bool.not_eq_false', Bool.not_eq_true, Bool.not_eq_false] at hb7_3; omega) | omega)
              all_goals
               try simp only [decide_eq_true_eq, decide_eq_false_iff_not, Bool.not_eq_true', Bool.not_eq_false', Bool.not_eq_true, Bool.not_eq_false, Option.isNone_none, Option.isNone_some, Option.isSome_none, Option.isSome_some, ne_eq, Decidable.not_not] at hb7_3
               first | refine WN.calm _ rfl rfl rfl rfl rfl (fun _ => r_field0 rfl (ev_t rfl) fld_58_1) ?_ | refine WN.calm _ rfl rfl rfl rfl rfl (fun _ => r_fieldAt rfl (ev_t rfl) fld_58_1) ?_
               refine WN.step _ rfl (SO.val rfl rfl rfl rfl (r_load rfl (ev_t rfl) flat_27 (Blk.cell hBx rfl)) ?_)
               refine ⟨hS7, ?_⟩
               refine WN.calm _ rfl rfl rfl rfl rfl (fun _ => r_eql rfl (ev_t rfl) ev_c) ?_
               refine WN.calm _ rfl rfl rfl rfl rfl (fun _ => r_pickF rfl (ev_t rfl) (ev_t rfl)) ?_
               refine WN.calm _ rfl rfl rfl rfl rfl (fun _ => r_move rfl (ev_t rfl)) ?_
               refine WN.cases 37 rfl (fun hb7_8 => ?_) (fun hb7_8 => ?_)
               · try (exfalso; first | (simp at hb7_8; done) | (simp only [decide_eq_true_eq, decide_eq_false_iff_not, Bool.not_eq_true', Bool.not_eq_false', Bool.not_eq_true, Bool.not_eq_false] at hb7_8; omega) | omega)
                 all_goals
                  try simp only [decide_eq_true_eq, decide_eq_false_iff_not, Bool.not_eq_true', Bool.not_eq_false', Bool.not_eq_true, Bool.not_eq_false, Option.isNone_none, Option.isNone_some, Option.isSome_none, Option.isSome_some, ne_eq, Decidable.not_not] at hb7_8
                  refine WN.skip _ rfl rfl rfl rfl ?_
                  refine WN.skip _ rfl rfl rfl rfl ?_
                  refine WN.skip _ rfl rfl rfl rfl ?_
                  refine WN.step _ rfl (SO.skip rfl rfl rfl ?_)
                  refine ⟨hS7, ?_⟩
                  refine WN.skip _ rfl rfl rfl rfl ?_
                  refine WN.skip _ rfl rfl rfl rfl ?_
                  refine WN.skip _ rfl rfl rfl rfl ?_
                  refine WN.skip _ rfl rfl rfl rfl ?_
                  refine WN.skip _ rfl rfl rfl rfl ?_
                  refine WN.skip _ rfl rfl rfl rfl ?_
                  refine WN.skip _ rfl rfl rfl rfl ?_
                  refine WN.skip _ rfl rfl rfl rfl ?_
                  refine WN.skip _ rfl rfl rfl rfl ?_
                  refine WN.skip _ rfl rfl rfl rfl ?_
                  refine WN.heldSkip _ rfl rfl rfl rfl hS7 ?_
                  refine WN.heldSkip _ rfl rfl rfl rfl hS7 ?_
                  refine WN.skip _ rfl rfl rfl rfl ?_
                  refine WN.skip _ rfl rfl rfl rfl ?_
                  refine WN.skip _ rfl rfl rfl rfl ?_
                  refine WN.skip _ rfl rfl rfl rfl ?_
                  refine WN.heldSkip _ rfl rfl rfl rfl hS7 ?_
                  refine WN.step _ rfl (SO.skip rfl rfl rfl ?_)
                  refine ⟨hS7, ?_⟩
                  refine WN.skip _ rfl rfl rfl rfl ?_
                  refine WN.skip _ rfl rfl rfl rfl ?_
                  refine WN.calm _ rfl rfl rfl rfl rfl (fun _ => r_pickT rfl (ev_t rfl) ev_c) ?_
                  refine WN.done ?_
                  refine WX.keep [(4, _), (5, _), (6, _), (7, _), (62, _)] ⟨rfl, rfl, rfl, rfl, rfl, trivial⟩ ?_
                  refine WX.next ?_
                  refine WC.cond_true rfl (ev_t rfl) ?_
                  have hbad : a = 0 ∨ b = 0 ∨ nextOK L a = false := by simp_all
                  refine WC.region ?_
                  refine WL.val rfl rfl rfl rfl (r_move rfl (ev_t rfl)) ?_
                  refine WL.cons (SO.call (fail_ok hR) rfl body_31 ⟨(ev_t rfl), trivial⟩ rfl rfl rfl rfl ?_)
                  rintro v w12 ⟨hR, hu12⟩
                  have hs12 := hu12.size
                  replace hU := hU.trans hu12 (by first | exact (fun _ _ h => h) | exact (fun _ _ h => h.elim) | (intro k hl hk; (try simp only [At, New, Grow, From, No] at hk ⊢); omega) | (intro k hl hk; first | (have h1 := hG k hk; have h2 := hRw k h1.1; omega) | ((try simp only [At, New, Grow, From, No] at *); omega)))
                  replace hT := hT.upd hu12 (by first | exact (fun _ _ _ h => h) | (intro k hk hl hS; have := hRw k hk; have := hRl k hk; simp only [At, No] at hS; omega))
                  replace hcl := hcl.upd hu12 (by first | exact (fun _ _ _ h => h) | (intro k hk hl hS; have := hCn k hk; first | (have := hRl _ (hG _ hS).1; omega) | (simp only [At] at hS; omega)))
                  replace hBx := hBx.upd hu12 (by first | exact (fun h => h) | (exact fun h => by have := hRl _ (hG _ h).1; omega) | (simp only [At]; omega))
                  replace hB := hB.upd hu12 (by first | exact (fun h => h) | (exact fun h => (hG t h).2.1 rfl) | (simp only [At, No]; omega))
                  replace hO := hO.upd hu12 (by first | exact (fun _ _ _ h => h) | (intro k hk hl hS; have := hG k hk; have := hRw k this.1; simp only [At, No] at hS; omega))
                  refine WL.nil ?_
                  refine WX.keep [(4, _), (5, _), (6, _), (7, _)] ⟨rfl, rfl, rfl, rfl, trivial⟩ ?_
                  refine WX.meet [(4, _), (5, _), (6, _), (7, _)] ⟨rfl, rfl, rfl, rfl, trivial⟩ ?_
                  first
                    | exact ⟨none, hU, hR, hT, hBx, hcl, .inl ⟨rfl, by rw [← hs, loadL_bad ha hb hbad]⟩, rfl⟩
                    | (refine ⟨s3, hU, hR, hT, hBx, hcl, ?_, rfl⟩; rw [loadL_good ha hb hd (by simp_all)] at hs; cases s3 with | none => (rw [loadL_none] at hs; subst hs; exact .inl ⟨rfl, rfl⟩) | some q3 => exact .inr ⟨by simp, hs⟩)
               · try (exfalso; first | (simp at hb7_8; done) | (simp only [decide_eq_true_eq, decide_eq_false_iff_not, Bool.not_eq_true', Bool.not_eq_false', Bool.not_eq_true, Bool.not_eq_false] at hb7_8; omega) | omega)
                 all_goals
                  try simp only [decide_eq_true_eq, decide_eq_false_iff_not, Bool.not_eq_true', Bool.not_eq_false', Bool.not_eq_true, Bool.not_eq_false, Option.isNone_none, Option.isNone_some, Option.isSome_none, Option.isSome_some, ne_eq, Decidable.not_not] at hb7_8
                  refine WN.calm _ rfl rfl rfl rfl rfl (fun _ => r_move rfl (ev_t rfl)) ?_
                  refine WN.calm _ rfl rfl rfl rfl rfl (fun _ => r_nilCheck rfl (ev_t rfl)) ?_
                  first | refine WN.calm _ rfl rfl rfl rfl rfl (fun _ => r_field0 rfl (ev_t rfl) fld_55_0) ?_ | refine WN.calm _ rfl rfl rfl rfl rfl (fun _ => r_fieldAt rfl (ev_t rfl) fld_55_0) ?_
                  refine WN.step _ rfl (SO.val rfl rfl rfl rfl (r_load rfl (ev_t rfl) flat_53 (Blk.cell hB rfl)) ?_)
                  refine ⟨hS7, ?_⟩
                  refine WN.calm _ rfl rfl rfl rfl rfl (fun _ => r_lenSlice (ts := #[]) rfl (ev_t rfl) elem_53) ?_
                  refine WN.calm _ rfl rfl rfl rfl rfl (fun _ => r_gtr rfl (ev_t rfl) ev_c) ?_
                  refine WN.calm _ rfl rfl rfl rfl rfl (fun _ => r_move rfl (ev_t rfl)) ?_
                  refine WN.cases 44 rfl (fun hb7_15 => ?_) (fun hb7_15 => ?_)
                  · try (exfalso; first | (simp at hb7_15; done) | (simp only [decide_eq_true_eq, decide_eq_false_iff_not, Bool.not_eq_true', Bool.not_eq_false', Bool.not_eq_true, Bool.not_eq_false] at hb7_15; omega) | omega)
                    all_goals
                     try simp only [decide_eq_true_eq, decide_eq_false_iff_not, Bool.not_eq_true', Bool.not_eq_false', Bool.not_eq_true, Bool.not_eq_false, Option.isNone_none, Option.isNone_some, Option.isSome_none, Option.isSome_some, ne_eq, Decidable.not_not] at hb7_15
                     obtain ⟨r, hg⟩ : ∃ r, V[V.length - 1]? = some r := ⟨_, List.getElem?_eq_getElem (by omega)⟩
                     rw [hg] at hnx
                     have hr := hO.rd (by omega)
                     obtain ⟨bb, off, rfl, _⟩ := hr.open (by omega)
                     have hcell := flatMap_get LsV.cells_len hg
                     refine WN.calm _ rfl rfl rfl rfl rfl (fun _ => r_move rfl (ev_t rfl)) ?_
                     refine WN.calm _ rfl rfl rfl rfl rfl (fun _ => r_nilCheck rfl (ev_t rfl)) ?_
                     first | refine WN.calm _ rfl rfl rfl rfl rfl (fun _ => r_field0 rfl (ev_t rfl) fld_55_0) ?_ | refine WN.calm _ rfl rfl rfl rfl rfl (fun _ => r_fieldAt rfl (ev_t rfl) fld_55_0) ?_
                     refine WN.calm _ rfl rfl rfl rfl rfl (fun _ => r_move rfl (ev_t rfl)) ?_
                     refine WN.calm _ rfl rfl rfl rfl rfl (fun _ => r_nilCheck rfl (ev_t rfl)) ?_
                     first | refine WN.calm _ rfl rfl rfl rfl rfl (fun _ => r_field0 rfl (ev_t rfl) fld_55_0) ?_ | refine WN.calm _ rfl rfl rfl rfl rfl (fun _ => r_fieldAt rfl (ev_t rfl) fld_55_0) ?_
                     first | refine WN.calm _ rfl rfl rfl rfl rfl (fun _ => r_field0 rfl (ev_t rfl) fld_58_0) ?_ | refine WN.calm _ rfl rfl rfl rfl rfl (fun _ => r_fieldAt rfl (ev_t rfl) fld_58_0) ?_
                     refine WN.held _ rfl rfl rfl rfl rfl hS7 (fun w' hS => r_load rfl (ev_t rfl) flat_53 (Blk.cell (hB.upd hS (fun h => h)) rfl)) ?_
                     refine WN.held _ rfl rfl rfl rfl rfl hS7 (fun w' hS => r_load rfl (ev_t rfl) flat_53 (Blk.cell (hB.upd hS (fun h => h)) rfl)) ?_
                     refine WN.calm _ rfl rfl rfl rfl rfl (fun _ => r_lenSlice (ts := #[]) rfl (ev_t rfl) elem_53) ?_
                     first | refine WN.calm _ rfl rfl rfl rfl rfl (fun _ => r_subN rfl (ev_t rfl) ev_c (by simp only [inK]; omega)) ?_ | refine WN.calm _ rfl rfl rfl rfl rfl (fun _ => r_sub rfl (ev_t rfl) ev_c) ?_
                     refine WN.calm _ rfl rfl rfl rfl rfl (fun _ => r_indexAddr rfl (ev_t rfl) (ev_t rfl) elem_53 size_58 (by omega) (by omega)) ?_
                     first | refine WN.calm _ rfl rfl rfl rfl rfl (fun _ => r_field0 rfl (ev_t rfl) fld_58_0) ?_ | refine WN.calm _ rfl rfl rfl rfl rfl (fun _ => r_fieldAt rfl (ev_t rfl) fld_58_0) ?_
                     refine WN.held _ rfl rfl rfl rfl rfl hS7 (fun w' hS => r_load rfl (ev_t rfl) flat_27 (Rd.cell (hr.upd hS (fun _ _ _ h => h)) (j := (V.length - 1) * 3) (by omega) (hcell 0 _ rfl))) ?_
                     refine WN.step _ rfl (SO.val rfl rfl rfl rfl (r_load rfl (ev_t rfl) flat_27 (Blk.cell hBx rfl)) ?_)
                     refine ⟨hS7, ?_⟩
                     refine WN.calm _ rfl rfl rfl rfl rfl (fun _ => r_geq rfl (ev_t rfl) (ev_t rfl)) ?_
                     refine WN.calm _ rfl rfl rfl rfl rfl (fun _ => r_pickT rfl (ev_t rfl) (ev_t rfl)) ?_
                     refine WN.calm _ rfl rfl rfl rfl rfl (fun _ => r_pickF rfl (ev_t rfl) (ev_t rfl)) ?_
                     refine WN.done ?_
                     refine WX.keep [(4, _), (5, _), (6, _), (7, _), (62, _)] ⟨rfl, rfl, rfl, rfl, rfl, trivial⟩ ?_
                     refine WX.next ?_
                     refine WC.cond rfl (ev_t rfl) (fun hc7 => ?_) (fun hc7 => ?_)
                     · try (exfalso; first | (simp at hc7; done) | (simp only [decide_eq_true_eq, decide_eq_false_iff_not, Bool.not_eq_true', Bool.not_eq_false', Bool.not_eq_true, Bool.not_eq_false] at hc7; omega) | omega)
                       all_goals
                        try simp only [decide_eq_true_eq, decide_eq_false_iff_not, Bool.not_eq_true', Bool.not_eq_false', Bool.not_eq_true, Bool.not_eq_false, Option.isNone_none, Option.isNone_some, Option.isSome_none, Option.isSome_some, ne_eq, Decidable.not_not] at hc7
                        have hbad : a = 0 ∨ b = 0 ∨ nextOK L a = false := by simp_all
                        refine WC.region ?_
                        refine WL.val rfl rfl rfl rfl (r_move rfl (ev_t rfl)) ?_
                        refine WL.cons (SO.call (fail_ok hR) rfl body_31 ⟨(ev_t rfl), trivial⟩ rfl rfl rfl rfl ?_)
                        rintro v w13 ⟨hR, hu13⟩
                        have hs13 := hu13.size
                        replace hU := hU.trans hu13 (by first | exact (fun _ _ h => h) | exact (fun _ _ h => h.elim) | (intro k hl hk; (try simp only [At, New, Grow, From, No] at hk ⊢); omega) | (intro k hl hk; first | (have h1 := hG k hk; have h2 := hRw k h1.1; omega) | ((try simp only [At, New, Grow, From, No] at *); omega)))
                        replace hT := hT.upd hu13 (by first | exact (fun _ _ _ h => h) | (intro k hk hl hS; have := hRw k hk; have := hRl k hk; simp only [At, No] at hS; omega))
                        replace hcl := hcl.upd hu13 (by first | exact (fun _ _ _ h => h) | (intro k hk hl hS; have := hCn k hk; first | (have := hRl _ (hG _ hS).1; omega) | (simp only [At] at hS; omega)))
                        replace hBx := hBx.upd hu13 (by first | exact (fun h => h) | (exact fun h => by have := hRl _ (hG _ h).1; omega) | (simp only [At]; omega))
                        replace hB := hB.upd hu13 (by first | exact (fun h => h) | (exact fun h => (hG t h).2.1 rfl) | (simp only [At, No]; omega))
                        replace hO := hO.upd hu13 (by first | exact (fun _ _ _ h => h) | (intro k hk hl hS; have := hG k hk; have := hRw k this.1; simp only [At, No] at hS; omega))
                        refine WL.nil ?_
                        refine WX.keep [(4, _), (5, _), (6, _), (7, _)] ⟨rfl, rfl, rfl, rfl, trivial⟩ ?_
                        refine WX.meet [(4, _), (5, _), (6, _), (7, _)] ⟨rfl, rfl, rfl, rfl, trivial⟩ ?_
                        first
                          | exact ⟨none, hU, hR, hT, hBx, hcl, .inl ⟨rfl, by rw [← hs, loadL_bad ha hb hbad]⟩, rfl⟩
                          | (refine ⟨s3, hU, hR, hT, hBx, hcl, ?_, rfl⟩; rw [loadL_good ha hb hd (by simp_all)] at hs; cases s3 with | none => (rw [loadL_none] at hs; subst hs; exact .inl ⟨rfl, rfl⟩) | some q3 => exact .inr ⟨by simp, hs⟩)
                     · try (exfalso; first | (simp at hc7; done) | (simp only [decide_eq_true_eq, decide_eq_false_iff_not, Bool.not_eq_true', Bool.not_eq_false', Bool.not_eq_true, Bool.not_eq_false] at hc7; omega) | omega)
                       all_goals
                        try simp only [decide_eq_true_eq, decide_eq_false_iff_not, Bool.not_eq_true', Bool.not_eq_false', Bool.not_eq_true, Bool.not_eq_false, Option.isNone_none, Option.isNone_some, Option.isSome_none, Option.isSome_some, ne_eq, Decidable.not_not] at hc7
                        refine WC.skip ?_
                        refine WX.meet [(4, _), (5, _), (6, _), (7, _)] ⟨rfl, rfl, rfl, rfl, trivial⟩ ?_
                        first
                          | exact ⟨none, hU, hR, hT, hBx, hcl, .inl ⟨rfl, by rw [← hs, loadL_bad ha hb hbad]⟩, rfl⟩
                          | (refine ⟨s3, hU, hR, hT, hBx, hcl, ?_, rfl⟩; rw [loadL_good ha hb hd (by simp_all)] at hs; cases s3 with | none => (rw [loadL_none] at hs; subst hs; exact .inl ⟨rfl, rfl⟩) | some q3 => exact .inr ⟨by simp, hs⟩)
                  · try (exfalso; first | (simp at hb7_15; done) | (simp only [decide_eq_true_eq, decide_eq_false_iff_not, Bool.not_eq_true', Bool.not_eq_false', Bool.not_eq_true, Bool.not_eq_false] at hb7_15; omega) | omega)
                    all_goals
                     try simp only [decide_eq_true_eq, decide_eq_false_iff_not, Bool.not_eq_true', Bool.not_eq_false', Bool.not_eq_true, Bool.not_eq_false, Option.isNone_none, Option.isNone_some, Option.isSome_none, Option.isSome_some, ne_eq, Decidable.not_not] at hb7_15
                     refine WN.skip _ rfl rfl rfl rfl ?_
                     refine WN.skip _ rfl rfl rfl rfl ?_
                     refine WN.skip _ rfl rfl rfl rfl ?_
                     refine WN.skip _ rfl rfl rfl rfl ?_
                     refine WN.skip _ rfl rfl rfl rfl ?_
                     refine WN.skip _ rfl rfl rfl rfl ?_
                     refine WN.skip _ rfl rfl rfl rfl ?_
                     refine WN.heldSkip _ rfl rfl rfl rfl hS7 ?_
                     refine WN.heldSkip _ rfl rfl rfl rfl hS7 ?_
                     refine WN.skip _ rfl rfl rfl rfl ?_
                     refine WN.skip _ rfl rfl rfl rfl ?_
                     refine WN.skip _ rfl rfl rfl rfl ?_
                     refine WN.skip _ rfl rfl rfl rfl ?_
                     refine WN.heldSkip _ rfl rfl rfl rfl hS7 ?_
                     refine WN.step _ rfl (SO.skip rfl rfl rfl ?_)
                     refine ⟨hS7, ?_⟩
                     refine WN.skip _ rfl rfl rfl rfl ?_
                     refine WN.calm _ rfl rfl rfl rfl rfl (fun _ => r_pickF rfl (ev_t rfl) ev_c) ?_
                     refine WN.calm _ rfl rfl rfl rfl rfl (fun _ => r_pickF rfl (ev_t rfl) (ev_t rfl)) ?_
                     refine WN.done ?_
                     refine WX.keep [(4, _), (5, _), (6, _), (7, _), (62, _)] ⟨rfl, rfl, rfl, rfl, rfl, trivial⟩ ?_
                     refine WX.next ?_
                     refine WC.cond_false rfl (ev_t rfl) ?_
                     refine WC.skip ?_
                     refine WX.meet [(4, _), (5, _), (6, _), (7, _)] ⟨rfl, rfl, rfl, rfl, trivial⟩ ?_
                     first
                       | exact ⟨none, hU, hR, hT, hBx, hcl, .inl ⟨rfl, by rw [← hs, loadL_bad ha hb hbad]⟩, rfl⟩
                       | (refine ⟨s3, hU, hR, hT, hBx, hcl, ?_, rfl⟩; rw [loadL_good ha hb hd (by simp_all)] at hs; cases s3 with | none => (rw [loadL_none] at hs; subst hs; exact .inl ⟨rfl, rfl⟩) | some q3 => exact .inr ⟨by simp, hs⟩)
          · clear hU hR hT hBx hcl
            rintro E w2 ⟨s4, hU, hR, hT, hBx, hcl, hs4, rfl⟩
            have hbl := hBx.lt
            obtain ⟨A, c, V, G, H, hB, hO, hD, hLV, _, _, hG, hH⟩ := id hT
            have hlen : V.length = L.length := by rw [← hLV, List.length_map]
            have hV := Upd.refl No w2
            have hw2 := hU.size
            refine WC.draws' (fun u0_ u1_ => Upd No u0_ u1_) (fun j => [0, 0, 0, 0, 0, 1, 1, 2, 0, 0, 2].getD j 0) (.calm 0 (.calm 1 (.calm 2 (.calm 3 (.held 4 (.one 5 (.one 6 (.one 7 (.calm 8 (.calm 9 (.one 10 (.done)))))))))))) mixed (by kernel_rfl) (by repeat (first | with_reducible exact Deaf.body | with_reducible apply Deaf.then | with_reducible apply Deaf.block)) ?_
            intro w14 hu14
            have hz14 := congrArg Array.size hu14.2.2.2
            replace hu14 := Upd.of_draw hu14
            have hs14 := hu14.size
            replace hU := hU.trans hu14 (by first | exact (fun _ _ h => h) | exact (fun _ _ h => h.elim) | (intro k hl hk; (try simp only [At, New, Grow, From, No] at hk ⊢); omega) | (intro k hl hk; first | (have h1 := hG k hk; have h2 := hRw k h1.1; omega) | ((try simp only [At, New, Grow, From, No] at *); omega)))
            replace hR := hR.upd hu14 (by first | exact (fun h => h) | (exact fun h => by have := hRw _ (hG _ h).1; omega) | (simp only [At, No]; omega)) (by first | exact (fun _ _ _ h => h) | (intro k hk hl hS; have := hFl k hk; first | (have := hRw _ (hG _ hS).1; omega) | (simp only [At, No] at hS; omega)))
            replace hT := hT.upd hu14 (by first | exact (fun _ _ _ h => h) | (intro k hk hl hS; have := hRw k hk; have := hRl k hk; simp only [At, No] at hS; omega))
            replace hBx := hBx.upd hu14 (by first | exact (fun h => h) | (exact fun h => by have := hRl _ (hG _ h).1; omega) | (simp only [At]; omega))
            replace hcl := hcl.upd hu14 (by first | exact (fun _ _ _ h => h) | (intro k hk hl hS; have := hCn k hk; first | (have := hRl _ (hG _ hS).1; omega) | (simp only [At] at hS; omega)))
            replace hB := hB.upd hu14 (by first | exact (fun h => h) | (exact fun h => (hG t h).2.1 rfl) | (simp only [At, No]; omega))
            replace hO := hO.upd hu14 (by first | exact (fun _ _ _ h => h) | (intro k hk hl hS; have := hG k hk; have := hRw k this.1; simp only [At, No] at hS; omega))
            replace hV := hV.upd hu14 (by first | exact (fun _ _ h => h) | exact (fun _ _ h => h.elim) | (intro k hk hl; simp only [At, No] at *; omega))
            have hS9 := Upd.refl No w14
            refine WN.calm _ rfl rfl rfl rfl rfl (fun _ => r_move rfl (ev_t rfl)) ?_
            refine WN.calm _ rfl rfl rfl rfl rfl (fun _ => r_move rfl (ev_t rfl)) ?_
            refine WN.calm _ rfl rfl rfl rfl rfl (fun _ => r_nilCheck rfl (ev_t rfl)) ?_
            first | refine WN.calm _ rfl rfl rfl rfl rfl (fun _ => r_field0 rfl (ev_t rfl) fld_55_0) ?_ | refine WN.calm _ rfl rfl rfl rfl rfl (fun _ => r_fieldAt rfl (ev_t rfl) fld_55_0) ?_
            refine WN.held _ rfl rfl rfl rfl rfl hS9 (fun w' hS => r_load rfl (ev_t rfl) flat_53 (Blk.cell (hB.upd hS (fun h => h)) rfl)) ?_
            refine WN.step _ rfl (SO.val rfl rfl rfl rfl (r_loadAgg (vs := [_, _, _]) rfl (ev_t rfl) agg_58 size_58 (Blk.cellsL hBx)) ?_)
            refine ⟨hS9, ?_⟩
            refine WN.step _ rfl (SO.alloc rfl rfl rfl rfl (r_buildSlice (cs := #[_, _, _]) (vs := [(0, _)]) rfl ⟨⟨rfl, (ev_t rfl)⟩, trivial⟩ row_53 rfl rfl) ?_)
            intro w15 hu15 hB15 hz15
            have hs15 := hu15.size
            replace hS9 := Upd.transA hS9 hu15
            replace hU := hU.trans hu15 (by first | exact (fun _ _ h => h) | exact (fun _ _ h => h.elim) | (intro k hl hk; (try simp only [At, New, Grow, From, No] at hk ⊢); omega) | (intro k hl hk; first | (have h1 := hG k hk; have h2 := hRw k h1.1; omega) | ((try simp only [At, New, Grow, From, No] at *); omega)))
            replace hR := hR.upd hu15 (by first | exact (fun h => h) | (exact fun h => by have := hRw _ (hG _ h).1; omega) | (simp only [At, No]; omega)) (by first | exact (fun _ _ _ h => h) | (intro k hk hl hS; have := hFl k hk; first | (have := hRw _ (hG _ hS).1; omega) | (simp only [At, No] at hS; omega)))
            replace hT := hT.upd hu15 (by first | exact (fun _ _ _ h => h) | (intro k hk hl hS; have := hRw k hk; have := hRl k hk; simp only [At, No] at hS; omega))
            replace hBx := hBx.upd hu15 (by first | exact (fun h => h) | (exact fun h => by have := hRl _ (hG _ h).1; omega) | (simp only [At]; omega))
            replace hcl := hcl.upd hu15 (by first | exact (fun _ _ _ h => h) | (intro k hk hl hS; have := hCn k hk; first | (have := hRl _ (hG _ hS).1; omega) | (simp only [At] at hS; omega)))
            replace hB := hB.upd hu15 (by first | exact (fun h => h) | (exact fun h => (hG t h).2.1 rfl) | (simp only [At, No]; omega))
            replace hO := hO.upd hu15 (by first | exact (fun _ _ _ h => h) | (intro k hk hl hS; have := hG k hk; have := hRw k this.1; simp only [At, No] at hS; omega))
            replace hV := hV.upd hu15 (by first | exact (fun _ _ h => h) | exact (fun _ _ h => h.elim) | (intro k hk hl; simp only [At, No] at *; omega))
            refine ⟨hS9, ?_⟩
            have hwA := hV
            have hclA := hcl.rd (by omega)
            have hsA := hwA.size
            refine WN.step _ rfl (SO.append hO (Rd.of_blk (F := At _) (n := 1) (sz := 3) hB15 rfl rfl (by omega)) row_53 (by intro u hu; simp only [List.mem_cons, List.not_mem_nil, or_false, Array.toList] at hu; rcases hu with rfl | rfl | rfl <;> rfl) (le_maxLen (by omega)) (by omega) rfl (ev_t rfl) (ev_t rfl) rfl rfl rfl rfl ?_)
            intro v16 w16 ho hu16
            have hs16 := hu16.size
            try replace hS9 := Upd.transA hS9 hu16
            replace hU := hU.trans hu16 (by first | exact (fun _ _ h => h) | exact (fun _ _ h => h.elim) | (intro k hl hk; (try simp only [At, New, Grow, From, No] at hk ⊢); omega) | (intro k hl hk; first | (have h1 := hG k hk; have h2 := hRw k h1.1; omega) | ((try simp only [At, New, Grow, From, No] at *); omega)))
            replace hR := hR.upd hu16 (by first | exact (fun h => h) | (exact fun h => by have := hRw _ (hG _ h).1; omega) | (simp only [At, No]; omega)) (by first | exact (fun _ _ _ h => h) | (intro k hk hl hS; have := hFl k hk; first | (have := hRw _ (hG _ hS).1; omega) | (simp only [At, No] at hS; omega)))
            replace hBx := hBx.upd hu16 (by first | exact (fun h => h) | (exact fun h => by have := hRl _ (hG _ h).1; omega) | (simp only [At]; omega))
            replace hcl := hcl.upd hu16 (by first | exact (fun _ _ _ h => h) | (intro k hk hl hS; have := hCn k hk; first | (have := hRl _ (hG _ hS).1; omega) | (simp only [At] at hS; omega)))
            replace hB := hB.upd hu16 (by first | exact (fun h => h) | (exact fun h => (hG t h).2.1 rfl) | (simp only [At, No]; omega))
            refine ⟨trivial, ?_⟩
            obtain ⟨A16, c16, rfl, hc16⟩ := Own.form ho
            have hwB := hu16
            refine WN.calm _ rfl rfl rfl rfl rfl (fun _ => r_nilCheck rfl (ev_t rfl)) ?_
            first | refine WN.calm _ rfl rfl rfl rfl rfl (fun _ => r_field0 rfl (ev_t rfl) fld_55_0) ?_ | refine WN.calm _ rfl rfl rfl rfl rfl (fun _ => r_fieldAt rfl (ev_t rfl) fld_55_0) ?_
            refine WN.step _ rfl (SO.store rfl (ev_t rfl) (ev_t rfl) size_53 hB rfl rfl rfl rfl rfl ?_)
            intro w17 hu17 hB2 hz
            have hpush := IsTG.push (TT := 55) (r := ⟨⟨a, b, d⟩, .slice Ad d.length cd⟩) (fun r hr => (hD r hr).upd hwA (fun _ _ _ h => h)) htR (by omega) (fun k hk => by have := hG k hk; exact ⟨this.1, this.2.1, by omega⟩) (fun k hk => by have := hH k hk; exact ⟨this.1, this.2.1, this.2.2.1, by omega⟩) hclA (fun k hk => by have := hCn k hk; exact ⟨by omega, fun h => by have := hRl _ (hG k h).1; omega, by omega⟩) ho hwB hB2 hu17
            have hs17 := hu17.size
            have hs16 := hwB.size
            rw [hLV] at hpush
            have hs17 := hu17.size
            try replace hS9 := Upd.transA hS9 hu17
            replace hU := hU.trans hu17 (by first | exact (fun _ _ h => h) | exact (fun _ _ h => h.elim) | (intro k hl hk; (try simp only [At, New, Grow, From, No] at hk ⊢); omega) | (intro k hl hk; first | (have h1 := hG k hk; have h2 := hRw k h1.1; omega) | ((try simp only [At, New, Grow, From, No] at *); omega)))
            replace hR := hR.upd hu17 (by first | exact (fun h => h) | (exact fun h => by have := hRw _ (hG _ h).1; omega) | (simp only [At, No]; omega)) (by first | exact (fun _ _ _ h => h) | (intro k hk hl hS; have := hFl k hk; first | (have := hRw _ (hG _ hS).1; omega) | (simp only [At, No] at hS; omega)))
            replace hBx := hBx.upd hu17 (by first | exact (fun h => h) | (exact fun h => by have := hRl _ (hG _ h).1; omega) | (simp only [At]; omega))
            replace hcl := hcl.upd hu17 (by first | exact (fun _ _ _ h => h) | (intro k hk hl hS; have := hCn k hk; first | (have := hRl _ (hG _ hS).1; omega) | (simp only [At] at hS; omega)))
            refine ⟨trivial, ?_⟩
            refine WN.done ?_
            refine WX.keep [(4, _), (5, _), (6, _)] ⟨rfl, rfl, rfl, trivial⟩ ?_
            refine WX.blockNormal ?_
            refine WX.next ?_
            refine WC.region ?_
            refine WL.val rfl rfl rfl rfl (r_move rfl (ev_t rfl)) ?_
            first | refine WL.val rfl rfl rfl rfl (r_subN rfl (ev_t rfl) ev_c (by simp only [inK]; omega)) ?_ | refine WL.val rfl rfl rfl rfl (r_sub rfl (ev_t rfl) ev_c) ?_
            refine WL.val rfl rfl rfl rfl (r_assign rfl (ev_t rfl)) ?_
            refine WL.nil ?_
            refine WX.keep [(4, _), (5, _), (6, _)] ⟨rfl, rfl, rfl, trivial⟩ ?_
            refine WX.meet [(4, _), (5, _), (6, _)] ⟨rfl, rfl, rfl, trivial⟩ ?_
            refine ⟨q1, by omega, s4, L ++ [⟨a, b, d⟩], _, by omega, by simp; omega, hU, hR, hpush, ?_, ?_, .inl (.inl htR), hs4, by simp⟩
            · rintro k ((hk | hk) | hk)
              · exact hRw k hk
              · omega
              · have := hCn k hk; omega
            · rintro k ((hk | hk) | hk)
              · have := hRl k hk; omega
              · omega
              · have := hCn k hk; omega
       · try (exfalso; first | (simp at hc4; done) | (simp only [decide_eq_true_eq, decide_eq_false_iff_not, Bool.not_eq_true', Bool.not_eq_false', Bool.not_eq_true, Bool.not_eq_false] at hc4; omega) | omega)
         all_goals
          try simp only [decide_eq_true_eq, decide_eq_false_iff_not, Bool.not_eq_true', Bool.not_eq_false', Bool.not_eq_true, Bool.not_eq_false, Option.isNone_none, Option.isNone_some, Option.isSome_none, Option.isSome_some, ne_eq, Decidable.not_not] at hc4
          refine WC.exit ?_
          refine WX.thenExit ?_
          refine WX.thenExit ?_
          refine WX.blockHere ?_
          refine WX.next ?_
          refine WC.seq ?_
          refine WC.seq ?_
          refine WC.region ?_
          refine WL.val rfl rfl rfl rfl (r_move rfl (ev_t rfl)) ?_
          refine WL.cons (SO.call (end_ok hR) rfl body_32 ⟨(ev_t rfl), trivial⟩ rfl rfl rfl rfl ?_)
          rintro v w18 ⟨rfl, he⟩
          obtain rfl := he.symm
          refine WL.val rfl rfl rfl rfl (r_not rfl (ev_t rfl)) ?_
          refine WL.nil ?_
          refine WX.keep [(5, _), (77, _)] ⟨rfl, rfl, trivial⟩ ?_
          refine WX.next ?_
          refine WC.cond rfl (ev_t rfl) (fun hc10 => ?_) (fun hc10 => ?_)
          · try (exfalso; first | (simp at hc10; done) | (simp only [decide_eq_true_eq, decide_eq_false_iff_not, Bool.not_eq_true', Bool.not_eq_false', Bool.not_eq_true, Bool.not_eq_false] at hc10; omega) | omega)
            all_goals
             try simp only [decide_eq_true_eq, decide_eq_false_iff_not, Bool.not_eq_true', Bool.not_eq_false', Bool.not_eq_true, Bool.not_eq_false, Option.isNone_none, Option.isNone_some, Option.isSome_none, Option.isSome_some, ne_eq, Decidable.not_not] at hc10
             refine WC.seq ?_
             have hno : fin.1 ≠ some [] := by
               rcases hs with ⟨_, h2⟩ | ⟨h1, h2⟩
               · rw [h2]; simp
               · cases s with
                 | none => exact absurd rfl h1
                 | some r =>
                   have h0 : q = 0 := by first | omega | (exfalso; simp_all; done)
                   subst h0
                   subst h2
                   simpa [loadL] using hc10
             refine WC.region ?_
             refine WL.val rfl rfl rfl rfl (r_assign rfl ev_c) ?_
             refine WL.val rfl rfl rfl rfl (r_assign rfl ev_c) ?_
             refine WL.nil ?_
             refine WX.keep [(2, _), (3, _)] ⟨rfl, rfl, trivial⟩ ?_
             refine WX.next ?_
             refine WC.ret ?_
             refine WX.thenRet ?_
             refine WX.retE2 rfl rfl rfl ?_
             exact ⟨hU, .inr ⟨hno, rfl⟩⟩
          · try (exfalso; first | (simp at hc10; done) | (simp only [decide_eq_true_eq, decide_eq_false_iff_not, Bool.not_eq_true', Bool.not_eq_false', Bool.not_eq_true, Bool.not_eq_false] at hc10; omega) | omega)
            all_goals
             try simp only [decide_eq_true_eq, decide_eq_false_iff_not, Bool.not_eq_true', Bool.not_eq_false', Bool.not_eq_true, Bool.not_eq_false, Option.isNone_none, Option.isNone_some, Option.isSome_none, Option.isSome_some, ne_eq, Decidable.not_not] at hc10
             refine WC.skip ?_
             refine WX.next ?_
             refine WC.seq ?_
             have hyes : s = some [] := by simp_all
             subst hyes
             have h0 : q = 0 := by first | omega | simp_all
             subst h0
             have hf : ((some [], L) : Option (List UInt8) × List Ls) = fin := by rcases hs with h | h; exact absurd h.1 (by simp); exact h.2
             subst hf
             refine WC.region ?_
             refine WL.val rfl rfl rfl rfl (r_move rfl (ev_t rfl)) ?_
             refine WL.val rfl rfl rfl rfl (r_assign rfl (ev_t rfl)) ?_
             refine WL.val rfl rfl rfl rfl (r_assign rfl ev_c) ?_
             refine WL.nil ?_
             refine WX.keep [(2, _), (3, _)] ⟨rfl, rfl, trivial⟩ ?_
             refine WX.next ?_
             refine WC.ret ?_
             refine WX.retE2 rfl rfl rfl ?_
             exact ⟨hU, .inl ⟨rfl, t, rfl, IsTG.mono hT (fun k hk hl => ⟨by have := hRw k hk; omega, by omega⟩)⟩⟩
    · try (exfalso; first | (simp at hb4_2; done) | (simp only [decide_eq_true_eq, decide_eq_false_iff_not, Bool.not_eq_true', Bool.not_eq_false', Bool.not_eq_true, Bool.not_eq_false] at hb4_2; omega) | omega)
      all_goals
       try simp only [decide_eq_true_eq, decide_eq_false_iff_not, Bool.not_eq_true', Bool.not_eq_false', Bool.not_eq_true, Bool.not_eq_false, Option.isNone_none, Option.isNone_some, Option.isSome_none, Option.isSome_some, ne_eq, Decidable.not_not] at hb4_2
       refine WL.skip rfl rfl rfl ?_
       refine WL.skip rfl rfl rfl ?_
       refine WL.skip rfl rfl rfl ?_
       refine WL.val rfl rfl rfl rfl (r_pickF rfl (ev_t rfl) ev_c) ?_
       refine WL.nil ?_
       refine WX.keep [(4, _), (5, _), (6, _), (19, _)] ⟨rfl, rfl, rfl, rfl, trivial⟩ ?_
       refine WX.next ?_
       refine WC.cond_false rfl (ev_t rfl) ?_
       refine WC.exit ?_
       refine WX.thenExit ?_
       refine WX.thenExit ?_
       refine WX.blockHere ?_
       refine WX.next ?_
       refine WC.seq ?_
       refine WC.seq ?_
       refine WC.region ?_
       refine WL.val rfl rfl rfl rfl (r_move rfl (ev_t rfl)) ?_
       refine WL.cons (SO.call (end_ok hR) rfl body_32 ⟨(ev_t rfl), trivial⟩ rfl rfl rfl rfl ?_)
       rintro v w19 ⟨rfl, he⟩
       obtain rfl := he.symm
       refine WL.val rfl rfl rfl rfl (r_not rfl (ev_t rfl)) ?_
       refine WL.nil ?_
       refine WX.keep [(5, _), (77, _)] ⟨rfl, rfl, trivial⟩ ?_
       refine WX.next ?_
       refine WC.cond rfl (ev_t rfl) (fun hc10 => ?_) (fun hc10 => ?_)
       · try (exfalso; first | (simp at hc10; done) | (simp only [decide_eq_true_eq, decide_eq_false_iff_not, Bool.not_eq_true', Bool.not_eq_false', Bool.not_eq_true, Bool.not_eq_false] at hc10; omega) | omega)
         all_goals
          try simp only [decide_eq_true_eq, decide_eq_false_iff_not, Bool.not_eq_true', Bool.not_eq_false', Bool.not_eq_true, Bool.not_eq_false, Option.isNone_none, Option.isNone_some, Option.isSome_none, Option.isSome_some, ne_eq, Decidable.not_not] at hc10
          refine WC.seq ?_
          have hno : fin.1 ≠ some [] := by
            rcases hs with ⟨_, h2⟩ | ⟨h1, h2⟩
            · rw [h2]; simp
            · cases s with
              | none => exact absurd rfl h1
              | some r =>
                have h0 : q = 0 := by first | omega | (exfalso; simp_all; done)
                subst h0
                subst h2
                simpa [loadL] using hc10
          refine WC.region ?_
          refine WL.val rfl rfl rfl rfl (r_assign rfl ev_c) ?_
          refine WL.val rfl rfl rfl rfl (r_assign rfl ev_c) ?_
          refine WL.nil ?_
          refine WX.keep [(2, _), (3, _)] ⟨rfl, rfl, trivial⟩ ?_
          refine WX.next ?_
          refine WC.ret ?_
          refine WX.thenRet ?_
          refine WX.retE2 rfl rfl rfl ?_
          exact ⟨hU, .inr ⟨hno, rfl⟩⟩
       · try (exfalso; first | (simp at hc10; done) | (simp only [decide_eq_true_eq, decide_eq_false_iff_not, Bool.not_eq_true', Bool.not_eq_false', Bool.not_eq_true, Bool.not_eq_false] at hc10; omega) | omega)
         all_goals
          try simp only [decide_eq_true_eq, decide_eq_false_iff_not, Bool.not_eq_true', Bool.not_eq_false', Bool.not_eq_true, Bool.not_eq_false, Option.isNone_none, Option.isNone_some, Option.isSome_none, Option.isSome_some, ne_eq, Decidable.not_not] at hc10
          refine WC.skip ?_
          refine WX.next ?_
          refine WC.seq ?_
          have hyes : s = some [] := by simp_all
          subst hyes
          have h0 : q = 0 := by first | omega | simp_all
          subst h0
          have hf : ((some [], L) : Option (List UInt8) × List Ls) = fin := by rcases hs with h | h; exact absurd h.1 (by simp); exact h.2
          subst hf
          refine WC.region ?_
          refine WL.val rfl rfl rfl rfl (r_move rfl (ev_t rfl)) ?_
          refine WL.val rfl rfl rfl rfl (r_assign rfl (ev_t rfl)) ?_
          refine WL.val rfl rfl rfl rfl (r_assign rfl ev_c) ?_
          refine WL.nil ?_
          refine WX.keep [(2, _), (3, _)] ⟨rfl, rfl, trivial⟩ ?_
          refine WX.next ?_
          refine WC.ret ?_
          refine WX.retE2 rfl rfl rfl ?_
          exact ⟨hU, .inl ⟨rfl, t, rfl, IsTG.mono hT (fun k hk hl => ⟨by have := hRw k hk; omega, by omega⟩)⟩⟩
end Go.Proofs.Ytipabhbnljadfaa

/-
  CRC-32C, in plain Lean: no program in sight.
-/
namespace Go.Proofs.Ytipabhbnljadfaa
open Go
set_option linter.unusedSimpArgs false
set_option linter.unusedVariables false

theorem bits_xor_u32 (a b : Nat) (ha : a < 4294967296) (hb : b < 4294967296) : bits .xor .u32 (a : Int) (b : Int) = ((a ^^^ b : Nat) : Int) := by
  have h1 : a ^^^ b < 2 ^ 32 := Nat.xor_lt_two_pow (n := 32) ha hb
  show IntKind.u32.wrap (((BitVec.ofInt 32 (a : Int) ^^^ BitVec.ofInt 32 (b : Int) : BitVec 32).toNat : Nat) : Int) = _
  rw [BitVec.ofInt_natCast, BitVec.ofInt_natCast, BitVec.toNat_xor, BitVec.toNat_ofNat, BitVec.toNat_ofNat, Nat.mod_eq_of_lt (by simpa using ha), Nat.mod_eq_of_lt (by simpa using hb)]
  exact wrap_u32_in (by omega) (by omega)
theorem bits_and_u32 (a b : Nat) (ha : a < 4294967296) (hb : b < 4294967296) : bits .and .u32 (a : Int) (b : Int) = ((a &&& b : Nat) : Int) := by
  have h1 : a &&& b < 2 ^ 32 := Nat.and_lt_two_pow (n := 32) a hb
  show IntKind.u32.wrap (((BitVec.ofInt 32 (a : Int) &&& BitVec.ofInt 32 (b : Int) : BitVec 32).toNat : Nat) : Int) = _
  rw [BitVec.ofInt_natCast, BitVec.ofInt_natCast, BitVec.toNat_and, BitVec.toNat_ofNat, BitVec.toNat_ofNat, Nat.mod_eq_of_lt (by simpa using ha), Nat.mod_eq_of_lt (by simpa using hb)]
  exact wrap_u32_in (by omega) (by omega)

/-- one bit -/
def stepC (c : Nat) : Nat := (c / 2) ^^^ (if c % 2 = 1 then 2197175160 else 0)
def stepN : Nat → Nat → Nat
  | 0, c => c
  | j + 1, c => stepC (stepN j c)
/-- one byte -/
def crcB (c : Nat) (b : UInt8) : Nat := stepN 8 (c ^^^ b.toNat)
def crcR (l : List UInt8) : Nat := l.foldl crcB 4294967295
/-- CRC-32C -/
def crc (l : List UInt8) : Nat := crcR l ^^^ 4294967295

theorem stepC_lt {c : Nat} (h : c < 4294967296) : stepC c < 4294967296 := by
  unfold stepC
  refine Nat.xor_lt_two_pow (n := 32) (by omega) ?_
  split <;> omega
theorem stepN_lt : ∀ (j : Nat) {c : Nat}, c < 4294967296 → stepN j c < 4294967296
  | 0, _, h => h
  | j + 1, _, h => stepC_lt (stepN_lt j h)
theorem crcB_lt {c : Nat} (b : UInt8) (h : c < 4294967296) : crcB c b < 4294967296 :=
  stepN_lt 8 (Nat.xor_lt_two_pow (n := 32) h (by have := b.toNat_lt; omega))
theorem foldl_crcB_lt : ∀ (l : List UInt8) {c : Nat}, c < 4294967296 → l.foldl crcB c < 4294967296
  | [], _, h => h
  | b :: l, _, h => foldl_crcB_lt l (crcB_lt b h)
theorem crcR_lt (l : List UInt8) : crcR l < 4294967296 := foldl_crcB_lt l (by omega)
theorem crc_lt (l : List UInt8) : crc l < 4294967296 := Nat.xor_lt_two_pow (n := 32) (crcR_lt l) (by omega)

theorem wrap_u32_neg1 : IntKind.u32.wrap (-1) = 4294967295 := by decide

theorem step_bits {c : Nat} (h : c < 4294967296) :
    bits .xor .u32 ((c : Int) / 2 ^ (1 : Int).toNat) (bits .and .u32 2197175160 (IntKind.u32.wrap (-(bits .and .u32 (c : Int) 1)))) = (stepC c : Int) := by
  have e1 : (c : Int) / 2 ^ (1 : Int).toNat = ((c / 2 : Nat) : Int) := by
    show (c : Int) / 2 ^ 1 = _
    omega
  have e2 : bits .and .u32 (c : Int) 1 = ((c % 2 : Nat) : Int) := by
    rw [show (1 : Int) = ((1 : Nat) : Int) from rfl, bits_and_u32 _ _ h (by omega), Nat.and_one_is_mod]
  rw [e1, e2]
  unfold stepC
  by_cases h1 : c % 2 = 1
  · rw [if_pos h1, h1]
    have e3 : bits .and .u32 2197175160 (IntKind.u32.wrap (-((1 : Nat) : Int))) = ((2197175160 : Nat) : Int) := by decide
    rw [e3, bits_xor_u32 _ _ (by omega) (by omega)]
  · have h0 : c % 2 = 0 := by omega
    rw [if_neg h1, h0]
    have e3 : bits .and .u32 2197175160 (IntKind.u32.wrap (-((0 : Nat) : Int))) = ((0 : Nat) : Int) := by decide
    rw [e3, bits_xor_u32 _ _ (by omega) (by omega)]

theorem com_bits {c : Nat} (h : c < 4294967296) : ((c ^^^ 4294967295 : Nat) : Int) = 4294967295 - (c : Int) := by
  have h1 : (BitVec.ofNat 32 c ^^^ BitVec.allOnes 32).toNat = (~~~ BitVec.ofNat 32 c).toNat := by rw [BitVec.xor_allOnes]
  rw [BitVec.toNat_xor, BitVec.toNat_not, BitVec.toNat_ofNat, BitVec.toNat_allOnes, Nat.mod_eq_of_lt (by simpa using h)] at h1
  have h2 : c ^^^ 4294967295 = 4294967295 - c := by simpa using h1
  rw [h2]
  omega
end Go.Proofs.Ytipabhbnljadfaa

/-
  CRC-32C bit by bit is CRC-32C: no program in sight.
-/
namespace Go.Proofs.Ytipabhbnljadfaa
open Go
set_option linter.unusedSimpArgs false
set_option linter.unusedVariables false

def refB (b c k : Nat) : Nat := if (c + b / 2 ^ k) % 2 = 1 then (c / 2) ^^^ 2197175160 else c / 2
def refN (b : Nat) : Nat → Nat → Nat
  | 0, c => c
  | k + 1, c => refB b (refN b k c) k

theorem xor_half (x z : Nat) : (x ^^^ z) / 2 = x / 2 ^^^ z / 2 := by
  have := Nat.shiftRight_xor_distrib (a := x) (b := z) (i := 1)
  simpa [Nat.shiftRight_succ] using this

theorem refN_step (b c : Nat) : ∀ k, stepN k (c ^^^ b) = refN b k c ^^^ (b / 2 ^ k)
  | 0 => by simp [stepN, refN]
  | k + 1 => by
    have ih := refN_step b c k
    have hz : b / 2 ^ (k + 1) = b / 2 ^ k / 2 := by rw [Nat.pow_succ, Nat.div_div_eq_div_mul]
    simp only [stepN, refN, ih, hz]
    unfold stepC refB
    generalize refN b k c = x
    generalize b / 2 ^ k = z
    rw [xor_half]
    have h2 : ((x ^^^ z) % 2 = 1) = ((x + z) % 2 = 1) := by
      rw [eq_iff_iff, Nat.xor_mod_two_eq_one]
      omega
    simp only [h2]
    split
    · rw [Nat.xor_assoc, Nat.xor_comm (z / 2), ← Nat.xor_assoc]
    · rw [Nat.xor_zero]

theorem refN_byte (c : Nat) (b : UInt8) : refN b.toNat 8 c = crcB c b := by
  have h := refN_step b.toNat c 8
  have hb := b.toNat_lt
  rw [Nat.div_eq_of_lt (by simpa using hb), Nat.xor_zero] at h
  exact h.symm
theorem refB_lt {b c k : Nat} (h : c < 4294967296) : refB b c k < 4294967296 := by
  unfold refB
  split
  · exact Nat.xor_lt_two_pow (n := 32) (by omega) (by omega)
  · omega
theorem refN_lt (b : Nat) : ∀ (k : Nat) {c : Nat}, c < 4294967296 → refN b k c < 4294967296
  | 0, _, h => h
  | k + 1, _, h => refB_lt (refN_lt b k h)

theorem low_bits {c b k : Nat} (hc : c < 4294967296) (hb : b < 256) :
    bits .xor .u32 (bits .and .u32 (c : Int) 1) (bits .and .u32 (IntKind.u32.wrap ((b : Int) / 2 ^ ((k : Int)).toNat)) 1) = (((c + b / 2 ^ k) % 2 : Nat) : Int) := by
  have e : (b : Int) / 2 ^ ((k : Int)).toNat = ((b / 2 ^ k : Nat) : Int) := by
    rw [Int.toNat_natCast]
    exact_mod_cast rfl
  have hk : b / 2 ^ k ≤ b := Nat.div_le_self _ _
  rw [e]
  generalize b / 2 ^ k = z at hk ⊢
  rw [wrap_u32_in (by omega) (by omega), show (1 : Int) = ((1 : Nat) : Int) from rfl, bits_and_u32 _ _ hc (by omega), bits_and_u32 _ _ (by omega) (by omega), Nat.and_one_is_mod, Nat.and_one_is_mod, bits_xor_u32 _ _ (by omega) (by omega)]
  congr 1
  rcases Nat.mod_two_eq_zero_or_one c with h | h <;> rcases Nat.mod_two_eq_zero_or_one z with h' | h' <;> rw [h, h'] <;> simp <;> omega
theorem refB_T {b c k : Nat} (h : (((c + b / 2 ^ k) % 2 : Nat) : Int) = 1) (hc : c < 4294967296) : bits .xor .u32 ((c : Int) / 2 ^ Int.toNat 1) 2197175160 = ((refB b c k : Nat) : Int) := by
  have e1 : (c : Int) / 2 ^ Int.toNat 1 = ((c / 2 : Nat) : Int) := by
    show (c : Int) / 2 ^ 1 = _
    omega
  have h' : (c + b / 2 ^ k) % 2 = 1 := by exact_mod_cast h
  rw [e1, show (2197175160 : Int) = ((2197175160 : Nat) : Int) from rfl, bits_xor_u32 _ _ (by omega) (by omega), refB, if_pos h']
theorem refB_F {b c k : Nat} (h : ¬ (((c + b / 2 ^ k) % 2 : Nat) : Int) = 1) : (c : Int) / 2 ^ Int.toNat 1 = ((refB b c k : Nat) : Int) := by
  have e1 : (c : Int) / 2 ^ Int.toNat 1 = ((c / 2 : Nat) : Int) := by
    show (c : Int) / 2 ^ 1 = _
    omega
  have h' : ¬ (c + b / 2 ^ k) % 2 = 1 := by exact_mod_cast h
  rw [e1, refB, if_neg h']
end Go.Proofs.Ytipabhbnljadfaa

/-
  octet.Sum; slices.Equal of bytes.
-/
namespace Go.Proofs.Ytipabhbnljadfaa
open Go
set_option linter.unusedSimpArgs false
set_option linter.unusedVariables false

theorem byte_inj {a b : UInt8} (h : (a.toNat : Int) = (b.toNat : Int)) : a = b := UInt8.toNat_inj.1 (by omega)

end Go.Proofs.Ytipabhbnljadfaa

/-
  octet.Seal, octet.Open.
-/
namespace Go.Proofs.Ytipabhbnljadfaa
open Go
set_option linter.unusedSimpArgs false
set_option linter.unusedVariables false

/-- the sum's bytes, the lowest first -/
def le4 (c : Nat) : List UInt8 := [byteAt c 0, byteAt c 1, byteAt c 2, byteAt c 3]
def sealB (l : List UInt8) : List UInt8 := l ++ le4 (crc l)
def openB (l : List UInt8) : List UInt8 × Nat := if l.length < 4 then ([], 3) else if sealB (l.take (l.length - 4)) = l then (l.take (l.length - 4), 0) else ([], 14)
theorem sealB_length (l : List UInt8) : (sealB l).length = l.length + 4 := by simp [sealB, le4]

theorem le4_bits (c : Nat) : [Value.int .u8 (IntKind.u8.wrap (c : Int)), Value.int .u8 (IntKind.u8.wrap ((c : Int) / 2 ^ Int.toNat 8)), Value.int .u8 (IntKind.u8.wrap ((c : Int) / 2 ^ Int.toNat 16)), Value.int .u8 (IntKind.u8.wrap ((c : Int) / 2 ^ Int.toNat 24))] = (le4 c).map U8 := by
  have h0 := wrap_u8_byte c 0
  have h1 := wrap_u8_byte c 1
  have h2 := wrap_u8_byte c 2
  have h3 := wrap_u8_byte c 3
  rw [← shr_byte] at h1 h2 h3
  have e0 : (c / 256 ^ 0 : Nat) = c := by simp
  rw [e0] at h0
  have e1 : ((8 : Int) * ((1 : Nat) : Int)).toNat = Int.toNat 8 := rfl
  have e2 : ((8 : Int) * ((2 : Nat) : Int)).toNat = Int.toNat 16 := rfl
  have e3 : ((8 : Int) * ((3 : Nat) : Int)).toNat = Int.toNat 24 := rfl
  rw [e1] at h1
  rw [e2] at h2
  rw [e3] at h3
  rw [h0, h1, h2, h3]
  rfl
theorem New.of {w w1 w2 w3 : World} {k : Nat} (h : Grow (New w w1) w2 w3 k) (h1 : w.heap.size ≤ w2.heap.size) (h2 : w1.heap.size ≤ w3.heap.size) : New w w3 k := by
  rcases h with h | h
  · exact ⟨h.1, by have := h.2; omega⟩
  · exact ⟨by have := h.1; omega, h.2⟩

end Go.Proofs.Ytipabhbnljadfaa

/-
  The reference's Sum, Seal, Open.
-/
namespace Go.Proofs.Ytipabhbnljadfaa
open Go
set_option linter.unusedSimpArgs false
set_option linter.unusedVariables false

theorem le4_take {c i : Nat} (h : i < 4) : (le4 c).take (i + 1) = (le4 c).take i ++ [byteAt c i] := by
  match i, h with
  | 0, _ => rfl
  | 1, _ => rfl
  | 2, _ => rfl
  | 3, _ => rfl

end Go.Proofs.Ytipabhbnljadfaa

/-
  The reference's Uint, Int, Bytes.
-/
namespace Go.Proofs.Ytipabhbnljadfaa
open Go
set_option linter.unusedSimpArgs false
set_option linter.unusedVariables false

/-- so many bytes of a number, the lowest first -/
def lowB (n i : Nat) : List UInt8 := (List.range i).map (byteAt n)
theorem lowB_length (n i : Nat) : (lowB n i).length = i := by simp [lowB]
theorem lowB_succ (n i : Nat) : lowB n (i + 1) = lowB n i ++ [byteAt n i] := by simp [lowB, List.range_succ]
theorem U8_low (n i : Nat) : Value.int .u8 (((n / 256 ^ i : Nat) : Int) % 256) = U8 (byteAt n i) := by
  unfold U8 byteAt
  congr 1
  rw [UInt8.toNat_ofNat']
  generalize n / 256 ^ i = m
  omega
theorem U8_len {k : Nat} (h : k ≤ 8) : Value.int .u8 (k : Int) = U8 (UInt8.ofNat k) := by
  unfold U8
  congr 1
  rw [UInt8.toNat_ofNat']
  omega

theorem refUint_ok {w : World} {n : Nat} (hn : n < 18446744073709551616) :
    Ret Try.prog 33 #[.int .u64 (n : Int)] w fun v w' => Own w' (New w w') 5 1 v (encU n).length ((encU n).map U8) ∧ Upd No w w' := by
  have hbl : blen n ≤ 8 := blen_le (by simpa using hn)
  have key := fun i => lt_blen i n
  have lu := encU_length n
  refine enterRet (vs := [_]) (N := 35) Try.func33 rfl rfl rfl ?_
  have hU := Upd.refl No w
  refine WC.keep [(0, _)] ⟨rfl, trivial⟩ ?_
  refine WC.seq ?_
  refine WC.region ?_
  refine WL.val rfl rfl rfl rfl (r_assign rfl ev_c) ?_
  refine WL.nil ?_
  refine WX.keep [(0, _)] ⟨rfl, trivial⟩ ?_
  refine WX.next ?_
  refine WC.seq ?_
  refine WC.region ?_
  refine WL.val rfl rfl rfl rfl (r_assign rfl ev_c) ?_
  refine WL.nil ?_
  refine WX.keep [(0, _), (3, _)] ⟨rfl, rfl, trivial⟩ ?_
  refine WX.next ?_
  refine WC.seq ?_
  refine WC.block ?_
  -- loop 1: live [0, 3]
  refine WC.keep [(0, _), (3, _)] ⟨rfl, rfl, trivial⟩ ?_
  refine WC.loop (fun m E w' => ∃ (i : Nat) (A : Option Addr) (c : Nat), i ≤ blen n ∧ m = blen n - i ∧ Upd No w w' ∧ Own w' (New w w') 5 1 (.slice A i c) i ((lowB n i).map U8) ∧ E = [(0, .int .u64 ((n / 256 ^ i : Nat) : Int)), (3, .slice A i c)]) (blen n) ?_ ?_
  · exact ⟨0, _, _, by omega, by omega, hU, Own.nil _ _ _ _, by simp⟩
  · rintro m E w' ⟨i, A, c, hi, rfl, hU, ho, rfl⟩
    have hki := key i
    have hs0 := hU.size
    have hni : n / 256 ^ i ≤ n := Nat.div_le_self _ _
    have hdv : n / 256 ^ i / 256 = n / 256 ^ (i + 1) := by rw [Nat.pow_succ, Nat.div_div_eq_div_mul]
    refine WC.seq ?_
    refine WC.seq ?_
    refine WC.region ?_
    refine WL.val rfl rfl rfl rfl (r_move rfl (ev_t rfl)) ?_
    refine WL.val rfl rfl rfl rfl (r_gtr rfl (ev_t rfl) ev_c) ?_
    refine WL.nil ?_
    refine WX.keep [(0, _), (3, _), (7, _)] ⟨rfl, rfl, rfl, trivial⟩ ?_
    refine WX.next ?_
    refine WC.cond rfl (ev_t rfl) (fun hc2 => ?_) (fun hc2 => ?_)
    · try (exfalso; first | (simp at hc2; done) | (simp only [decide_eq_true_eq, decide_eq_false_iff_not, Bool.not_eq_true', Bool.not_eq_false', Bool.not_eq_true, Bool.not_eq_false] at hc2; omega) | omega)
      all_goals
       try simp only [decide_eq_true_eq, decide_eq_false_iff_not, Bool.not_eq_true', Bool.not_eq_false', Bool.not_eq_true, Bool.not_eq_false, Option.isNone_none, Option.isNone_some, Option.isSome_none, Option.isSome_some, ne_eq, Decidable.not_not] at hc2
       refine WC.skip ?_
       refine WX.next ?_
       refine WC.block ?_
       refine WC.seq ?_
       refine WC.region ?_
       refine WL.val rfl rfl rfl rfl (r_move rfl (ev_t rfl)) ?_
       refine WL.val rfl rfl rfl rfl (r_move rfl (ev_t rfl)) ?_
       first | refine WL.val rfl rfl rfl rfl (r_remN rfl (ev_t rfl) ev_c (by omega) (by omega)) ?_ | refine WL.val rfl rfl rfl rfl (r_rem rfl (ev_t rfl) ev_c (by omega)) ?_
       first | refine WL.val rfl rfl rfl rfl (r_convN rfl (ev_t rfl) some_27 int_5 (by simp only [inK]; omega)) ?_ | refine WL.val rfl rfl rfl rfl (r_conv rfl (ev_t rfl) some_27 int_5) ?_
       refine WL.cons (SO.alloc rfl rfl rfl rfl (r_buildSlice1 (vs := [_]) rfl ⟨(ev_t rfl), trivial⟩ rfl row_23 rfl rfl) ?_)
       intro w1 hu1 hB1 hz1
       have hs1 := hu1.size
       replace hU := hU.transA hu1
       replace ho := ho.updA hu1
       refine WL.cons (SO.append ho (Rd.of_blk (F := At _) (n := 1) (sz := 1) hB1 rfl rfl (by omega)) row_23 (oneCell_one rfl) (le_maxLen (by omega)) (by omega) rfl (ev_t rfl) (ev_t rfl) rfl rfl rfl rfl ?_)
       intro v2 w2 ho hu2
       have hs2 := hu2.size
       replace hU := hU.transA hu2
       obtain ⟨A2, c2, rfl, hc2⟩ := Own.form ho
       refine WL.val rfl rfl rfl rfl (r_assign rfl (ev_t rfl)) ?_
       refine WL.nil ?_
       refine WX.keep [(0, _), (3, _)] ⟨rfl, rfl, trivial⟩ ?_
       refine WX.next ?_
       refine WC.region ?_
       refine WL.val rfl rfl rfl rfl (r_move rfl (ev_t rfl)) ?_
       first | refine WL.val rfl rfl rfl rfl (r_quoN rfl (ev_t rfl) ev_c (by omega) (by omega) (by simp only [inK]; omega)) ?_ | refine WL.val rfl rfl rfl rfl (r_quo rfl (ev_t rfl) ev_c (by omega)) ?_
       refine WL.val rfl rfl rfl rfl (r_assign rfl (ev_t rfl)) ?_
       refine WL.nil ?_
       refine WX.keep [(0, _), (3, _)] ⟨rfl, rfl, trivial⟩ ?_
       refine WX.blockNormal ?_
       refine WX.meet [(0, _), (3, _)] ⟨rfl, rfl, trivial⟩ ?_
       have e : ∀ m : Nat, (m : Int) / 256 = ((m / 256 : Nat) : Int) := fun m => by omega
       rw [U8_low] at ho
       rw [e, hdv]
       refine ⟨blen n - (i + 1), by omega, i + 1, _, _, by omega, rfl, hU, ?_, rfl⟩
       have h1 := ho.mono (F' := New w _) (fun k hk => New.of hk (by omega) (by omega))
       rw [lowB_succ, List.map_append]
       exact h1
    · try (exfalso; first | (simp at hc2; done) | (simp only [decide_eq_true_eq, decide_eq_false_iff_not, Bool.not_eq_true', Bool.not_eq_false', Bool.not_eq_true, Bool.not_eq_false] at hc2; omega) | omega)
      all_goals
       try simp only [decide_eq_true_eq, decide_eq_false_iff_not, Bool.not_eq_true', Bool.not_eq_false', Bool.not_eq_true, Bool.not_eq_false, Option.isNone_none, Option.isNone_some, Option.isSome_none, Option.isSome_some, ne_eq, Decidable.not_not] at hc2
       have h0 : ¬ 0 < n / 256 ^ i := by exact_mod_cast hc2
       have hib : ¬ i < blen n := fun h => h0 (hki.1 h)
       obtain rfl : i = blen n := by omega
       refine WC.exit ?_
       refine WX.thenExit ?_
       refine WX.thenExit ?_
       refine WX.blockHere ?_
       refine WX.next ?_
       refine WC.seq ?_
       refine WC.region ?_
       refine WL.val rfl rfl rfl rfl (r_move rfl (ev_t rfl)) ?_
       refine WL.val rfl rfl rfl rfl (r_lenSlice (ts := #[]) rfl (ev_t rfl) elem_23) ?_
       first | refine WL.val rfl rfl rfl rfl (r_convN rfl (ev_t rfl) some_3 int_5 (by simp only [inK]; omega)) ?_ | refine WL.val rfl rfl rfl rfl (r_conv rfl (ev_t rfl) some_3 int_5) ?_
       refine WL.cons (SO.alloc rfl rfl rfl rfl (r_buildSlice1 (vs := [_]) rfl ⟨(ev_t rfl), trivial⟩ rfl row_23 rfl rfl) ?_)
       intro w3 hu3 hB3 hz3
       have hs3 := hu3.size
       replace hU := hU.transA hu3
       replace ho := ho.updA hu3
       refine WL.val rfl rfl rfl rfl (r_assign rfl (ev_t rfl)) ?_
       refine WL.nil ?_
       refine WX.keep [(3, _), (4, _)] ⟨rfl, rfl, trivial⟩ ?_
       rw [U8_len hbl] at hB3
       have hp := Own.of_blk (F := New w' w3) (n := 1) (sz := 1) hB3 ⟨by omega, by omega⟩ rfl (le_maxLen (by omega))
       refine WX.next ?_
       refine WC.seq ?_
       refine WC.seq ?_
       refine WC.region ?_
       refine WL.val rfl rfl rfl rfl (r_move rfl (ev_t rfl)) ?_
       refine WL.val rfl rfl rfl rfl (r_lenSlice (ts := #[]) rfl (ev_t rfl) elem_23) ?_
       first | refine WL.val rfl rfl rfl rfl (r_subN rfl (ev_t rfl) ev_c (by simp only [inK]; omega)) ?_ | refine WL.val rfl rfl rfl rfl (r_sub rfl (ev_t rfl) ev_c) ?_
       refine WL.val rfl rfl rfl rfl (r_assign rfl (ev_t rfl)) ?_
       refine WL.nil ?_
       refine WX.keep [(3, _), (4, _), (5, _)] ⟨rfl, rfl, rfl, trivial⟩ ?_
       refine WX.next ?_
       refine WC.block ?_
       -- loop 2: live [3, 4, 5]
       refine WC.keep [(3, _), (4, _), (5, _)] ⟨rfl, rfl, rfl, trivial⟩ ?_
       refine WC.loop (fun k E w2 => ∃ (acc : List UInt8) (L : Nat) (A4 : Option Addr) (c4 : Nat), k ≤ blen n ∧ acc.length = L ∧ acc ++ beB n k = encU n ∧ Upd No w w2 ∧ w'.heap.size ≤ w2.heap.size ∧ Own w2 (New w w') 5 1 (.slice A (blen n) c) (blen n) ((lowB n (blen n)).map U8) ∧ Own w2 (New w' w2) 5 1 (.slice A4 L c4) L (acc.map U8) ∧ E = [(3, .slice A (blen n) c), (4, .slice A4 L c4), (5, .int .i64 ((k : Int) - 1))]) (blen n) ?_ ?_
       · exact ⟨[UInt8.ofNat (blen n)], 1, _, _, Nat.le_refl _, rfl, rfl, hU, by omega, ho, hp, rfl⟩
       · rintro k E w2 ⟨acc, L, A4, c4, hk, hL, hacc, hU, hs2, ho, hp, rfl⟩
         have hs0 := hU.size
         have hal := congrArg List.length hacc
         rw [List.length_append, beB_length, encU_length] at hal
         refine WC.seq ?_
         refine WC.seq ?_
         refine WC.region ?_
         refine WL.val rfl rfl rfl rfl (r_move rfl (ev_t rfl)) ?_
         refine WL.val rfl rfl rfl rfl (r_geq rfl (ev_t rfl) ev_c) ?_
         refine WL.nil ?_
         refine WX.keep [(3, _), (4, _), (5, _), (24, _)] ⟨rfl, rfl, rfl, rfl, trivial⟩ ?_
         refine WX.next ?_
         refine WC.cond rfl (ev_t rfl) (fun hc7 => ?_) (fun hc7 => ?_)
         · try (exfalso; first | (simp at hc7; done) | (simp only [decide_eq_true_eq, decide_eq_false_iff_not, Bool.not_eq_true', Bool.not_eq_false', Bool.not_eq_true, Bool.not_eq_false] at hc7; omega) | omega)
           all_goals
            try simp only [decide_eq_true_eq, decide_eq_false_iff_not, Bool.not_eq_true', Bool.not_eq_false', Bool.not_eq_true, Bool.not_eq_false, Option.isNone_none, Option.isNone_some, Option.isSome_none, Option.isSome_some, ne_eq, Decidable.not_not] at hc7
            obtain ⟨j, rfl⟩ : ∃ j, k = j + 1 := ⟨k - 1, by omega⟩
            obtain ⟨b, off, rfl, _⟩ := (ho.rd (by omega)).open (by omega)
            have hcell : ((lowB n (blen n)).map U8)[j]? = some (U8 (byteAt n j)) := by simp [lowB, show j < blen n by omega]
            refine WC.skip ?_
            refine WX.next ?_
            refine WC.seq ?_
            refine WC.block ?_
            refine WC.region ?_
            refine WL.val rfl rfl rfl rfl (r_move rfl (ev_t rfl)) ?_
            refine WL.val rfl rfl rfl rfl (r_move rfl (ev_t rfl)) ?_
            refine WL.val rfl rfl rfl rfl (r_move rfl (ev_t rfl)) ?_
            refine WL.val rfl rfl rfl rfl (r_indexAddr rfl (ev_t rfl) (ev_t rfl) elem_23 size_5 (by omega) (by omega)) ?_
            refine WL.val rfl rfl rfl rfl (r_load rfl (ev_t rfl) flat_5 ((ho.rd (by omega)).cell (j := j) (by omega) hcell)) ?_
            refine WL.cons (SO.alloc rfl rfl rfl rfl (r_buildSlice1 (vs := [_]) rfl ⟨(ev_t rfl), trivial⟩ rfl row_23 rfl rfl) ?_)
            intro w4 hu4 hB4 hz4
            have hs4 := hu4.size
            replace hU := hU.transA hu4
            replace ho := ho.updA hu4
            replace hp := hp.updA hu4
            refine WL.cons (SO.append hp (Rd.of_blk (F := At _) (n := 1) (sz := 1) hB4 rfl rfl (by omega)) row_23 (oneCell_one rfl) (le_maxLen (by omega)) (by omega) rfl (ev_t rfl) (ev_t rfl) rfl rfl rfl rfl ?_)
            intro v5 w5 hp hu5
            have hs5 := hu5.size
            replace hU := hU.transA hu5
            replace ho := ho.updA hu5
            obtain ⟨A5, c5, rfl, hc5⟩ := Own.form hp
            refine WL.val rfl rfl rfl rfl (r_assign rfl (ev_t rfl)) ?_
            refine WL.nil ?_
            refine WX.keep [(3, _), (4, _), (5, _)] ⟨rfl, rfl, rfl, trivial⟩ ?_
            refine WX.blockNormal ?_
            refine WX.next ?_
            refine WC.region ?_
            refine WL.val rfl rfl rfl rfl (r_move rfl (ev_t rfl)) ?_
            first | refine WL.val rfl rfl rfl rfl (r_subN rfl (ev_t rfl) ev_c (by simp only [inK]; omega)) ?_ | refine WL.val rfl rfl rfl rfl (r_sub rfl (ev_t rfl) ev_c) ?_
            refine WL.val rfl rfl rfl rfl (r_assign rfl (ev_t rfl)) ?_
            refine WL.nil ?_
            refine WX.keep [(3, _), (4, _), (5, _)] ⟨rfl, rfl, rfl, trivial⟩ ?_
            refine WX.meet [(3, _), (4, _), (5, _)] ⟨rfl, rfl, rfl, trivial⟩ ?_
            rw [show (((j + 1 : Nat) : Int) - 1 - 1) = (j : Int) - 1 by omega]
            refine ⟨j, by omega, acc ++ [byteAt n j], L + 1, _, _, by omega, by simp [hL], by rw [← hacc]; simp [beB], hU, by omega, ho, ?_, rfl⟩
            have h1 := hp.mono (F' := New w' _) (fun k hk => New.of hk (by omega) (by omega))
            rw [List.map_append]
            exact h1
         · try (exfalso; first | (simp at hc7; done) | (simp only [decide_eq_true_eq, decide_eq_false_iff_not, Bool.not_eq_true', Bool.not_eq_false', Bool.not_eq_true, Bool.not_eq_false] at hc7; omega) | omega)
           all_goals
            try simp only [decide_eq_true_eq, decide_eq_false_iff_not, Bool.not_eq_true', Bool.not_eq_false', Bool.not_eq_true, Bool.not_eq_false, Option.isNone_none, Option.isNone_some, Option.isSome_none, Option.isSome_some, ne_eq, Decidable.not_not] at hc7
            obtain rfl : k = 0 := by omega
            rw [beB, List.append_nil] at hacc
            subst hacc
            subst hL
            refine WC.exit ?_
            refine WX.thenExit ?_
            refine WX.thenExit ?_
            refine WX.blockHere ?_
            refine WX.next ?_
            refine WC.seq ?_
            refine WC.region ?_
            refine WL.val rfl rfl rfl rfl (r_move rfl (ev_t rfl)) ?_
            refine WL.val rfl rfl rfl rfl (r_assign rfl (ev_t rfl)) ?_
            refine WL.nil ?_
            refine WX.keep [(2, _)] ⟨rfl, trivial⟩ ?_
            refine WX.next ?_
            refine WC.ret ?_
            refine WX.retE1 rfl rfl ?_
            exact ⟨hp.mono (fun k hk => ⟨by have := hk.1; omega, hk.2⟩), hU⟩
end Go.Proofs.Ytipabhbnljadfaa

/-
  The reference's reader.
-/
namespace Go.Proofs.Ytipabhbnljadfaa
open Go
set_option linter.unusedSimpArgs false
set_option linter.unusedVariables false

/-- where the reference's reader at block g stands in p -/
def StM (p : List UInt8) (at_ : Int) : Option (List UInt8) → Prop
  | none => at_ = -1
  | some r => ∃ m : Nat, at_ = m ∧ m ≤ p.length ∧ r = p.drop m
def IsM (w : World) (F : Nat → Prop) (g : Nat) (p : List UInt8) (s : Option (List UInt8)) : Prop :=
  ∃ A c at_, Blk w g #[.slice A p.length c, .int .i64 at_] 77 ∧ Rd w F (.slice A p.length c) p.length 1 (p.map U8) ∧ StM p at_ s

theorem IsM.upd {w w' : World} {F S : Nat → Prop} {g : Nat} {p : List UInt8} {s : Option (List UInt8)} (h : IsM w F g p s) (hu : Upd S w w') (hg : ¬ S g) (hF : ∀ k, F k → k < w.heap.size → ¬ S k) : IsM w' F g p s := by
  obtain ⟨A, c, at_, hb, hr, hs⟩ := h
  exact ⟨A, c, at_, hb.upd hu hg, hr.upd hu hF, hs⟩

theorem mUint_ok {w : World} {F : Nat → Prop} {g : Nat} {p : List UInt8} {s s' : Option (List UInt8)} {x : Nat} (h : IsM w F g p s) (hFg : ¬ F g) (hx : uintR s = (x, s')) :
    Ret Try.prog 36 #[.pointer (some ⟨g, 0, none⟩)] w fun v w' => v = .int .u64 (x : Int) ∧ IsM w' F g p s' ∧ Upd (At g) w w' := by
  obtain ⟨A, c, at_, hb, hr, hs⟩ := h
  have hm := hr.le
  have hcap := hr.cap
  have hgl := hb.lt
  cases s with
  | none =>
    simp only [uintR, Prod.mk.injEq] at hx
    obtain ⟨rfl, rfl⟩ := hx
    simp only [StM] at hs
    subst hs
    refine enterRet (vs := [_]) (N := 129) Try.func36 rfl rfl rfl ?_
    have hU := Upd.refl (At g) w
    refine WC.keep [(0, _)] ⟨rfl, trivial⟩ ?_
    refine WC.seq ?_
    refine WC.region ?_
    refine WL.val rfl rfl rfl rfl (r_assign rfl ev_c) ?_
    refine WL.nil ?_
    refine WX.keep [(0, _)] ⟨rfl, trivial⟩ ?_
    refine WX.next ?_
    refine WC.seq ?_
    refine WC.seq ?_
    refine WC.draws' (fun u0_ u1_ => Upd No u0_ u1_) (fun j => [0, 0, 0, 1, 0, 0, 0, 0, 0, 0, 0, 0, 0, 1, 0, 0, 0, 0, 0, 0, 0, 0, 0, 0, 0, 1, 0, 1, 0, 0, 0, 0, 0, 0, 0, 0, 0, 0, 0, 0, 0, 0, 0, 0, 0, 0, 0, 0, 0, 0, 1, 0, 0, 0].getD j 0) (.calm 0 (.calm 1 (.calm 2 (.one 3 (.calm 4 (.calm 5 (.calm 6 (.calm 7 (.calm 8 (.calm 10 (.calm 11 (.calm 12 (.held 9 (.one 13 (.calm 14 (.calm 15 (.calm 16 (.calm 17 (.calm 18 (.calm 19 (.calm 20 (.calm 22 (.calm 23 (.calm 24 (.held 21 (.one 25 (.calm 26 (.one 27 (.calm 28 (.calm 29 (.calm 30 (.calm 31 (.calm 32 (.calm 33 (.calm 35 (.calm 36 (.calm 37 (.calm 42 (.calm 43 (.calm 44 (.calm 47 (.calm 48 (.calm 49 (.held 34 (.held 38 (.calm 39 (.held 40 (.calm 41 (.held 45 (.calm 46 (.one 50 (.calm 51 (.calm 52 (.calm 53 (.done))))))))))))))))))))))))))))))))))))))))))))))))))))))) mixed (by kernel_rfl) (by repeat (first | with_reducible exact Deaf.body | with_reducible apply Deaf.then | with_reducible apply Deaf.block)) ?_
    intro w1 hu1
    have hz1 := congrArg Array.size hu1.2.2.2
    replace hu1 := Upd.of_draw hu1
    have hs1 := hu1.size
    replace hU := hU.transA hu1
    replace hr := hr.upd hu1 (by first | exact (fun _ _ _ h => h) | (intro k hk hl hS; simp only [At] at hS; subst hS; exact hFg hk))
    replace hb := hb.updA hu1
    have hS1 := Upd.refl No w1
    refine WN.calm _ rfl rfl rfl rfl rfl (fun _ => r_move rfl (ev_t rfl)) ?_
    refine WN.calm _ rfl rfl rfl rfl rfl (fun _ => r_nilCheck rfl (ev_t rfl)) ?_
    first | refine WN.calm _ rfl rfl rfl rfl rfl (fun _ => r_field0 rfl (ev_t rfl) fld_77_1) ?_ | refine WN.calm _ rfl rfl rfl rfl rfl (fun _ => r_fieldAt rfl (ev_t rfl) fld_77_1) ?_
    refine WN.step _ rfl (SO.val rfl rfl rfl rfl (r_load rfl (ev_t rfl) flat_3 (Blk.cell hb rfl)) ?_)
    refine ⟨hS1, ?_⟩
    refine WN.calm _ rfl rfl rfl rfl rfl (fun _ => r_lss rfl (ev_t rfl) ev_c) ?_
    refine WN.calm _ rfl rfl rfl rfl rfl (fun _ => r_move rfl (ev_t rfl)) ?_
    refine WN.cases 11 rfl (fun hb1_5 => ?_) (fun hb1_5 => ?_)
    · try (exfalso; first | (simp at hb1_5; done) | (simp only [decide_eq_true_eq, decide_eq_false_iff_not, Bool.not_eq_true', Bool.not_eq_false', Bool.not_eq_true, Bool.not_eq_false] at hb1_5; omega) | omega)
      all_goals
       try simp only [decide_eq_true_eq, decide_eq_false_iff_not, Bool.not_eq_true', Bool.not_eq_false', Bool.not_eq_true, Bool.not_eq_false, Option.isNone_none, Option.isNone_some, Option.isSome_none, Option.isSome_some, ne_eq, Decidable.not_not] at hb1_5
       refine WN.skip _ rfl rfl rfl rfl ?_
       refine WN.skip _ rfl rfl rfl rfl ?_
       refine WN.skip _ rfl rfl rfl rfl ?_
       refine WN.skip _ rfl rfl rfl rfl ?_
       refine WN.skip _ rfl rfl rfl rfl ?_
       refine WN.skip _ rfl rfl rfl rfl ?_
       refine WN.heldSkip _ rfl rfl rfl rfl hS1 ?_
       refine WN.step _ rfl (SO.skip rfl rfl rfl ?_)
       refine ⟨hS1, ?_⟩
       refine WN.skip _ rfl rfl rfl rfl ?_
       refine WN.skip _ rfl rfl rfl rfl ?_
       refine WN.calm _ rfl rfl rfl rfl rfl (fun _ => r_pickT rfl (ev_t rfl) ev_c) ?_
       refine WN.calm _ rfl rfl rfl rfl rfl (fun _ => r_move rfl (ev_t rfl)) ?_
       refine WN.skip _ rfl rfl rfl rfl ?_
       refine WN.skip _ rfl rfl rfl rfl ?_
       refine WN.skip _ rfl rfl rfl rfl ?_
       refine WN.skip _ rfl rfl rfl rfl ?_
       refine WN.skip _ rfl rfl rfl rfl ?_
       refine WN.skip _ rfl rfl rfl rfl ?_
       refine WN.heldSkip _ rfl rfl rfl rfl hS1 ?_
       refine WN.step _ rfl (SO.skip rfl rfl rfl ?_)
       refine ⟨hS1, ?_⟩
       refine WN.skip _ rfl rfl rfl rfl ?_
       refine WN.step _ rfl (SO.skip rfl rfl rfl ?_)
       refine ⟨hS1, ?_⟩
       refine WN.skip _ rfl rfl rfl rfl ?_
       refine WN.calm _ rfl rfl rfl rfl rfl (fun _ => r_pickT rfl (ev_t rfl) ev_c) ?_
       refine WN.calm _ rfl rfl rfl rfl rfl (fun _ => r_move rfl (ev_t rfl)) ?_
       refine WN.skip _ rfl rfl rfl rfl ?_
       refine WN.skip _ rfl rfl rfl rfl ?_
       refine WN.skip _ rfl rfl rfl rfl ?_
       refine WN.skip _ rfl rfl rfl rfl ?_
       refine WN.skip _ rfl rfl rfl rfl ?_
       refine WN.skip _ rfl rfl rfl rfl ?_
       refine WN.skip _ rfl rfl rfl rfl ?_
       refine WN.skip _ rfl rfl rfl rfl ?_
       refine WN.skip _ rfl rfl rfl rfl ?_
       refine WN.skip _ rfl rfl rfl rfl ?_
       refine WN.skip _ rfl rfl rfl rfl ?_
       refine WN.skip _ rfl rfl rfl rfl ?_
       refine WN.heldSkip _ rfl rfl rfl rfl hS1 ?_
       refine WN.heldSkip _ rfl rfl rfl rfl hS1 ?_
       refine WN.skip _ rfl rfl rfl rfl ?_
       refine WN.heldSkip _ rfl rfl rfl rfl hS1 ?_
       refine WN.skip _ rfl rfl rfl rfl ?_
       refine WN.heldSkip _ rfl rfl rfl rfl hS1 ?_
       refine WN.skip _ rfl rfl rfl rfl ?_
       refine WN.step _ rfl (SO.skip rfl rfl rfl ?_)
       refine ⟨hS1, ?_⟩
       refine WN.skip _ rfl rfl rfl rfl ?_
       refine WN.skip _ rfl rfl rfl rfl ?_
       refine WN.calm _ rfl rfl rfl rfl rfl (fun _ => r_pickT rfl (ev_t rfl) ev_c) ?_
       refine WN.done ?_
       refine WX.keep [(0, _), (59, _)] ⟨rfl, rfl, trivial⟩ ?_
       refine WX.next ?_
       refine WC.cond_true rfl (ev_t rfl) ?_
       refine WC.seq ?_
       refine WC.region ?_
       refine WL.val rfl rfl rfl rfl (r_move rfl (ev_t rfl)) ?_
       refine WL.val rfl rfl rfl rfl (r_nilCheck rfl (ev_t rfl)) ?_
       first | refine WL.val rfl rfl rfl rfl (r_field0 rfl (ev_t rfl) fld_77_1) ?_ | refine WL.val rfl rfl rfl rfl (r_fieldAt rfl (ev_t rfl) fld_77_1) ?_
       refine WL.cons (SO.store rfl (ev_t rfl) ev_c size_3 hb rfl rfl rfl rfl rfl ?_)
       intro w2 hu2 hb hz2
       have hs2 := hu2.size
       replace hU := hU.transA hu2
       replace hr := hr.upd hu2 (by first | exact (fun _ _ _ h => h) | (intro k hk hl hS; simp only [At] at hS; subst hS; exact hFg hk))
       refine WL.nil ?_
       refine WX.keep [] trivial ?_
       refine WX.next ?_
       refine WC.seq ?_
       refine WC.region ?_
       refine WL.val rfl rfl rfl rfl (r_assign rfl ev_c) ?_
       refine WL.nil ?_
       refine WX.keep [(2, _)] ⟨rfl, trivial⟩ ?_
       refine WX.next ?_
       refine WC.ret ?_
       refine WX.thenRet ?_
       refine WX.retE1 rfl rfl ?_
       exact ⟨rfl, ⟨A, c, -1, hb, hr, rfl⟩, hU⟩
    · try (exfalso; first | (simp at hb1_5; done) | (simp only [decide_eq_true_eq, decide_eq_false_iff_not, Bool.not_eq_true', Bool.not_eq_false', Bool.not_eq_true, Bool.not_eq_false] at hb1_5; omega) | omega)
      all_goals
       try simp only [decide_eq_true_eq, decide_eq_false_iff_not, Bool.not_eq_true', Bool.not_eq_false', Bool.not_eq_true, Bool.not_eq_false, Option.isNone_none, Option.isNone_some, Option.isSome_none, Option.isSome_some, ne_eq, Decidable.not_not] at hb1_5
       refine WN.calm _ rfl rfl rfl rfl rfl (fun _ => r_move rfl (ev_t rfl)) ?_
       refine WN.calm _ rfl rfl rfl rfl rfl (fun _ => r_nilCheck rfl (ev_t rfl)) ?_
       first | refine WN.calm _ rfl rfl rfl rfl rfl (fun _ => r_field0 rfl (ev_t rfl) fld_77_1) ?_ | refine WN.calm _ rfl rfl rfl rfl rfl (fun _ => r_fieldAt rfl (ev_t rfl) fld_77_1) ?_
       refine WN.calm _ rfl rfl rfl rfl rfl (fun _ => r_move rfl (ev_t rfl)) ?_
       refine WN.calm _ rfl rfl rfl rfl rfl (fun _ => r_nilCheck rfl (ev_t rfl)) ?_
       first | refine WN.calm _ rfl rfl rfl rfl rfl (fun _ => r_field0 rfl (ev_t rfl) fld_77_0) ?_ | refine WN.calm _ rfl rfl rfl rfl rfl (fun _ => r_fieldAt rfl (ev_t rfl) fld_77_0) ?_
       refine WN.held _ rfl rfl rfl rfl rfl hS1 (fun w' hS => r_load rfl (ev_t rfl) flat_3 (Blk.cell (hb.upd hS (fun h => h)) rfl)) ?_
       refine WN.step _ rfl (SO.val rfl rfl rfl rfl (r_load rfl (ev_t rfl) flat_23 (Blk.cell hb rfl)) ?_)
       refine ⟨hS1, ?_⟩
       refine WN.calm _ rfl rfl rfl rfl rfl (fun _ => r_lenSlice (ts := #[]) rfl (ev_t rfl) elem_23) ?_
       refine WN.calm _ rfl rfl rfl rfl rfl (fun _ => r_geq rfl (ev_t rfl) (ev_t rfl)) ?_
       refine WN.calm _ rfl rfl rfl rfl rfl (fun _ => r_pickF rfl (ev_t rfl) (ev_t rfl)) ?_
       refine WN.calm _ rfl rfl rfl rfl rfl (fun _ => r_move rfl (ev_t rfl)) ?_
       refine WN.cases 23 rfl (fun hb1_17 => ?_) (fun hb1_17 => ?_)
       · try (exfalso; first | (simp at hb1_17; done) | (simp only [decide_eq_true_eq, decide_eq_false_iff_not, Bool.not_eq_true', Bool.not_eq_false', Bool.not_eq_true, Bool.not_eq_false] at hb1_17; omega) | omega)
         all_goals
          try simp only [decide_eq_true_eq, decide_eq_false_iff_not, Bool.not_eq_true', Bool.not_eq_false', Bool.not_eq_true, Bool.not_eq_false, Option.isNone_none, Option.isNone_some, Option.isSome_none, Option.isSome_some, ne_eq, Decidable.not_not] at hb1_17
          refine WN.skip _ rfl rfl rfl rfl ?_
          refine WN.skip _ rfl rfl rfl rfl ?_
          refine WN.skip _ rfl rfl rfl rfl ?_
          refine WN.skip _ rfl rfl rfl rfl ?_
          refine WN.skip _ rfl rfl rfl rfl ?_
          refine WN.skip _ rfl rfl rfl rfl ?_
          refine WN.heldSkip _ rfl rfl rfl rfl hS1 ?_
          refine WN.step _ rfl (SO.skip rfl rfl rfl ?_)
          refine ⟨hS1, ?_⟩
          refine WN.skip _ rfl rfl rfl rfl ?_
          refine WN.step _ rfl (SO.skip rfl rfl rfl ?_)
          refine ⟨hS1, ?_⟩
          refine WN.skip _ rfl rfl rfl rfl ?_
          refine WN.calm _ rfl rfl rfl rfl rfl (fun _ => r_pickT rfl (ev_t rfl) ev_c) ?_
          refine WN.calm _ rfl rfl rfl rfl rfl (fun _ => r_move rfl (ev_t rfl)) ?_
          refine WN.skip _ rfl rfl rfl rfl ?_
          refine WN.skip _ rfl rfl rfl rfl ?_
          refine WN.skip _ rfl rfl rfl rfl ?_
          refine WN.skip _ rfl rfl rfl rfl ?_
          refine WN.skip _ rfl rfl rfl rfl ?_
          refine WN.skip _ rfl rfl rfl rfl ?_
          refine WN.skip _ rfl rfl rfl rfl ?_
          refine WN.skip _ rfl rfl rfl rfl ?_
          refine WN.skip _ rfl rfl rfl rfl ?_
          refine WN.skip _ rfl rfl rfl rfl ?_
          refine WN.skip _ rfl rfl rfl rfl ?_
          refine WN.skip _ rfl rfl rfl rfl ?_
          refine WN.heldSkip _ rfl rfl rfl rfl hS1 ?_
          refine WN.heldSkip _ rfl rfl rfl rfl hS1 ?_
          refine WN.skip _ rfl rfl rfl rfl ?_
          refine WN.heldSkip _ rfl rfl rfl rfl hS1 ?_
          refine WN.skip _ rfl rfl rfl rfl ?_
          refine WN.heldSkip _ rfl rfl rfl rfl hS1 ?_
          refine WN.skip _ rfl rfl rfl rfl ?_
          refine WN.step _ rfl (SO.skip rfl rfl rfl ?_)
          refine ⟨hS1, ?_⟩
          refine WN.skip _ rfl rfl rfl rfl ?_
          refine WN.skip _ rfl rfl rfl rfl ?_
          refine WN.calm _ rfl rfl rfl rfl rfl (fun _ => r_pickT rfl (ev_t rfl) ev_c) ?_
          refine WN.done ?_
          refine WX.keep [(0, _), (59, _)] ⟨rfl, rfl, trivial⟩ ?_
          refine WX.next ?_
          refine WC.cond_true rfl (ev_t rfl) ?_
          refine WC.seq ?_
          refine WC.region ?_
          refine WL.val rfl rfl rfl rfl (r_move rfl (ev_t rfl)) ?_
          refine WL.val rfl rfl rfl rfl (r_nilCheck rfl (ev_t rfl)) ?_
          first | refine WL.val rfl rfl rfl rfl (r_field0 rfl (ev_t rfl) fld_77_1) ?_ | refine WL.val rfl rfl rfl rfl (r_fieldAt rfl (ev_t rfl) fld_77_1) ?_
          refine WL.cons (SO.store rfl (ev_t rfl) ev_c size_3 hb rfl rfl rfl rfl rfl ?_)
          intro w3 hu3 hb hz3
          have hs3 := hu3.size
          replace hU := hU.transA hu3
          replace hr := hr.upd hu3 (by first | exact (fun _ _ _ h => h) | (intro k hk hl hS; simp only [At] at hS; subst hS; exact hFg hk))
          refine WL.nil ?_
          refine WX.keep [] trivial ?_
          refine WX.next ?_
          refine WC.seq ?_
          refine WC.region ?_
          refine WL.val rfl rfl rfl rfl (r_assign rfl ev_c) ?_
          refine WL.nil ?_
          refine WX.keep [(2, _)] ⟨rfl, trivial⟩ ?_
          refine WX.next ?_
          refine WC.ret ?_
          refine WX.thenRet ?_
          refine WX.retE1 rfl rfl ?_
          exact ⟨rfl, ⟨A, c, -1, hb, hr, rfl⟩, hU⟩
       · try (exfalso; first | (simp at hb1_17; done) | (simp only [decide_eq_true_eq, decide_eq_false_iff_not, Bool.not_eq_true', Bool.not_eq_false', Bool.not_eq_true, Bool.not_eq_false] at hb1_17; omega) | omega)
         all_goals
          try simp only [decide_eq_true_eq, decide_eq_false_iff_not, Bool.not_eq_true', Bool.not_eq_false', Bool.not_eq_true, Bool.not_eq_false, Option.isNone_none, Option.isNone_some, Option.isSome_none, Option.isSome_some, ne_eq, Decidable.not_not] at hb1_17
          refine WN.calm _ rfl rfl rfl rfl rfl (fun _ => r_move rfl (ev_t rfl)) ?_
          refine WN.calm _ rfl rfl rfl rfl rfl (fun _ => r_nilCheck rfl (ev_t rfl)) ?_
          first | refine WN.calm _ rfl rfl rfl rfl rfl (fun _ => r_field0 rfl (ev_t rfl) fld_77_0) ?_ | refine WN.calm _ rfl rfl rfl rfl rfl (fun _ => r_fieldAt rfl (ev_t rfl) fld_77_0) ?_
          refine WN.calm _ rfl rfl rfl rfl rfl (fun _ => r_move rfl (ev_t rfl)) ?_
          refine WN.calm _ rfl rfl rfl rfl rfl (fun _ => r_nilCheck rfl (ev_t rfl)) ?_
          first | refine WN.calm _ rfl rfl rfl rfl rfl (fun _ => r_field0 rfl (ev_t rfl) fld_77_1) ?_ | refine WN.calm _ rfl rfl rfl rfl rfl (fun _ => r_fieldAt rfl (ev_t rfl) fld_77_1) ?_
          refine WN.held _ rfl rfl rfl rfl rfl hS1 (fun w' hS => r_load rfl (ev_t rfl) flat_23 (Blk.cell (hb.upd hS (fun h => h)) rfl)) ?_
          refine WN.step _ rfl (SO.val rfl rfl rfl rfl (r_load rfl (ev_t rfl) flat_3 (Blk.cell hb rfl)) ?_)
          refine ⟨hS1, ?_⟩
          refine WN.calm _ rfl rfl rfl rfl rfl (fun _ => r_indexAddr rfl (ev_t rfl) (ev_t rfl) elem_23 size_5 (by omega) (by omega)) ?_
          refine WN.step _ rfl (SO.val rfl rfl rfl rfl (r_load rfl (ev_t rfl) flat_5 (Blk.cell hb rfl)) ?_)
          refine ⟨hS1, ?_⟩
          refine WN.calm _ rfl rfl rfl rfl rfl (fun _ => r_gtr rfl (ev_t rfl) ev_c) ?_
          refine WN.calm _ rfl rfl rfl rfl rfl (fun _ => r_pickF rfl (ev_t rfl) (ev_t rfl)) ?_
          refine WN.calm _ rfl rfl rfl rfl rfl (fun _ => r_move rfl (ev_t rfl)) ?_
          refine WN.cases 36 rfl (fun hb1_30 => ?_) (fun hb1_30 => ?_)
          · try (exfalso; first | (simp at hb1_30; done) | (simp only [decide_eq_true_eq, decide_eq_false_iff_not, Bool.not_eq_true', Bool.not_eq_false', Bool.not_eq_true, Bool.not_eq_false] at hb1_30; omega) | omega)
            all_goals
             try simp only [decide_eq_true_eq, decide_eq_false_iff_not, Bool.not_eq_true', Bool.not_eq_false', Bool.not_eq_true, Bool.not_eq_false, Option.isNone_none, Option.isNone_some, Option.isSome_none, Option.isSome_some, ne_eq, Decidable.not_not] at hb1_30
             refine WN.skip _ rfl rfl rfl rfl ?_
             refine WN.skip _ rfl rfl rfl rfl ?_
             refine WN.skip _ rfl rfl rfl rfl ?_
             refine WN.skip _ rfl rfl rfl rfl ?_
             refine WN.skip _ rfl rfl rfl rfl ?_
             refine WN.skip _ rfl rfl rfl rfl ?_
             refine WN.skip _ rfl rfl rfl rfl ?_
             refine WN.skip _ rfl rfl rfl rfl ?_
             refine WN.skip _ rfl rfl rfl rfl ?_
             refine WN.skip _ rfl rfl rfl rfl ?_
             refine WN.skip _ rfl rfl rfl rfl ?_
             refine WN.skip _ rfl rfl rfl rfl ?_
             refine WN.heldSkip _ rfl rfl rfl rfl hS1 ?_
             refine WN.heldSkip _ rfl rfl rfl rfl hS1 ?_
             refine WN.skip _ rfl rfl rfl rfl ?_
             refine WN.heldSkip _ rfl rfl rfl rfl hS1 ?_
             refine WN.skip _ rfl rfl rfl rfl ?_
             refine WN.heldSkip _ rfl rfl rfl rfl hS1 ?_
             refine WN.skip _ rfl rfl rfl rfl ?_
             refine WN.step _ rfl (SO.skip rfl rfl rfl ?_)
             refine ⟨hS1, ?_⟩
             refine WN.skip _ rfl rfl rfl rfl ?_
             refine WN.skip _ rfl rfl rfl rfl ?_
             refine WN.calm _ rfl rfl rfl rfl rfl (fun _ => r_pickT rfl (ev_t rfl) ev_c) ?_
             refine WN.done ?_
             refine WX.keep [(0, _), (59, _)] ⟨rfl, rfl, trivial⟩ ?_
             refine WX.next ?_
             refine WC.cond_true rfl (ev_t rfl) ?_
             refine WC.seq ?_
             refine WC.region ?_
             refine WL.val rfl rfl rfl rfl (r_move rfl (ev_t rfl)) ?_
             refine WL.val rfl rfl rfl rfl (r_nilCheck rfl (ev_t rfl)) ?_
             first | refine WL.val rfl rfl rfl rfl (r_field0 rfl (ev_t rfl) fld_77_1) ?_ | refine WL.val rfl rfl rfl rfl (r_fieldAt rfl (ev_t rfl) fld_77_1) ?_
             refine WL.cons (SO.store rfl (ev_t rfl) ev_c size_3 hb rfl rfl rfl rfl rfl ?_)
             intro w4 hu4 hb hz4
             have hs4 := hu4.size
             replace hU := hU.transA hu4
             replace hr := hr.upd hu4 (by first | exact (fun _ _ _ h => h) | (intro k hk hl hS; simp only [At] at hS; subst hS; exact hFg hk))
             refine WL.nil ?_
             refine WX.keep [] trivial ?_
             refine WX.next ?_
             refine WC.seq ?_
             refine WC.region ?_
             refine WL.val rfl rfl rfl rfl (r_assign rfl ev_c) ?_
             refine WL.nil ?_
             refine WX.keep [(2, _)] ⟨rfl, trivial⟩ ?_
             refine WX.next ?_
             refine WC.ret ?_
             refine WX.thenRet ?_
             refine WX.retE1 rfl rfl ?_
             exact ⟨rfl, ⟨A, c, -1, hb, hr, rfl⟩, hU⟩
          · try (exfalso; first | (simp at hb1_30; done) | (simp only [decide_eq_true_eq, decide_eq_false_iff_not, Bool.not_eq_true', Bool.not_eq_false', Bool.not_eq_true, Bool.not_eq_false] at hb1_30; omega) | omega)
            all_goals
             try simp only [decide_eq_true_eq, decide_eq_false_iff_not, Bool.not_eq_true', Bool.not_eq_false', Bool.not_eq_true, Bool.not_eq_false, Option.isNone_none, Option.isNone_some, Option.isSome_none, Option.isSome_some, ne_eq, Decidable.not_not] at hb1_30
             refine WN.calm _ rfl rfl rfl rfl rfl (fun _ => r_move rfl (ev_t rfl)) ?_
             refine WN.calm _ rfl rfl rfl rfl rfl (fun _ => r_nilCheck rfl (ev_t rfl)) ?_
             first | refine WN.calm _ rfl rfl rfl rfl rfl (fun _ => r_field0 rfl (ev_t rfl) fld_77_0) ?_ | refine WN.calm _ rfl rfl rfl rfl rfl (fun _ => r_fieldAt rfl (ev_t rfl) fld_77_0) ?_
             refine WN.calm _ rfl rfl rfl rfl rfl (fun _ => r_move rfl (ev_t rfl)) ?_
             refine WN.calm _ rfl rfl rfl rfl rfl (fun _ => r_nilCheck rfl (ev_t rfl)) ?_
             first | refine WN.calm _ rfl rfl rfl rfl rfl (fun _ => r_field0 rfl (ev_t rfl) fld_77_1) ?_ | refine WN.calm _ rfl rfl rfl rfl rfl (fun _ => r_fieldAt rfl (ev_t rfl) fld_77_1) ?_
             refine WN.calm _ rfl rfl rfl rfl rfl (fun _ => r_move rfl (ev_t rfl)) ?_
             refine WN.calm _ rfl rfl rfl rfl rfl (fun _ => r_nilCheck rfl (ev_t rfl)) ?_
             first | refine WN.calm _ rfl rfl rfl rfl rfl (fun _ => r_field0 rfl (ev_t rfl) fld_77_0) ?_ | refine WN.calm _ rfl rfl rfl rfl rfl (fun _ => r_fieldAt rfl (ev_t rfl) fld_77_0) ?_
             refine WN.calm _ rfl rfl rfl rfl rfl (fun _ => r_move rfl (ev_t rfl)) ?_
             refine WN.calm _ rfl rfl rfl rfl rfl (fun _ => r_nilCheck rfl (ev_t rfl)) ?_
             first | refine WN.calm _ rfl rfl rfl rfl rfl (fun _ => r_field0 rfl (ev_t rfl) fld_77_1) ?_ | refine WN.calm _ rfl rfl rfl rfl rfl (fun _ => r_fieldAt rfl (ev_t rfl) fld_77_1) ?_
             refine WN.held _ rfl rfl rfl rfl rfl hS1 (fun w' hS => r_load rfl (ev_t rfl) flat_23 (Blk.cell (hb.upd hS (fun h => h)) rfl)) ?_
             refine WN.held _ rfl rfl rfl rfl rfl hS1 (fun w' hS => r_load rfl (ev_t rfl) flat_3 (Blk.cell (hb.upd hS (fun h => h)) rfl)) ?_
             refine WN.calm _ rfl rfl rfl rfl rfl (fun _ => r_indexAddr rfl (ev_t rfl) (ev_t rfl) elem_23 size_5 (by omega) (by omega)) ?_
             refine WN.held _ rfl rfl rfl rfl rfl hS1 (fun w' hS => r_load rfl (ev_t rfl) flat_5 (Blk.cell (hb.upd hS (fun h => h)) rfl)) ?_
             first | refine WN.calm _ rfl rfl rfl rfl rfl (fun _ => r_convN rfl (ev_t rfl) some_5 int_3 (by simp only [inK]; omega)) ?_ | refine WN.calm _ rfl rfl rfl rfl rfl (fun _ => r_conv rfl (ev_t rfl) some_5 int_3) ?_
             refine WN.held _ rfl rfl rfl rfl rfl hS1 (fun w' hS => r_load rfl (ev_t rfl) flat_23 (Blk.cell (hb.upd hS (fun h => h)) rfl)) ?_
             refine WN.calm _ rfl rfl rfl rfl rfl (fun _ => r_lenSlice (ts := #[]) rfl (ev_t rfl) elem_23) ?_
             refine WN.step _ rfl (SO.val rfl rfl rfl rfl (r_load rfl (ev_t rfl) flat_3 (Blk.cell hb rfl)) ?_)
             refine ⟨hS1, ?_⟩
             first | refine WN.calm _ rfl rfl rfl rfl rfl (fun _ => r_subN rfl (ev_t rfl) (ev_t rfl) (by simp only [inK]; omega)) ?_ | refine WN.calm _ rfl rfl rfl rfl rfl (fun _ => r_sub rfl (ev_t rfl) (ev_t rfl)) ?_
             refine WN.calm _ rfl rfl rfl rfl rfl (fun _ => r_geq rfl (ev_t rfl) (ev_t rfl)) ?_
             refine WN.calm _ rfl rfl rfl rfl rfl (fun _ => r_pickF rfl (ev_t rfl) (ev_t rfl)) ?_
             refine WN.done ?_
             refine WX.keep [(0, _), (59, _)] ⟨rfl, rfl, trivial⟩ ?_
             refine WX.next ?_
             refine WC.cond rfl (ev_t rfl) (fun hc1 => ?_) (fun hc1 => ?_)
             · try (exfalso; first | (simp at hc1; done) | (simp only [decide_eq_true_eq, decide_eq_false_iff_not, Bool.not_eq_true', Bool.not_eq_false', Bool.not_eq_true, Bool.not_eq_false] at hc1; omega) | omega)
               all_goals
                try simp only [decide_eq_true_eq, decide_eq_false_iff_not, Bool.not_eq_true', Bool.not_eq_false', Bool.not_eq_true, Bool.not_eq_false, Option.isNone_none, Option.isNone_some, Option.isSome_none, Option.isSome_some, ne_eq, Decidable.not_not] at hc1
                refine WC.seq ?_
                refine WC.region ?_
                refine WL.val rfl rfl rfl rfl (r_move rfl (ev_t rfl)) ?_
                refine WL.val rfl rfl rfl rfl (r_nilCheck rfl (ev_t rfl)) ?_
                first | refine WL.val rfl rfl rfl rfl (r_field0 rfl (ev_t rfl) fld_77_1) ?_ | refine WL.val rfl rfl rfl rfl (r_fieldAt rfl (ev_t rfl) fld_77_1) ?_
                refine WL.cons (SO.store rfl (ev_t rfl) ev_c size_3 hb rfl rfl rfl rfl rfl ?_)
                intro w5 hu5 hb hz5
                have hs5 := hu5.size
                replace hU := hU.transA hu5
                replace hr := hr.upd hu5 (by first | exact (fun _ _ _ h => h) | (intro k hk hl hS; simp only [At] at hS; subst hS; exact hFg hk))
                refine WL.nil ?_
                refine WX.keep [] trivial ?_
                refine WX.next ?_
                refine WC.seq ?_
                refine WC.region ?_
                refine WL.val rfl rfl rfl rfl (r_assign rfl ev_c) ?_
                refine WL.nil ?_
                refine WX.keep [(2, _)] ⟨rfl, trivial⟩ ?_
                refine WX.next ?_
                refine WC.ret ?_
                refine WX.thenRet ?_
                refine WX.retE1 rfl rfl ?_
                exact ⟨rfl, ⟨A, c, -1, hb, hr, rfl⟩, hU⟩
             · try (exfalso; first | (simp at hc1; done) | (simp only [decide_eq_true_eq, decide_eq_false_iff_not, Bool.not_eq_true', Bool.not_eq_false', Bool.not_eq_true, Bool.not_eq_false] at hc1; omega) | omega)
               all_goals
                try simp only [decide_eq_true_eq, decide_eq_false_iff_not, Bool.not_eq_true', Bool.not_eq_false', Bool.not_eq_true, Bool.not_eq_false, Option.isNone_none, Option.isNone_some, Option.isSome_none, Option.isSome_some, ne_eq, Decidable.not_not] at hc1
                refine WC.skip ?_
                refine WX.next ?_
                refine WC.seq ?_
                refine WC.region ?_
                refine WL.val rfl rfl rfl rfl (r_assign rfl ev_c) ?_
                refine WL.nil ?_
                refine WX.keep [(0, _), (3, _)] ⟨rfl, rfl, trivial⟩ ?_
                refine WX.next ?_
                refine WC.seq ?_
                refine WC.draws' (fun u0_ u1_ => Upd No u0_ u1_) (fun j => [0, 0, 0, 0, 0, 0, 0, 1, 0, 2, 0, 0].getD j 0) (.calm 0 (.calm 1 (.calm 2 (.calm 4 (.calm 5 (.calm 6 (.held 3 (.one 7 (.calm 8 (.one 9 (.calm 10 (.calm 11 (.done))))))))))))) mixed (by kernel_rfl) (by repeat (first | with_reducible exact Deaf.body | with_reducible apply Deaf.then | with_reducible apply Deaf.block)) ?_
                intro w6 hu6
                have hz6 := congrArg Array.size hu6.2.2.2
                replace hu6 := Upd.of_draw hu6
                have hs6 := hu6.size
                replace hU := hU.transA hu6
                replace hr := hr.upd hu6 (by first | exact (fun _ _ _ h => h) | (intro k hk hl hS; simp only [At] at hS; subst hS; exact hFg hk))
                replace hb := hb.updA hu6
                have hS5 := Upd.refl No w6
                refine WN.calm _ rfl rfl rfl rfl rfl (fun _ => r_move rfl (ev_t rfl)) ?_
                refine WN.calm _ rfl rfl rfl rfl rfl (fun _ => r_nilCheck rfl (ev_t rfl)) ?_
                first | refine WN.calm _ rfl rfl rfl rfl rfl (fun _ => r_field0 rfl (ev_t rfl) fld_77_0) ?_ | refine WN.calm _ rfl rfl rfl rfl rfl (fun _ => r_fieldAt rfl (ev_t rfl) fld_77_0) ?_
                refine WN.calm _ rfl rfl rfl rfl rfl (fun _ => r_move rfl (ev_t rfl)) ?_
                refine WN.calm _ rfl rfl rfl rfl rfl (fun _ => r_nilCheck rfl (ev_t rfl)) ?_
                first | refine WN.calm _ rfl rfl rfl rfl rfl (fun _ => r_field0 rfl (ev_t rfl) fld_77_1) ?_ | refine WN.calm _ rfl rfl rfl rfl rfl (fun _ => r_fieldAt rfl (ev_t rfl) fld_77_1) ?_
                refine WN.held _ rfl rfl rfl rfl rfl hS5 (fun w' hS => r_load rfl (ev_t rfl) flat_23 (Blk.cell (hb.upd hS (fun h => h)) rfl)) ?_
                refine WN.step _ rfl (SO.val rfl rfl rfl rfl (r_load rfl (ev_t rfl) flat_3 (Blk.cell hb rfl)) ?_)
                refine ⟨hS5, ?_⟩
                refine WN.calm _ rfl rfl rfl rfl rfl (fun _ => r_indexAddr rfl (ev_t rfl) (ev_t rfl) elem_23 size_5 (by omega) (by omega)) ?_
                refine WN.step _ rfl (SO.val rfl rfl rfl rfl (r_load rfl (ev_t rfl) flat_5 (Blk.cell hb rfl)) ?_)
                refine ⟨trivial, ?_⟩
                first | refine WN.calm _ rfl rfl rfl rfl rfl (fun _ => r_convN rfl (ev_t rfl) some_5 int_3 (by simp only [inK]; omega)) ?_ | refine WN.calm _ rfl rfl rfl rfl rfl (fun _ => r_conv rfl (ev_t rfl) some_5 int_3) ?_
                refine WN.calm _ rfl rfl rfl rfl rfl (fun _ => r_assign rfl (ev_t rfl)) ?_
                refine WN.done ?_
                refine WX.keep [(0, _), (3, _), (4, _)] ⟨rfl, rfl, rfl, trivial⟩ ?_
                refine WX.next ?_
                refine WC.seq ?_
                refine WC.seq ?_
                refine WC.region ?_
                refine WL.val rfl rfl rfl rfl (r_assign rfl ev_c) ?_
                refine WL.nil ?_
                refine WX.keep [(0, _), (3, _), (4, _), (5, _)] ⟨rfl, rfl, rfl, rfl, trivial⟩ ?_
                refine WX.next ?_
                refine WC.block ?_
                -- loop 1: live [0, 3, 4, 5]
                fail -- no invariant for loop 1
  | some r =>
    obtain ⟨m, rfl, hmp, rfl⟩ := hs
    refine enterRet (vs := [_]) (N := 129) Try.func36 rfl rfl rfl ?_
    have hU := Upd.refl (At g) w
    refine WC.keep [(0, _)] ⟨rfl, trivial⟩ ?_
    refine WC.seq ?_
    refine WC.region ?_
    refine WL.val rfl rfl rfl rfl (r_assign rfl ev_c) ?_
    refine WL.nil ?_
    refine WX.keep [(0, _)] ⟨rfl, trivial⟩ ?_
    refine WX.next ?_
    refine WC.seq ?_
    refine WC.seq ?_
    refine WC.draws' (fun u0_ u1_ => Upd No u0_ u1_) (fun j => [0, 0, 0, 1, 0, 0, 0, 0, 0, 0, 0, 0, 0, 1, 0, 0, 0, 0, 0, 0, 0, 0, 0, 0, 0, 1, 0, 1, 0, 0, 0, 0, 0, 0, 0, 0, 0, 0, 0, 0, 0, 0, 0, 0, 0, 0, 0, 0, 0, 0, 1, 0, 0, 0].getD j 0) (.calm 0 (.calm 1 (.calm 2 (.one 3 (.calm 4 (.calm 5 (.calm 6 (.calm 7 (.calm 8 (.calm 10 (.calm 11 (.calm 12 (.held 9 (.one 13 (.calm 14 (.calm 15 (.calm 16 (.calm 17 (.calm 18 (.calm 19 (.calm 20 (.calm 22 (.calm 23 (.calm 24 (.held 21 (.one 25 (.calm 26 (.one 27 (.calm 28 (.calm 29 (.calm 30 (.calm 31 (.calm 32 (.calm 33 (.calm 35 (.calm 36 (.calm 37 (.calm 42 (.calm 43 (.calm 44 (.calm 47 (.calm 48 (.calm 49 (.held 34 (.held 38 (.calm 39 (.held 40 (.calm 41 (.held 45 (.calm 46 (.one 50 (.calm 51 (.calm 52 (.calm 53 (.done))))))))))))))))))))))))))))))))))))))))))))))))))))))) mixed (by kernel_rfl) (by repeat (first | with_reducible exact Deaf.body | with_reducible apply Deaf.then | with_reducible apply Deaf.block)) ?_
    intro w1 hu1
    have hz1 := congrArg Array.size hu1.2.2.2
    replace hu1 := Upd.of_draw hu1
    have hs1 := hu1.size
    replace hU := hU.transA hu1
    replace hr := hr.upd hu1 (by first | exact (fun _ _ _ h => h) | (intro k hk hl hS; simp only [At] at hS; subst hS; exact hFg hk))
    replace hb := hb.updA hu1
    have hS1 := Upd.refl No w1
    refine WN.calm _ rfl rfl rfl rfl rfl (fun _ => r_move rfl (ev_t rfl)) ?_
    refine WN.calm _ rfl rfl rfl rfl rfl (fun _ => r_nilCheck rfl (ev_t rfl)) ?_
    first | refine WN.calm _ rfl rfl rfl rfl rfl (fun _ => r_field0 rfl (ev_t rfl) fld_77_1) ?_ | refine WN.calm _ rfl rfl rfl rfl rfl (fun _ => r_fieldAt rfl (ev_t rfl) fld_77_1) ?_
    refine WN.step _ rfl (SO.val rfl rfl rfl rfl (r_load rfl (ev_t rfl) flat_3 (Blk.cell hb rfl)) ?_)
    refine ⟨hS1, ?_⟩
    refine WN.calm _ rfl rfl rfl rfl rfl (fun _ => r_lss rfl (ev_t rfl) ev_c) ?_
    refine WN.calm _ rfl rfl rfl rfl rfl (fun _ => r_move rfl (ev_t rfl)) ?_
    refine WN.cases 11 rfl (fun hb1_5 => ?_) (fun hb1_5 => ?_)
    · try simp only [decide_eq_true_eq, decide_eq_false_iff_not, Bool.not_eq_true', Bool.not_eq_false', Bool.not_eq_true, Bool.not_eq_false, Option.isNone_none, Option.isNone_some, Option.isSome_none, Option.isSome_some, ne_eq, Decidable.not_not] at hb1_5
      exfalso
      omega
    · try (exfalso; first | (simp at hb1_5; done) | (simp only [decide_eq_true_eq, decide_eq_false_iff_not, Bool.not_eq_true', Bool.not_eq_false', Bool.not_eq_true, Bool.not_eq_false] at hb1_5; omega) | omega)
      all_goals
       try simp only [decide_eq_true_eq, decide_eq_false_iff_not, Bool.not_eq_true', Bool.not_eq_false', Bool.not_eq_true, Bool.not_eq_false, Option.isNone_none, Option.isNone_some, Option.isSome_none, Option.isSome_some, ne_eq, Decidable.not_not] at hb1_5
       refine WN.calm _ rfl rfl rfl rfl rfl (fun _ => r_move rfl (ev_t rfl)) ?_
       refine WN.calm _ rfl rfl rfl rfl rfl (fun _ => r_nilCheck rfl (ev_t rfl)) ?_
       first | refine WN.calm _ rfl rfl rfl rfl rfl (fun _ => r_field0 rfl (ev_t rfl) fld_77_1) ?_ | refine WN.calm _ rfl rfl rfl rfl rfl (fun _ => r_fieldAt rfl (ev_t rfl) fld_77_1) ?_
       refine WN.calm _ rfl rfl rfl rfl rfl (fun _ => r_move rfl (ev_t rfl)) ?_
       refine WN.calm _ rfl rfl rfl rfl rfl (fun _ => r_nilCheck rfl (ev_t rfl)) ?_
       first | refine WN.calm _ rfl rfl rfl rfl rfl (fun _ => r_field0 rfl (ev_t rfl) fld_77_0) ?_ | refine WN.calm _ rfl rfl rfl rfl rfl (fun _ => r_fieldAt rfl (ev_t rfl) fld_77_0) ?_
       refine WN.held _ rfl rfl rfl rfl rfl hS1 (fun w' hS => r_load rfl (ev_t rfl) flat_3 (Blk.cell (hb.upd hS (fun h => h)) rfl)) ?_
       refine WN.step _ rfl (SO.val rfl rfl rfl rfl (r_load rfl (ev_t rfl) flat_23 (Blk.cell hb rfl)) ?_)
       refine ⟨hS1, ?_⟩
       refine WN.calm _ rfl rfl rfl rfl rfl (fun _ => r_lenSlice (ts := #[]) rfl (ev_t rfl) elem_23) ?_
       refine WN.calm _ rfl rfl rfl rfl rfl (fun _ => r_geq rfl (ev_t rfl) (ev_t rfl)) ?_
       refine WN.calm _ rfl rfl rfl rfl rfl (fun _ => r_pickF rfl (ev_t rfl) (ev_t rfl)) ?_
       refine WN.calm _ rfl rfl rfl rfl rfl (fun _ => r_move rfl (ev_t rfl)) ?_
       refine WN.cases 23 rfl (fun hb1_17 => ?_) (fun hb1_17 => ?_)
       · try (exfalso; first | (simp at hb1_17; done) | (simp only [decide_eq_true_eq, decide_eq_false_iff_not, Bool.not_eq_true', Bool.not_eq_false', Bool.not_eq_true, Bool.not_eq_false] at hb1_17; omega) | omega)
         all_goals
          try simp only [decide_eq_true_eq, decide_eq_false_iff_not, Bool.not_eq_true', Bool.not_eq_false', Bool.not_eq_true, Bool.not_eq_false, Option.isNone_none, Option.isNone_some, Option.isSome_none, Option.isSome_some, ne_eq, Decidable.not_not] at hb1_17
          refine WN.skip _ rfl rfl rfl rfl ?_
          refine WN.skip _ rfl rfl rfl rfl ?_
          refine WN.skip _ rfl rfl rfl rfl ?_
          refine WN.skip _ rfl rfl rfl rfl ?_
          refine WN.skip _ rfl rfl rfl rfl ?_
          refine WN.skip _ rfl rfl rfl rfl ?_
          refine WN.heldSkip _ rfl rfl rfl rfl hS1 ?_
          refine WN.step _ rfl (SO.skip rfl rfl rfl ?_)
          refine ⟨hS1, ?_⟩
          refine WN.skip _ rfl rfl rfl rfl ?_
          refine WN.step _ rfl (SO.skip rfl rfl rfl ?_)
          refine ⟨hS1, ?_⟩
          refine WN.skip _ rfl rfl rfl rfl ?_
          refine WN.calm _ rfl rfl rfl rfl rfl (fun _ => r_pickT rfl (ev_t rfl) ev_c) ?_
          refine WN.calm _ rfl rfl rfl rfl rfl (fun _ => r_move rfl (ev_t rfl)) ?_
          refine WN.skip _ rfl rfl rfl rfl ?_
          refine WN.skip _ rfl rfl rfl rfl ?_
          refine WN.skip _ rfl rfl rfl rfl ?_
          refine WN.skip _ rfl rfl rfl rfl ?_
          refine WN.skip _ rfl rfl rfl rfl ?_
          refine WN.skip _ rfl rfl rfl rfl ?_
          refine WN.skip _ rfl rfl rfl rfl ?_
          refine WN.skip _ rfl rfl rfl rfl ?_
          refine WN.skip _ rfl rfl rfl rfl ?_
          refine WN.skip _ rfl rfl rfl rfl ?_
          refine WN.skip _ rfl rfl rfl rfl ?_
          refine WN.skip _ rfl rfl rfl rfl ?_
          refine WN.heldSkip _ rfl rfl rfl rfl hS1 ?_
          refine WN.heldSkip _ rfl rfl rfl rfl hS1 ?_
          refine WN.skip _ rfl rfl rfl rfl ?_
          refine WN.heldSkip _ rfl rfl rfl rfl hS1 ?_
          refine WN.skip _ rfl rfl rfl rfl ?_
          refine WN.heldSkip _ rfl rfl rfl rfl hS1 ?_
          refine WN.skip _ rfl rfl rfl rfl ?_
          refine WN.step _ rfl (SO.skip rfl rfl rfl ?_)
          refine ⟨hS1, ?_⟩
          refine WN.skip _ rfl rfl rfl rfl ?_
          refine WN.skip _ rfl rfl rfl rfl ?_
          refine WN.calm _ rfl rfl rfl rfl rfl (fun _ => r_pickT rfl (ev_t rfl) ev_c) ?_
          refine WN.done ?_
          refine WX.keep [(0, _), (59, _)] ⟨rfl, rfl, trivial⟩ ?_
          refine WX.next ?_
          refine WC.cond_true rfl (ev_t rfl) ?_
          refine WC.seq ?_
          refine WC.region ?_
          refine WL.val rfl rfl rfl rfl (r_move rfl (ev_t rfl)) ?_
          refine WL.val rfl rfl rfl rfl (r_nilCheck rfl (ev_t rfl)) ?_
          first | refine WL.val rfl rfl rfl rfl (r_field0 rfl (ev_t rfl) fld_77_1) ?_ | refine WL.val rfl rfl rfl rfl (r_fieldAt rfl (ev_t rfl) fld_77_1) ?_
          refine WL.cons (SO.store rfl (ev_t rfl) ev_c size_3 hb rfl rfl rfl rfl rfl ?_)
          intro w2 hu2 hb hz2
          have hs2 := hu2.size
          replace hU := hU.transA hu2
          replace hr := hr.upd hu2 (by first | exact (fun _ _ _ h => h) | (intro k hk hl hS; simp only [At] at hS; subst hS; exact hFg hk))
          refine WL.nil ?_
          refine WX.keep [] trivial ?_
          refine WX.next ?_
          refine WC.seq ?_
          refine WC.region ?_
          refine WL.val rfl rfl rfl rfl (r_assign rfl ev_c) ?_
          refine WL.nil ?_
          refine WX.keep [(2, _)] ⟨rfl, trivial⟩ ?_
          refine WX.next ?_
          refine WC.ret ?_
          refine WX.thenRet ?_
          refine WX.retE1 rfl rfl ?_
          have hd : decU (p.drop m) = none := by
            first
              | exact decU_end (by omega)
              | (rw [decU_drop (by omega), if_neg (fun h => by have := h.1; have := h.2.1; omega)])
          simp only [uintR, hd, Prod.mk.injEq] at hx
          obtain ⟨rfl, rfl⟩ := hx
          exact ⟨rfl, ⟨_, c, -1, hb, hr, rfl⟩, hU⟩
       · try (exfalso; first | (simp at hb1_17; done) | (simp only [decide_eq_true_eq, decide_eq_false_iff_not, Bool.not_eq_true', Bool.not_eq_false', Bool.not_eq_true, Bool.not_eq_false] at hb1_17; omega) | omega)
         all_goals
          try simp only [decide_eq_true_eq, decide_eq_false_iff_not, Bool.not_eq_true', Bool.not_eq_false', Bool.not_eq_true, Bool.not_eq_false, Option.isNone_none, Option.isNone_some, Option.isSome_none, Option.isSome_some, ne_eq, Decidable.not_not] at hb1_17
          have hml : m < p.length := by omega
          obtain ⟨b, off, rfl, _⟩ := hr.open (by omega)
          have hcm : (p.map U8)[m]? = some (.int .u8 (p[m].toNat : Int)) := by simp [U8, hml]
          have hb8 := p[m].toNat_lt
          refine WN.calm _ rfl rfl rfl rfl rfl (fun _ => r_move rfl (ev_t rfl)) ?_
          refine WN.calm _ rfl rfl rfl rfl rfl (fun _ => r_nilCheck rfl (ev_t rfl)) ?_
          first | refine WN.calm _ rfl rfl rfl rfl rfl (fun _ => r_field0 rfl (ev_t rfl) fld_77_0) ?_ | refine WN.calm _ rfl rfl rfl rfl rfl (fun _ => r_fieldAt rfl (ev_t rfl) fld_77_0) ?_
          refine WN.calm _ rfl rfl rfl rfl rfl (fun _ => r_move rfl (ev_t rfl)) ?_
          refine WN.calm _ rfl rfl rfl rfl rfl (fun _ => r_nilCheck rfl (ev_t rfl)) ?_
          first | refine WN.calm _ rfl rfl rfl rfl rfl (fun _ => r_field0 rfl (ev_t rfl) fld_77_1) ?_ | refine WN.calm _ rfl rfl rfl rfl rfl (fun _ => r_fieldAt rfl (ev_t rfl) fld_77_1) ?_
          refine WN.held _ rfl rfl rfl rfl rfl hS1 (fun w' hS => r_load rfl (ev_t rfl) flat_23 (Blk.cell (hb.upd hS (fun h => h)) rfl)) ?_
          refine WN.step _ rfl (SO.val rfl rfl rfl rfl (r_load rfl (ev_t rfl) flat_3 (Blk.cell hb rfl)) ?_)
          refine ⟨hS1, ?_⟩
          refine WN.calm _ rfl rfl rfl rfl rfl (fun _ => r_indexAddr rfl (ev_t rfl) (ev_t rfl) elem_23 size_5 (by omega) (by omega)) ?_
          refine WN.step _ rfl (SO.val rfl rfl rfl rfl (r_load rfl (ev_t rfl) flat_5 (hr.cell (j := m) (by omega) hcm)) ?_)
          refine ⟨hS1, ?_⟩
          refine WN.calm _ rfl rfl rfl rfl rfl (fun _ => r_gtr rfl (ev_t rfl) ev_c) ?_
          refine WN.calm _ rfl rfl rfl rfl rfl (fun _ => r_pickF rfl (ev_t rfl) (ev_t rfl)) ?_
          refine WN.calm _ rfl rfl rfl rfl rfl (fun _ => r_move rfl (ev_t rfl)) ?_
          refine WN.cases 36 rfl (fun hb1_30 => ?_) (fun hb1_30 => ?_)
          · try (exfalso; first | (simp at hb1_30; done) | (simp only [decide_eq_true_eq, decide_eq_false_iff_not, Bool.not_eq_true', Bool.not_eq_false', Bool.not_eq_true, Bool.not_eq_false] at hb1_30; omega) | omega)
            all_goals
             try simp only [decide_eq_true_eq, decide_eq_false_iff_not, Bool.not_eq_true', Bool.not_eq_false', Bool.not_eq_true, Bool.not_eq_false, Option.isNone_none, Option.isNone_some, Option.isSome_none, Option.isSome_some, ne_eq, Decidable.not_not] at hb1_30
             refine WN.skip _ rfl rfl rfl rfl ?_
             refine WN.skip _ rfl rfl rfl rfl ?_
             refine WN.skip _ rfl rfl rfl rfl ?_
             refine WN.skip _ rfl rfl rfl rfl ?_
             refine WN.skip _ rfl rfl rfl rfl ?_
             refine WN.skip _ rfl rfl rfl rfl ?_
             refine WN.skip _ rfl rfl rfl rfl ?_
             refine WN.skip _ rfl rfl rfl rfl ?_
             refine WN.skip _ rfl rfl rfl rfl ?_
             refine WN.skip _ rfl rfl rfl rfl ?_
             refine WN.skip _ rfl rfl rfl rfl ?_
             refine WN.skip _ rfl rfl rfl rfl ?_
             refine WN.heldSkip _ rfl rfl rfl rfl hS1 ?_
             refine WN.heldSkip _ rfl rfl rfl rfl hS1 ?_
             refine WN.skip _ rfl rfl rfl rfl ?_
             refine WN.heldSkip _ rfl rfl rfl rfl hS1 ?_
             refine WN.skip _ rfl rfl rfl rfl ?_
             refine WN.heldSkip _ rfl rfl rfl rfl hS1 ?_
             refine WN.skip _ rfl rfl rfl rfl ?_
             refine WN.step _ rfl (SO.skip rfl rfl rfl ?_)
             refine ⟨hS1, ?_⟩
             refine WN.skip _ rfl rfl rfl rfl ?_
             refine WN.skip _ rfl rfl rfl rfl ?_
             refine WN.calm _ rfl rfl rfl rfl rfl (fun _ => r_pickT rfl (ev_t rfl) ev_c) ?_
             refine WN.done ?_
             refine WX.keep [(0, _), (59, _)] ⟨rfl, rfl, trivial⟩ ?_
             refine WX.next ?_
             refine WC.cond_true rfl (ev_t rfl) ?_
             refine WC.seq ?_
             refine WC.region ?_
             refine WL.val rfl rfl rfl rfl (r_move rfl (ev_t rfl)) ?_
             refine WL.val rfl rfl rfl rfl (r_nilCheck rfl (ev_t rfl)) ?_
             first | refine WL.val rfl rfl rfl rfl (r_field0 rfl (ev_t rfl) fld_77_1) ?_ | refine WL.val rfl rfl rfl rfl (r_fieldAt rfl (ev_t rfl) fld_77_1) ?_
             refine WL.cons (SO.store rfl (ev_t rfl) ev_c size_3 hb rfl rfl rfl rfl rfl ?_)
             intro w3 hu3 hb hz3
             have hs3 := hu3.size
             replace hU := hU.transA hu3
             replace hr := hr.upd hu3 (by first | exact (fun _ _ _ h => h) | (intro k hk hl hS; simp only [At] at hS; subst hS; exact hFg hk))
             refine WL.nil ?_
             refine WX.keep [] trivial ?_
             refine WX.next ?_
             refine WC.seq ?_
             refine WC.region ?_
             refine WL.val rfl rfl rfl rfl (r_assign rfl ev_c) ?_
             refine WL.nil ?_
             refine WX.keep [(2, _)] ⟨rfl, trivial⟩ ?_
             refine WX.next ?_
             refine WC.ret ?_
             refine WX.thenRet ?_
             refine WX.retE1 rfl rfl ?_
             have hd : decU (p.drop m) = none := by
               first
                 | exact decU_end (by omega)
                 | (rw [decU_drop (by omega), if_neg (fun h => by have := h.1; have := h.2.1; omega)])
             simp only [uintR, hd, Prod.mk.injEq] at hx
             obtain ⟨rfl, rfl⟩ := hx
             exact ⟨rfl, ⟨_, c, -1, hb, hr, rfl⟩, hU⟩
          · try (exfalso; first | (simp at hb1_30; done) | (simp only [decide_eq_true_eq, decide_eq_false_iff_not, Bool.not_eq_true', Bool.not_eq_false', Bool.not_eq_true, Bool.not_eq_false] at hb1_30; omega) | omega)
            all_goals
             try simp only [decide_eq_true_eq, decide_eq_false_iff_not, Bool.not_eq_true', Bool.not_eq_false', Bool.not_eq_true, Bool.not_eq_false, Option.isNone_none, Option.isNone_some, Option.isSome_none, Option.isSome_some, ne_eq, Decidable.not_not] at hb1_30
             refine WN.calm _ rfl rfl rfl rfl rfl (fun _ => r_move rfl (ev_t rfl)) ?_
             refine WN.calm _ rfl rfl rfl rfl rfl (fun _ => r_nilCheck rfl (ev_t rfl)) ?_
             first | refine WN.calm _ rfl rfl rfl rfl rfl (fun _ => r_field0 rfl (ev_t rfl) fld_77_0) ?_ | refine WN.calm _ rfl rfl rfl rfl rfl (fun _ => r_fieldAt rfl (ev_t rfl) fld_77_0) ?_
             refine WN.calm _ rfl rfl rfl rfl rfl (fun _ => r_move rfl (ev_t rfl)) ?_
             refine WN.calm _ rfl rfl rfl rfl rfl (fun _ => r_nilCheck rfl (ev_t rfl)) ?_
             first | refine WN.calm _ rfl rfl rfl rfl rfl (fun _ => r_field0 rfl (ev_t rfl) fld_77_1) ?_ | refine WN.calm _ rfl rfl rfl rfl rfl (fun _ => r_fieldAt rfl (ev_t rfl) fld_77_1) ?_
             refine WN.calm _ rfl rfl rfl rfl rfl (fun _ => r_move rfl (ev_t rfl)) ?_
             refine WN.calm _ rfl rfl rfl rfl rfl (fun _ => r_nilCheck rfl (ev_t rfl)) ?_
             first | refine WN.calm _ rfl rfl rfl rfl rfl (fun _ => r_field0 rfl (ev_t rfl) fld_77_0) ?_ | refine WN.calm _ rfl rfl rfl rfl rfl (fun _ => r_fieldAt rfl (ev_t rfl) fld_77_0) ?_
             refine WN.calm _ rfl rfl rfl rfl rfl (fun _ => r_move rfl (ev_t rfl)) ?_
             refine WN.calm _ rfl rfl rfl rfl rfl (fun _ => r_nilCheck rfl (ev_t rfl)) ?_
             first | refine WN.calm _ rfl rfl rfl rfl rfl (fun _ => r_field0 rfl (ev_t rfl) fld_77_1) ?_ | refine WN.calm _ rfl rfl rfl rfl rfl (fun _ => r_fieldAt rfl (ev_t rfl) fld_77_1) ?_
             refine WN.held _ rfl rfl rfl rfl rfl hS1 (fun w' hS => r_load rfl (ev_t rfl) flat_23 (Blk.cell (hb.upd hS (fun h => h)) rfl)) ?_
             refine WN.held _ rfl rfl rfl rfl rfl hS1 (fun w' hS => r_load rfl (ev_t rfl) flat_3 (Blk.cell (hb.upd hS (fun h => h)) rfl)) ?_
             refine WN.calm _ rfl rfl rfl rfl rfl (fun _ => r_indexAddr rfl (ev_t rfl) (ev_t rfl) elem_23 size_5 (by omega) (by omega)) ?_
             refine WN.held _ rfl rfl rfl rfl rfl hS1 (fun w' hS => r_load rfl (ev_t rfl) flat_5 ((hr.upd hS (fun _ _ _ h => h)).cell (j := m) (by omega) hcm)) ?_
             first | refine WN.calm _ rfl rfl rfl rfl rfl (fun _ => r_convN rfl (ev_t rfl) some_5 int_3 (by simp only [inK]; omega)) ?_ | refine WN.calm _ rfl rfl rfl rfl rfl (fun _ => r_conv rfl (ev_t rfl) some_5 int_3) ?_
             refine WN.held _ rfl rfl rfl rfl rfl hS1 (fun w' hS => r_load rfl (ev_t rfl) flat_23 (Blk.cell (hb.upd hS (fun h => h)) rfl)) ?_
             refine WN.calm _ rfl rfl rfl rfl rfl (fun _ => r_lenSlice (ts := #[]) rfl (ev_t rfl) elem_23) ?_
             refine WN.step _ rfl (SO.val rfl rfl rfl rfl (r_load rfl (ev_t rfl) flat_3 (Blk.cell hb rfl)) ?_)
             refine ⟨hS1, ?_⟩
             first | refine WN.calm _ rfl rfl rfl rfl rfl (fun _ => r_subN rfl (ev_t rfl) (ev_t rfl) (by simp only [inK]; omega)) ?_ | refine WN.calm _ rfl rfl rfl rfl rfl (fun _ => r_sub rfl (ev_t rfl) (ev_t rfl)) ?_
             refine WN.calm _ rfl rfl rfl rfl rfl (fun _ => r_geq rfl (ev_t rfl) (ev_t rfl)) ?_
             refine WN.calm _ rfl rfl rfl rfl rfl (fun _ => r_pickF rfl (ev_t rfl) (ev_t rfl)) ?_
             refine WN.done ?_
             refine WX.keep [(0, _), (59, _)] ⟨rfl, rfl, trivial⟩ ?_
             refine WX.next ?_
             refine WC.cond rfl (ev_t rfl) (fun hc1 => ?_) (fun hc1 => ?_)
             · try (exfalso; first | (simp at hc1; done) | (simp only [decide_eq_true_eq, decide_eq_false_iff_not, Bool.not_eq_true', Bool.not_eq_false', Bool.not_eq_true, Bool.not_eq_false] at hc1; omega) | omega)
               all_goals
                try simp only [decide_eq_true_eq, decide_eq_false_iff_not, Bool.not_eq_true', Bool.not_eq_false', Bool.not_eq_true, Bool.not_eq_false, Option.isNone_none, Option.isNone_some, Option.isSome_none, Option.isSome_some, ne_eq, Decidable.not_not] at hc1
                refine WC.seq ?_
                refine WC.region ?_
                refine WL.val rfl rfl rfl rfl (r_move rfl (ev_t rfl)) ?_
                refine WL.val rfl rfl rfl rfl (r_nilCheck rfl (ev_t rfl)) ?_
                first | refine WL.val rfl rfl rfl rfl (r_field0 rfl (ev_t rfl) fld_77_1) ?_ | refine WL.val rfl rfl rfl rfl (r_fieldAt rfl (ev_t rfl) fld_77_1) ?_
                refine WL.cons (SO.store rfl (ev_t rfl) ev_c size_3 hb rfl rfl rfl rfl rfl ?_)
                intro w4 hu4 hb hz4
                have hs4 := hu4.size
                replace hU := hU.transA hu4
                replace hr := hr.upd hu4 (by first | exact (fun _ _ _ h => h) | (intro k hk hl hS; simp only [At] at hS; subst hS; exact hFg hk))
                refine WL.nil ?_
                refine WX.keep [] trivial ?_
                refine WX.next ?_
                refine WC.seq ?_
                refine WC.region ?_
                refine WL.val rfl rfl rfl rfl (r_assign rfl ev_c) ?_
                refine WL.nil ?_
                refine WX.keep [(2, _)] ⟨rfl, trivial⟩ ?_
                refine WX.next ?_
                refine WC.ret ?_
                refine WX.thenRet ?_
                refine WX.retE1 rfl rfl ?_
                have hd : decU (p.drop m) = none := by
                  first
                    | exact decU_end (by omega)
                    | (rw [decU_drop (by omega), if_neg (fun h => by have := h.1; have := h.2.1; omega)])
                simp only [uintR, hd, Prod.mk.injEq] at hx
                obtain ⟨rfl, rfl⟩ := hx
                exact ⟨rfl, ⟨_, c, -1, hb, hr, rfl⟩, hU⟩
             · try (exfalso; first | (simp at hc1; done) | (simp only [decide_eq_true_eq, decide_eq_false_iff_not, Bool.not_eq_true', Bool.not_eq_false', Bool.not_eq_true, Bool.not_eq_false] at hc1; omega) | omega)
               all_goals
                try simp only [decide_eq_true_eq, decide_eq_false_iff_not, Bool.not_eq_true', Bool.not_eq_false', Bool.not_eq_true, Bool.not_eq_false, Option.isNone_none, Option.isNone_some, Option.isSome_none, Option.isSome_some, ne_eq, Decidable.not_not] at hc1
                obtain ⟨k, hk⟩ : ∃ k, p[m].toNat = k := ⟨_, rfl⟩
                rw [hk] at hcm
                have hk8 : k ≤ 8 := by omega
                have hkl : k ≤ p.length - (m + 1) := by omega
                have hql : (p.drop (m + 1)).length = p.length - (m + 1) := List.length_drop
                refine WC.skip ?_
                refine WX.next ?_
                refine WC.seq ?_
                refine WC.region ?_
                refine WL.val rfl rfl rfl rfl (r_assign rfl ev_c) ?_
                refine WL.nil ?_
                refine WX.keep [(0, _), (3, _)] ⟨rfl, rfl, trivial⟩ ?_
                refine WX.next ?_
                refine WC.seq ?_
                refine WC.draws' (fun u0_ u1_ => Upd No u0_ u1_) (fun j => [0, 0, 0, 0, 0, 0, 0, 1, 0, 2, 0, 0].getD j 0) (.calm 0 (.calm 1 (.calm 2 (.calm 4 (.calm 5 (.calm 6 (.held 3 (.one 7 (.calm 8 (.one 9 (.calm 10 (.calm 11 (.done))))))))))))) mixed (by kernel_rfl) (by repeat (first | with_reducible exact Deaf.body | with_reducible apply Deaf.then | with_reducible apply Deaf.block)) ?_
                intro w5 hu5
                have hz5 := congrArg Array.size hu5.2.2.2
                replace hu5 := Upd.of_draw hu5
                have hs5 := hu5.size
                replace hU := hU.transA hu5
                replace hr := hr.upd hu5 (by first | exact (fun _ _ _ h => h) | (intro k hk hl hS; simp only [At] at hS; subst hS; exact hFg hk))
                replace hb := hb.updA hu5
                have hS5 := Upd.refl No w5
                refine WN.calm _ rfl rfl rfl rfl rfl (fun _ => r_move rfl (ev_t rfl)) ?_
                refine WN.calm _ rfl rfl rfl rfl rfl (fun _ => r_nilCheck rfl (ev_t rfl)) ?_
                first | refine WN.calm _ rfl rfl rfl rfl rfl (fun _ => r_field0 rfl (ev_t rfl) fld_77_0) ?_ | refine WN.calm _ rfl rfl rfl rfl rfl (fun _ => r_fieldAt rfl (ev_t rfl) fld_77_0) ?_
                refine WN.calm _ rfl rfl rfl rfl rfl (fun _ => r_move rfl (ev_t rfl)) ?_
                refine WN.calm _ rfl rfl rfl rfl rfl (fun _ => r_nilCheck rfl (ev_t rfl)) ?_
                first | refine WN.calm _ rfl rfl rfl rfl rfl (fun _ => r_field0 rfl (ev_t rfl) fld_77_1) ?_ | refine WN.calm _ rfl rfl rfl rfl rfl (fun _ => r_fieldAt rfl (ev_t rfl) fld_77_1) ?_
                refine WN.held _ rfl rfl rfl rfl rfl hS5 (fun w' hS => r_load rfl (ev_t rfl) flat_23 (Blk.cell (hb.upd hS (fun h => h)) rfl)) ?_
                refine WN.step _ rfl (SO.val rfl rfl rfl rfl (r_load rfl (ev_t rfl) flat_3 (Blk.cell hb rfl)) ?_)
                refine ⟨hS5, ?_⟩
                refine WN.calm _ rfl rfl rfl rfl rfl (fun _ => r_indexAddr rfl (ev_t rfl) (ev_t rfl) elem_23 size_5 (by omega) (by omega)) ?_
                refine WN.step _ rfl (SO.val rfl rfl rfl rfl (r_load rfl (ev_t rfl) flat_5 (hr.cell (j := m) (by omega) hcm)) ?_)
                refine ⟨trivial, ?_⟩
                first | refine WN.calm _ rfl rfl rfl rfl rfl (fun _ => r_convN rfl (ev_t rfl) some_5 int_3 (by simp only [inK]; omega)) ?_ | refine WN.calm _ rfl rfl rfl rfl rfl (fun _ => r_conv rfl (ev_t rfl) some_5 int_3) ?_
                refine WN.calm _ rfl rfl rfl rfl rfl (fun _ => r_assign rfl (ev_t rfl)) ?_
                refine WN.done ?_
                refine WX.keep [(0, _), (3, _), (4, _)] ⟨rfl, rfl, rfl, trivial⟩ ?_
                refine WX.next ?_
                refine WC.seq ?_
                refine WC.seq ?_
                refine WC.region ?_
                refine WL.val rfl rfl rfl rfl (r_assign rfl ev_c) ?_
                refine WL.nil ?_
                refine WX.keep [(0, _), (3, _), (4, _), (5, _)] ⟨rfl, rfl, rfl, rfl, trivial⟩ ?_
                refine WX.next ?_
                refine WC.block ?_
                -- loop 1: live [0, 3, 4, 5]
                refine WC.keep [(0, _), (3, _), (4, _), (5, _)] ⟨rfl, rfl, rfl, rfl, trivial⟩ ?_
                refine WC.loop (fun q E w' => ∃ i : Nat, i ≤ k ∧ q = k - i ∧ Upd (At g) w w' ∧ Blk w' g #[.slice (some ⟨b, off, none⟩) p.length c, .int .i64 (m : Int)] 77 ∧ Rd w' F (.slice (some ⟨b, off, none⟩) p.length c) p.length 1 (p.map U8) ∧   E = [(0, .pointer (some ⟨g, 0, none⟩)), (3, .int .u64 (beN ((p.drop (m + 1)).take i) : Nat)), (4, .int .i64 (k : Int)), (5, .int .i64 ((i : Int) + 1))]) (k) ?_ ?_
                · exact ⟨0, by omega, by omega, hU, hb, hr, rfl⟩
                · rintro q E w' ⟨i, hi, rfl, hU, hb, hr, rfl⟩
                  have hs0 := hU.size
                  refine WC.seq ?_
                  refine WC.seq ?_
                  refine WC.region ?_
                  refine WL.val rfl rfl rfl rfl (r_move rfl (ev_t rfl)) ?_
                  refine WL.val rfl rfl rfl rfl (r_move rfl (ev_t rfl)) ?_
                  refine WL.val rfl rfl rfl rfl (r_leq rfl (ev_t rfl) (ev_t rfl)) ?_
                  refine WL.nil ?_
                  refine WX.keep [(0, _), (3, _), (4, _), (5, _), (76, _)] ⟨rfl, rfl, rfl, rfl, rfl, trivial⟩ ?_
                  refine WX.next ?_
                  refine WC.cond rfl (ev_t rfl) (fun hc7 => ?_) (fun hc7 => ?_)
                  · try (exfalso; first | (simp at hc7; done) | (simp only [decide_eq_true_eq, decide_eq_false_iff_not, Bool.not_eq_true', Bool.not_eq_false', Bool.not_eq_true, Bool.not_eq_false] at hc7; omega) | omega)
                    all_goals
                     try simp only [decide_eq_true_eq, decide_eq_false_iff_not, Bool.not_eq_true', Bool.not_eq_false', Bool.not_eq_true, Bool.not_eq_false, Option.isNone_none, Option.isNone_some, Option.isSome_none, Option.isSome_some, ne_eq, Decidable.not_not] at hc7
                     have hi' : m + 1 + i < p.length := by omega
                     have hci : (p.map U8)[m + 1 + i]? = some (.int .u8 (p[m + 1 + i].toNat : Int)) := by simp [U8, hi']
                     have hlt8 := beN_take_lt (p.drop (m + 1)) i (by omega)
                     have hbi := p[m + 1 + i].toNat_lt
                     refine WC.skip ?_
                     refine WX.next ?_
                     refine WC.seq ?_
                     refine WC.block ?_
                     refine WC.draws' (fun u0_ u1_ => Upd No u0_ u1_) (fun j => [0, 0, 0, 0, 0, 0, 0, 0, 0, 1, 0, 0, 0, 2, 0, 0, 0].getD j 0) (.calm 0 (.calm 1 (.calm 2 (.calm 3 (.calm 4 (.calm 6 (.calm 7 (.calm 8 (.calm 10 (.held 5 (.one 9 (.calm 11 (.calm 12 (.one 13 (.calm 14 (.calm 15 (.calm 16 (.done)))))))))))))))))) mixed (by kernel_rfl) (by repeat (first | with_reducible exact Deaf.body | with_reducible apply Deaf.then | with_reducible apply Deaf.block)) ?_
                     intro w6 hu6
                     have hz6 := congrArg Array.size hu6.2.2.2
                     replace hu6 := Upd.of_draw hu6
                     have hs6 := hu6.size
                     replace hU := hU.transA hu6
                     replace hr := hr.upd hu6 (by first | exact (fun _ _ _ h => h) | (intro k hk hl hS; simp only [At] at hS; subst hS; exact hFg hk))
                     replace hb := hb.updA hu6
                     have hS9 := Upd.refl No w6
                     refine WN.calm _ rfl rfl rfl rfl rfl (fun _ => r_move rfl (ev_t rfl)) ?_
                     first | refine WN.calm _ rfl rfl rfl rfl rfl (fun _ => r_mulN rfl (ev_t rfl) ev_c (by simp only [inK]; omega)) ?_ | refine WN.calm _ rfl rfl rfl rfl rfl (fun _ => r_mul rfl (ev_t rfl) ev_c) ?_
                     refine WN.calm _ rfl rfl rfl rfl rfl (fun _ => r_move rfl (ev_t rfl)) ?_
                     refine WN.calm _ rfl rfl rfl rfl rfl (fun _ => r_nilCheck rfl (ev_t rfl)) ?_
                     first | refine WN.calm _ rfl rfl rfl rfl rfl (fun _ => r_field0 rfl (ev_t rfl) fld_77_0) ?_ | refine WN.calm _ rfl rfl rfl rfl rfl (fun _ => r_fieldAt rfl (ev_t rfl) fld_77_0) ?_
                     refine WN.calm _ rfl rfl rfl rfl rfl (fun _ => r_move rfl (ev_t rfl)) ?_
                     refine WN.calm _ rfl rfl rfl rfl rfl (fun _ => r_nilCheck rfl (ev_t rfl)) ?_
                     first | refine WN.calm _ rfl rfl rfl rfl rfl (fun _ => r_field0 rfl (ev_t rfl) fld_77_1) ?_ | refine WN.calm _ rfl rfl rfl rfl rfl (fun _ => r_fieldAt rfl (ev_t rfl) fld_77_1) ?_
                     refine WN.calm _ rfl rfl rfl rfl rfl (fun _ => r_move rfl (ev_t rfl)) ?_
                     refine WN.held _ rfl rfl rfl rfl rfl hS9 (fun w' hS => r_load rfl (ev_t rfl) flat_23 (Blk.cell (hb.upd hS (fun h => h)) rfl)) ?_
                     refine WN.step _ rfl (SO.val rfl rfl rfl rfl (r_load rfl (ev_t rfl) flat_3 (Blk.cell hb rfl)) ?_)
                     refine ⟨hS9, ?_⟩
                     first | refine WN.calm _ rfl rfl rfl rfl rfl (fun _ => r_addN rfl (ev_t rfl) (ev_t rfl) (by simp only [inK]; omega)) ?_ | refine WN.calm _ rfl rfl rfl rfl rfl (fun _ => r_add rfl (ev_t rfl) (ev_t rfl)) ?_
                     refine WN.calm _ rfl rfl rfl rfl rfl (fun _ => r_indexAddr rfl (ev_t rfl) (ev_t rfl) elem_23 size_5 (by omega) (by omega)) ?_
                     refine WN.step _ rfl (SO.val rfl rfl rfl rfl (r_load rfl (ev_t rfl) flat_5 (hr.cell (j := m + 1 + i) (by omega) hci)) ?_)
                     refine ⟨trivial, ?_⟩
                     first | refine WN.calm _ rfl rfl rfl rfl rfl (fun _ => r_convN rfl (ev_t rfl) some_5 int_27 (by simp only [inK]; omega)) ?_ | refine WN.calm _ rfl rfl rfl rfl rfl (fun _ => r_conv rfl (ev_t rfl) some_5 int_27) ?_
                     first | refine WN.calm _ rfl rfl rfl rfl rfl (fun _ => r_addN rfl (ev_t rfl) (ev_t rfl) (by simp only [inK]; omega)) ?_ | refine WN.calm _ rfl rfl rfl rfl rfl (fun _ => r_add rfl (ev_t rfl) (ev_t rfl)) ?_
                     refine WN.calm _ rfl rfl rfl rfl rfl (fun _ => r_assign rfl (ev_t rfl)) ?_
                     refine WN.done ?_
                     refine WX.keep [(0, _), (3, _), (4, _), (5, _)] ⟨rfl, rfl, rfl, rfl, trivial⟩ ?_
                     refine WX.blockNormal ?_
                     refine WX.next ?_
                     refine WC.region ?_
                     refine WL.val rfl rfl rfl rfl (r_move rfl (ev_t rfl)) ?_
                     first | refine WL.val rfl rfl rfl rfl (r_addN rfl (ev_t rfl) ev_c (by simp only [inK]; omega)) ?_ | refine WL.val rfl rfl rfl rfl (r_add rfl (ev_t rfl) ev_c) ?_
                     refine WL.val rfl rfl rfl rfl (r_assign rfl (ev_t rfl)) ?_
                     refine WL.nil ?_
                     refine WX.keep [(0, _), (3, _), (4, _), (5, _)] ⟨rfl, rfl, rfl, rfl, trivial⟩ ?_
                     refine WX.meet [(0, _), (3, _), (4, _), (5, _)] ⟨rfl, rfl, rfl, rfl, trivial⟩ ?_
                     have hbs : beN ((p.drop (m + 1)).take (i + 1)) = beN ((p.drop (m + 1)).take i) * 256 + p[m + 1 + i].toNat := by rw [beN_take_succ _ _ (by omega), List.getElem_drop]
                     refine ⟨k - (i + 1), by omega, i + 1, by omega, rfl, hU, hb, hr, ?_⟩
                     rw [hbs, Int.natCast_add, Int.natCast_mul]
                     rfl
                  · try (exfalso; first | (simp at hc7; done) | (simp only [decide_eq_true_eq, decide_eq_false_iff_not, Bool.not_eq_true', Bool.not_eq_false', Bool.not_eq_true, Bool.not_eq_false] at hc7; omega) | omega)
                    all_goals
                     try simp only [decide_eq_true_eq, decide_eq_false_iff_not, Bool.not_eq_true', Bool.not_eq_false', Bool.not_eq_true, Bool.not_eq_false, Option.isNone_none, Option.isNone_some, Option.isSome_none, Option.isSome_some, ne_eq, Decidable.not_not] at hc7
                     obtain rfl : i = k := by omega
                     have hn64 := beN_take_lt8 (p.drop (m + 1)) hk8
                     have lu := encU_length (beN ((p.drop (m + 1)).take i))
                     have lb : blen (beN ((p.drop (m + 1)).take i)) ≤ 8 := blen_le (by simpa using hn64)
                     refine WC.exit ?_
                     refine WX.thenExit ?_
                     refine WX.thenExit ?_
                     refine WX.blockHere ?_
                     refine WX.next ?_
                     refine WC.seq ?_
                     refine WC.seq ?_
                     refine WC.draws' (fun u0_ u1_ => Upd No u0_ u1_) (fun j => [0, 1, 1, 0, 0, 0, 0, 0, 0, 0, 0, 0, 0, 0, 0, 0, 0, 0, 0, 2, 0].getD j 0) (.calm 0 (.calm 3 (.calm 4 (.calm 5 (.calm 7 (.calm 8 (.calm 9 (.calm 11 (.calm 12 (.calm 13 (.calm 15 (.held 6 (.held 10 (.held 14 (.calm 16 (.calm 17 (.calm 18 (.two 1 19 (.two 2 19 (.one 19 (.calm 20 (.done))) (.one 2 (.calm 20 (.done)))) (.one 1 (.one 2 (.calm 20 (.done)))))))))))))))))))))) mixed (by kernel_rfl) (by repeat (first | with_reducible exact Deaf.body | with_reducible apply Deaf.then | with_reducible apply Deaf.block)) ?_
                     intro w7 hu7
                     have hz7 := congrArg Array.size hu7.2.2.2
                     replace hu7 := Upd.of_draw hu7
                     have hs7 := hu7.size
                     replace hU := hU.transA hu7
                     replace hr := hr.upd hu7 (by first | exact (fun _ _ _ h => h) | (intro k hk hl hS; simp only [At] at hS; subst hS; exact hFg hk))
                     replace hb := hb.updA hu7
                     have hS10 := Upd.refl No w7
                     refine WN.calm _ rfl rfl rfl rfl rfl (fun _ => r_move rfl (ev_t rfl)) ?_
                     refine WN.calm _ rfl rfl rfl rfl rfl (fun _ => r_move rfl (ev_t rfl)) ?_
                     refine WN.calm _ rfl rfl rfl rfl rfl (fun _ => r_nilCheck rfl (ev_t rfl)) ?_
                     first | refine WN.calm _ rfl rfl rfl rfl rfl (fun _ => r_field0 rfl (ev_t rfl) fld_77_0) ?_ | refine WN.calm _ rfl rfl rfl rfl rfl (fun _ => r_fieldAt rfl (ev_t rfl) fld_77_0) ?_
                     refine WN.calm _ rfl rfl rfl rfl rfl (fun _ => r_move rfl (ev_t rfl)) ?_
                     refine WN.calm _ rfl rfl rfl rfl rfl (fun _ => r_nilCheck rfl (ev_t rfl)) ?_
                     first | refine WN.calm _ rfl rfl rfl rfl rfl (fun _ => r_field0 rfl (ev_t rfl) fld_77_1) ?_ | refine WN.calm _ rfl rfl rfl rfl rfl (fun _ => r_fieldAt rfl (ev_t rfl) fld_77_1) ?_
                     refine WN.calm _ rfl rfl rfl rfl rfl (fun _ => r_move rfl (ev_t rfl)) ?_
                     refine WN.calm _ rfl rfl rfl rfl rfl (fun _ => r_nilCheck rfl (ev_t rfl)) ?_
                     first | refine WN.calm _ rfl rfl rfl rfl rfl (fun _ => r_field0 rfl (ev_t rfl) fld_77_1) ?_ | refine WN.calm _ rfl rfl rfl rfl rfl (fun _ => r_fieldAt rfl (ev_t rfl) fld_77_1) ?_
                     refine WN.calm _ rfl rfl rfl rfl rfl (fun _ => r_move rfl (ev_t rfl)) ?_
                     refine WN.held _ rfl rfl rfl rfl rfl hS10 (fun w' hS => r_load rfl (ev_t rfl) flat_23 (Blk.cell (hb.upd hS (fun h => h)) rfl)) ?_
                     refine WN.held _ rfl rfl rfl rfl rfl hS10 (fun w' hS => r_load rfl (ev_t rfl) flat_3 (Blk.cell (hb.upd hS (fun h => h)) rfl)) ?_
                     refine WN.held _ rfl rfl rfl rfl rfl hS10 (fun w' hS => r_load rfl (ev_t rfl) flat_3 (Blk.cell (hb.upd hS (fun h => h)) rfl)) ?_
                     first | refine WN.calm _ rfl rfl rfl rfl rfl (fun _ => r_addN rfl (ev_t rfl) (ev_t rfl) (by simp only [inK]; omega)) ?_ | refine WN.calm _ rfl rfl rfl rfl rfl (fun _ => r_add rfl (ev_t rfl) (ev_t rfl)) ?_
                     first | refine WN.calm _ rfl rfl rfl rfl rfl (fun _ => r_addN rfl (ev_t rfl) ev_c (by simp only [inK]; omega)) ?_ | refine WN.calm _ rfl rfl rfl rfl rfl (fun _ => r_add rfl (ev_t rfl) ev_c) ?_
                     refine WN.calm _ rfl rfl rfl rfl rfl (fun _ => r_slice (l := m) (h := m + i + 1) rfl (ev_t rfl) elem_23 size_5 (bnd_some (ev_t rfl) (by omega)) (bnd_some (ev_t rfl) (by omega)) (by omega) (by omega) (by omega)) ?_
                     refine WN.fork _ _ rfl rfl ?_ ?_
                     · refine SO.call (refUint_ok hn64) rfl body_33 ⟨(ev_t rfl), trivial⟩ rfl rfl rfl rfl ?_
                       rintro v1 w8 ⟨ho1, hu8⟩
                       have hs8 := hu8.size
                       replace hS10 := Upd.transA hS10 hu8
                       replace hU := hU.transA hu8
                       replace hr := hr.upd hu8 (by first | exact (fun _ _ _ h => h) | (intro k hk hl hS; simp only [At] at hS; subst hS; exact hFg hk))
                       replace hb := hb.updA hu8
                       obtain ⟨A1, c1, rfl, hc1'⟩ := Own.form ho1
                       refine ⟨hS10, ?_⟩
                       refine WN.fork _ _ rfl rfl ?_ ?_
                       · refine SO.val rfl rfl rfl rfl (r_toStr rfl (ev_t rfl) (ho1.rd (by omega)) elem_23 int_5 str_9) ?_
                         refine ⟨hS10, ?_⟩
                         refine WN.step _ rfl (SO.val rfl rfl rfl rfl (r_toStr rfl (ev_t rfl) (hr.sliceB (lo := m) (h := m + i + 1) (by omega) (by omega)) elem_23 int_5 str_9) ?_)
                         refine ⟨trivial, ?_⟩
                         refine WN.calm _ rfl rfl rfl rfl rfl (fun _ => r_neqStr rfl (ev_t rfl) (ev_t rfl)) ?_
                         refine WN.done ?_
                         refine WX.keep [(0, _), (3, _), (4, _), (115, _)] ⟨rfl, rfl, rfl, rfl, trivial⟩ ?_
                         refine WX.next ?_
                         refine WC.cond rfl (ev_t rfl) (fun hc10 => ?_) (fun hc10 => ?_)
                         · try (exfalso; first | (simp at hc10; done) | (simp only [decide_eq_true_eq, decide_eq_false_iff_not, Bool.not_eq_true', Bool.not_eq_false', Bool.not_eq_true, Bool.not_eq_false] at hc10; omega) | omega)
                           all_goals
                            try simp only [decide_eq_true_eq, decide_eq_false_iff_not, Bool.not_eq_true', Bool.not_eq_false', Bool.not_eq_true, Bool.not_eq_false, Option.isNone_none, Option.isNone_some, Option.isSome_none, Option.isSome_some, ne_eq, Decidable.not_not] at hc10
                            rw [mk_toList, mk_toList, show m + i + 1 - m = i + 1 by omega] at hc10
                            subst hk
                            have hen := enc_slice hml hk8 hkl
                            refine WC.seq ?_
                            refine WC.region ?_
                            refine WL.val rfl rfl rfl rfl (r_move rfl (ev_t rfl)) ?_
                            refine WL.val rfl rfl rfl rfl (r_nilCheck rfl (ev_t rfl)) ?_
                            first | refine WL.val rfl rfl rfl rfl (r_field0 rfl (ev_t rfl) fld_77_1) ?_ | refine WL.val rfl rfl rfl rfl (r_fieldAt rfl (ev_t rfl) fld_77_1) ?_
                            refine WL.cons (SO.store rfl (ev_t rfl) ev_c size_3 hb rfl rfl rfl rfl rfl ?_)
                            intro w9 hu9 hb hz9
                            have hs9 := hu9.size
                            replace hU := hU.transA hu9
                            replace hr := hr.upd hu9 (by first | exact (fun _ _ _ h => h) | (intro k hk hl hS; simp only [At] at hS; subst hS; exact hFg hk))
                            replace ho1 := ho1.updA hu9
                            refine WL.nil ?_
                            refine WX.keep [] trivial ?_
                            refine WX.next ?_
                            refine WC.seq ?_
                            refine WC.region ?_
                            refine WL.val rfl rfl rfl rfl (r_assign rfl ev_c) ?_
                            refine WL.nil ?_
                            refine WX.keep [(2, _)] ⟨rfl, trivial⟩ ?_
                            refine WX.next ?_
                            refine WC.ret ?_
                            refine WX.thenRet ?_
                            refine WX.retE1 rfl rfl ?_
                            have hd : decU (p.drop m) = none := by rw [decU_drop hml, if_neg (fun h => hc10 (hen.2 h.2.2))]
                            simp only [uintR, hd, Prod.mk.injEq] at hx
                            obtain ⟨rfl, rfl⟩ := hx
                            exact ⟨rfl, ⟨_, c, -1, hb, hr, rfl⟩, hU⟩
                         · try (exfalso; first | (simp at hc10; done) | (simp only [decide_eq_true_eq, decide_eq_false_iff_not, Bool.not_eq_true', Bool.not_eq_false', Bool.not_eq_true, Bool.not_eq_false] at hc10; omega) | omega)
                           all_goals
                            try simp only [decide_eq_true_eq, decide_eq_false_iff_not, Bool.not_eq_true', Bool.not_eq_false', Bool.not_eq_true, Bool.not_eq_false, Option.isNone_none, Option.isNone_some, Option.isSome_none, Option.isSome_some, ne_eq, Decidable.not_not] at hc10
                            rw [mk_toList, mk_toList, show m + i + 1 - m = i + 1 by omega] at hc10
                            subst hk
                            have hen := enc_slice hml hk8 hkl
                            refine WC.skip ?_
                            refine WX.next ?_
                            refine WC.seq ?_
                            refine WC.region ?_
                            refine WL.val rfl rfl rfl rfl (r_move rfl (ev_t rfl)) ?_
                            refine WL.val rfl rfl rfl rfl (r_nilCheck rfl (ev_t rfl)) ?_
                            first | refine WL.val rfl rfl rfl rfl (r_field0 rfl (ev_t rfl) fld_77_1) ?_ | refine WL.val rfl rfl rfl rfl (r_fieldAt rfl (ev_t rfl) fld_77_1) ?_
                            refine WL.val rfl rfl rfl rfl (r_load rfl (ev_t rfl) flat_3 (Blk.cell hb rfl)) ?_
                            refine WL.val rfl rfl rfl rfl (r_move rfl (ev_t rfl)) ?_
                            first | refine WL.val rfl rfl rfl rfl (r_addN rfl (ev_t rfl) ev_c (by simp only [inK]; omega)) ?_ | refine WL.val rfl rfl rfl rfl (r_add rfl (ev_t rfl) ev_c) ?_
                            first | refine WL.val rfl rfl rfl rfl (r_addN rfl (ev_t rfl) (ev_t rfl) (by simp only [inK]; omega)) ?_ | refine WL.val rfl rfl rfl rfl (r_add rfl (ev_t rfl) (ev_t rfl)) ?_
                            refine WL.val rfl rfl rfl rfl (r_nilCheck rfl (ev_t rfl)) ?_
                            first | refine WL.val rfl rfl rfl rfl (r_field0 rfl (ev_t rfl) fld_77_1) ?_ | refine WL.val rfl rfl rfl rfl (r_fieldAt rfl (ev_t rfl) fld_77_1) ?_
                            refine WL.cons (SO.store rfl (ev_t rfl) (ev_t rfl) size_3 hb rfl rfl rfl rfl rfl ?_)
                            intro w10 hu10 hb hz10
                            have hs10 := hu10.size
                            replace hU := hU.transA hu10
                            replace hr := hr.upd hu10 (by first | exact (fun _ _ _ h => h) | (intro k hk hl hS; simp only [At] at hS; subst hS; exact hFg hk))
                            replace ho1 := ho1.updA hu10
                            refine WL.nil ?_
                            refine WX.keep [(3, _)] ⟨rfl, trivial⟩ ?_
                            refine WX.next ?_
                            refine WC.seq ?_
                            refine WC.region ?_
                            refine WL.val rfl rfl rfl rfl (r_move rfl (ev_t rfl)) ?_
                            refine WL.val rfl rfl rfl rfl (r_assign rfl (ev_t rfl)) ?_
                            refine WL.nil ?_
                            refine WX.keep [(2, _)] ⟨rfl, trivial⟩ ?_
                            refine WX.next ?_
                            refine WC.ret ?_
                            refine WX.retE1 rfl rfl ?_
                            have hd : decU (p.drop m) = some (beN ((p.drop (m + 1)).take p[m].toNat), p.drop (m + 1 + p[m].toNat)) := by rw [decU_drop hml, if_pos ⟨hk8, hkl, hen.1 hc10⟩]
                            simp only [uintR, hd, Prod.mk.injEq] at hx
                            obtain ⟨rfl, rfl⟩ := hx
                            exact ⟨rfl, ⟨_, c, _, hb, hr, m + 1 + p[m].toNat, by push_cast; omega, by omega, rfl⟩, hU⟩
                       · refine SO.val rfl rfl rfl rfl (r_toStr rfl (ev_t rfl) (hr.sliceB (lo := m) (h := m + i + 1) (by omega) (by omega)) elem_23 int_5 str_9) ?_
                         refine ⟨trivial, ?_⟩
                         refine WN.step _ rfl (SO.val rfl rfl rfl rfl (r_toStr rfl (ev_t rfl) (ho1.rd (by omega)) elem_23 int_5 str_9) ?_)
                         refine ⟨hS10, ?_⟩
                         refine WN.calm _ rfl rfl rfl rfl rfl (fun _ => r_neqStr rfl (ev_t rfl) (ev_t rfl)) ?_
                         refine WN.done ?_
                         refine WX.keep [(0, _), (3, _), (4, _), (115, _)] ⟨rfl, rfl, rfl, rfl, trivial⟩ ?_
                         refine WX.next ?_
                         refine WC.cond rfl (ev_t rfl) (fun hc10 => ?_) (fun hc10 => ?_)
                         · try (exfalso; first | (simp at hc10; done) | (simp only [decide_eq_true_eq, decide_eq_false_iff_not, Bool.not_eq_true', Bool.not_eq_false', Bool.not_eq_true, Bool.not_eq_false] at hc10; omega) | omega)
                           all_goals
                            try simp only [decide_eq_true_eq, decide_eq_false_iff_not, Bool.not_eq_true', Bool.not_eq_false', Bool.not_eq_true, Bool.not_eq_false, Option.isNone_none, Option.isNone_some, Option.isSome_none, Option.isSome_some, ne_eq, Decidable.not_not] at hc10
                            rw [mk_toList, mk_toList, show m + i + 1 - m = i + 1 by omega] at hc10
                            subst hk
                            have hen := enc_slice hml hk8 hkl
                            refine WC.seq ?_
                            refine WC.region ?_
                            refine WL.val rfl rfl rfl rfl (r_move rfl (ev_t rfl)) ?_
                            refine WL.val rfl rfl rfl rfl (r_nilCheck rfl (ev_t rfl)) ?_
                            first | refine WL.val rfl rfl rfl rfl (r_field0 rfl (ev_t rfl) fld_77_1) ?_ | refine WL.val rfl rfl rfl rfl (r_fieldAt rfl (ev_t rfl) fld_77_1) ?_
                            refine WL.cons (SO.store rfl (ev_t rfl) ev_c size_3 hb rfl rfl rfl rfl rfl ?_)
                            intro w11 hu11 hb hz11
                            have hs11 := hu11.size
                            replace hU := hU.transA hu11
                            replace hr := hr.upd hu11 (by first | exact (fun _ _ _ h => h) | (intro k hk hl hS; simp only [At] at hS; subst hS; exact hFg hk))
                            replace ho1 := ho1.updA hu11
                            refine WL.nil ?_
                            refine WX.keep [] trivial ?_
                            refine WX.next ?_
                            refine WC.seq ?_
                            refine WC.region ?_
                            refine WL.val rfl rfl rfl rfl (r_assign rfl ev_c) ?_
                            refine WL.nil ?_
                            refine WX.keep [(2, _)] ⟨rfl, trivial⟩ ?_
                            refine WX.next ?_
                            refine WC.ret ?_
                            refine WX.thenRet ?_
                            refine WX.retE1 rfl rfl ?_
                            have hd : decU (p.drop m) = none := by rw [decU_drop hml, if_neg (fun h => hc10 (hen.2 h.2.2))]
                            simp only [uintR, hd, Prod.mk.injEq] at hx
                            obtain ⟨rfl, rfl⟩ := hx
                            exact ⟨rfl, ⟨_, c, -1, hb, hr, rfl⟩, hU⟩
                         · try (exfalso; first | (simp at hc10; done) | (simp only [decide_eq_true_eq, decide_eq_false_iff_not, Bool.not_eq_true', Bool.not_eq_false', Bool.not_eq_true, Bool.not_eq_false] at hc10; omega) | omega)
                           all_goals
                            try simp only [decide_eq_true_eq, decide_eq_false_iff_not, Bool.not_eq_true', Bool.not_eq_false', Bool.not_eq_true, Bool.not_eq_false, Option.isNone_none, Option.isNone_some, Option.isSome_none, Option.isSome_some, ne_eq, Decidable.not_not] at hc10
                            rw [mk_toList, mk_toList, show m + i + 1 - m = i + 1 by omega] at hc10
                            subst hk
                            have hen := enc_slice hml hk8 hkl
                            refine WC.skip ?_
                            refine WX.next ?_
                            refine WC.seq ?_
                            refine WC.region ?_
                            refine WL.val rfl rfl rfl rfl (r_move rfl (ev_t rfl)) ?_
                            refine WL.val rfl rfl rfl rfl (r_nilCheck rfl (ev_t rfl)) ?_
                            first | refine WL.val rfl rfl rfl rfl (r_field0 rfl (ev_t rfl) fld_77_1) ?_ | refine WL.val rfl rfl rfl rfl (r_fieldAt rfl (ev_t rfl) fld_77_1) ?_
                            refine WL.val rfl rfl rfl rfl (r_load rfl (ev_t rfl) flat_3 (Blk.cell hb rfl)) ?_
                            refine WL.val rfl rfl rfl rfl (r_move rfl (ev_t rfl)) ?_
                            first | refine WL.val rfl rfl rfl rfl (r_addN rfl (ev_t rfl) ev_c (by simp only [inK]; omega)) ?_ | refine WL.val rfl rfl rfl rfl (r_add rfl (ev_t rfl) ev_c) ?_
                            first | refine WL.val rfl rfl rfl rfl (r_addN rfl (ev_t rfl) (ev_t rfl) (by simp only [inK]; omega)) ?_ | refine WL.val rfl rfl rfl rfl (r_add rfl (ev_t rfl) (ev_t rfl)) ?_
                            refine WL.val rfl rfl rfl rfl (r_nilCheck rfl (ev_t rfl)) ?_
                            first | refine WL.val rfl rfl rfl rfl (r_field0 rfl (ev_t rfl) fld_77_1) ?_ | refine WL.val rfl rfl rfl rfl (r_fieldAt rfl (ev_t rfl) fld_77_1) ?_
                            refine WL.cons (SO.store rfl (ev_t rfl) (ev_t rfl) size_3 hb rfl rfl rfl rfl rfl ?_)
                            intro w12 hu12 hb hz12
                            have hs12 := hu12.size
                            replace hU := hU.transA hu12
                            replace hr := hr.upd hu12 (by first | exact (fun _ _ _ h => h) | (intro k hk hl hS; simp only [At] at hS; subst hS; exact hFg hk))
                            replace ho1 := ho1.updA hu12
                            refine WL.nil ?_
                            refine WX.keep [(3, _)] ⟨rfl, trivial⟩ ?_
                            refine WX.next ?_
                            refine WC.seq ?_
                            refine WC.region ?_
                            refine WL.val rfl rfl rfl rfl (r_move rfl (ev_t rfl)) ?_
                            refine WL.val rfl rfl rfl rfl (r_assign rfl (ev_t rfl)) ?_
                            refine WL.nil ?_
                            refine WX.keep [(2, _)] ⟨rfl, trivial⟩ ?_
                            refine WX.next ?_
                            refine WC.ret ?_
                            refine WX.retE1 rfl rfl ?_
                            have hd : decU (p.drop m) = some (beN ((p.drop (m + 1)).take p[m].toNat), p.drop (m + 1 + p[m].toNat)) := by rw [decU_drop hml, if_pos ⟨hk8, hkl, hen.1 hc10⟩]
                            simp only [uintR, hd, Prod.mk.injEq] at hx
                            obtain ⟨rfl, rfl⟩ := hx
                            exact ⟨rfl, ⟨_, c, _, hb, hr, m + 1 + p[m].toNat, by push_cast; omega, by omega, rfl⟩, hU⟩
                     · refine SO.val rfl rfl rfl rfl (r_toStr rfl (ev_t rfl) (hr.sliceB (lo := m) (h := m + i + 1) (by omega) (by omega)) elem_23 int_5 str_9) ?_
                       refine ⟨trivial, ?_⟩
                       refine WN.step _ rfl (SO.call (refUint_ok hn64) rfl body_33 ⟨(ev_t rfl), trivial⟩ rfl rfl rfl rfl ?_)
                       rintro v1 w13 ⟨ho1, hu13⟩
                       have hs13 := hu13.size
                       replace hS10 := Upd.transA hS10 hu13
                       replace hU := hU.transA hu13
                       replace hr := hr.upd hu13 (by first | exact (fun _ _ _ h => h) | (intro k hk hl hS; simp only [At] at hS; subst hS; exact hFg hk))
                       replace hb := hb.updA hu13
                       obtain ⟨A1, c1, rfl, hc1'⟩ := Own.form ho1
                       refine ⟨hS10, ?_⟩
                       refine WN.step _ rfl (SO.val rfl rfl rfl rfl (r_toStr rfl (ev_t rfl) (ho1.rd (by omega)) elem_23 int_5 str_9) ?_)
                       refine ⟨hS10, ?_⟩
                       refine WN.calm _ rfl rfl rfl rfl rfl (fun _ => r_neqStr rfl (ev_t rfl) (ev_t rfl)) ?_
                       refine WN.done ?_
                       refine WX.keep [(0, _), (3, _), (4, _), (115, _)] ⟨rfl, rfl, rfl, rfl, trivial⟩ ?_
                       refine WX.next ?_
                       refine WC.cond rfl (ev_t rfl) (fun hc10 => ?_) (fun hc10 => ?_)
                       · try (exfalso; first | (simp at hc10; done) | (simp only [decide_eq_true_eq, decide_eq_false_iff_not, Bool.not_eq_true', Bool.not_eq_false', Bool.not_eq_true, Bool.not_eq_false] at hc10; omega) | omega)
                         all_goals
                          try simp only [decide_eq_true_eq, decide_eq_false_iff_not, Bool.not_eq_true', Bool.not_eq_false', Bool.not_eq_true, Bool.not_eq_false, Option.isNone_none, Option.isNone_some, Option.isSome_none, Option.isSome_some, ne_eq, Decidable.not_not] at hc10
                          rw [mk_toList, mk_toList, show m + i + 1 - m = i + 1 by omega] at hc10
                          subst hk
                          have hen := enc_slice hml hk8 hkl
                          refine WC.seq ?_
                          refine WC.region ?_
                          refine WL.val rfl rfl rfl rfl (r_move rfl (ev_t rfl)) ?_
                          refine WL.val rfl rfl rfl rfl (r_nilCheck rfl (ev_t rfl)) ?_
                          first | refine WL.val rfl rfl rfl rfl (r_field0 rfl (ev_t rfl) fld_77_1) ?_ | refine WL.val rfl rfl rfl rfl (r_fieldAt rfl (ev_t rfl) fld_77_1) ?_
                          refine WL.cons (SO.store rfl (ev_t rfl) ev_c size_3 hb rfl rfl rfl rfl rfl ?_)
                          intro w14 hu14 hb hz14
                          have hs14 := hu14.size
                          replace hU := hU.transA hu14
                          replace hr := hr.upd hu14 (by first | exact (fun _ _ _ h => h) | (intro k hk hl hS; simp only [At] at hS; subst hS; exact hFg hk))
                          replace ho1 := ho1.updA hu14
                          refine WL.nil ?_
                          refine WX.keep [] trivial ?_
                          refine WX.next ?_
                          refine WC.seq ?_
                          refine WC.region ?_
                          refine WL.val rfl rfl rfl rfl (r_assign rfl ev_c) ?_
                          refine WL.nil ?_
                          refine WX.keep [(2, _)] ⟨rfl, trivial⟩ ?_
                          refine WX.next ?_
                          refine WC.ret ?_
                          refine WX.thenRet ?_
                          refine WX.retE1 rfl rfl ?_
                          have hd : decU (p.drop m) = none := by rw [decU_drop hml, if_neg (fun h => hc10 (hen.2 h.2.2))]
                          simp only [uintR, hd, Prod.mk.injEq] at hx
                          obtain ⟨rfl, rfl⟩ := hx
                          exact ⟨rfl, ⟨_, c, -1, hb, hr, rfl⟩, hU⟩
                       · try (exfalso; first | (simp at hc10; done) | (simp only [decide_eq_true_eq, decide_eq_false_iff_not, Bool.not_eq_true', Bool.not_eq_false', Bool.not_eq_true, Bool.not_eq_false] at hc10; omega) | omega)
                         all_goals
                          try simp only [decide_eq_true_eq, decide_eq_false_iff_not, Bool.not_eq_true', Bool.not_eq_false', Bool.not_eq_true, Bool.not_eq_false, Option.isNone_none, Option.isNone_some, Option.isSome_none, Option.isSome_some, ne_eq, Decidable.not_not] at hc10
                          rw [mk_toList, mk_toList, show m + i + 1 - m = i + 1 by omega] at hc10
                          subst hk
                          have hen := enc_slice hml hk8 hkl
                          refine WC.skip ?_
                          refine WX.next ?_
                          refine WC.seq ?_
                          refine WC.region ?_
                          refine WL.val rfl rfl rfl rfl (r_move rfl (ev_t rfl)) ?_
                          refine WL.val rfl rfl rfl rfl (r_nilCheck rfl (ev_t rfl)) ?_
                          first | refine WL.val rfl rfl rfl rfl (r_field0 rfl (ev_t rfl) fld_77_1) ?_ | refine WL.val rfl rfl rfl rfl (r_fieldAt rfl (ev_t rfl) fld_77_1) ?_
                          refine WL.val rfl rfl rfl rfl (r_load rfl (ev_t rfl) flat_3 (Blk.cell hb rfl)) ?_
                          refine WL.val rfl rfl rfl rfl (r_move rfl (ev_t rfl)) ?_
                          first | refine WL.val rfl rfl rfl rfl (r_addN rfl (ev_t rfl) ev_c (by simp only [inK]; omega)) ?_ | refine WL.val rfl rfl rfl rfl (r_add rfl (ev_t rfl) ev_c) ?_
                          first | refine WL.val rfl rfl rfl rfl (r_addN rfl (ev_t rfl) (ev_t rfl) (by simp only [inK]; omega)) ?_ | refine WL.val rfl rfl rfl rfl (r_add rfl (ev_t rfl) (ev_t rfl)) ?_
                          refine WL.val rfl rfl rfl rfl (r_nilCheck rfl (ev_t rfl)) ?_
                          first | refine WL.val rfl rfl rfl rfl (r_field0 rfl (ev_t rfl) fld_77_1) ?_ | refine WL.val rfl rfl rfl rfl (r_fieldAt rfl (ev_t rfl) fld_77_1) ?_
                          refine WL.cons (SO.store rfl (ev_t rfl) (ev_t rfl) size_3 hb rfl rfl rfl rfl rfl ?_)
                          intro w15 hu15 hb hz15
                          have hs15 := hu15.size
                          replace hU := hU.transA hu15
                          replace hr := hr.upd hu15 (by first | exact (fun _ _ _ h => h) | (intro k hk hl hS; simp only [At] at hS; subst hS; exact hFg hk))
                          replace ho1 := ho1.updA hu15
                          refine WL.nil ?_
                          refine WX.keep [(3, _)] ⟨rfl, trivial⟩ ?_
                          refine WX.next ?_
                          refine WC.seq ?_
                          refine WC.region ?_
                          refine WL.val rfl rfl rfl rfl (r_move rfl (ev_t rfl)) ?_
                          refine WL.val rfl rfl rfl rfl (r_assign rfl (ev_t rfl)) ?_
                          refine WL.nil ?_
                          refine WX.keep [(2, _)] ⟨rfl, trivial⟩ ?_
                          refine WX.next ?_
                          refine WC.ret ?_
                          refine WX.retE1 rfl rfl ?_
                          have hd : decU (p.drop m) = some (beN ((p.drop (m + 1)).take p[m].toNat), p.drop (m + 1 + p[m].toNat)) := by rw [decU_drop hml, if_pos ⟨hk8, hkl, hen.1 hc10⟩]
                          simp only [uintR, hd, Prod.mk.injEq] at hx
                          obtain ⟨rfl, rfl⟩ := hx
                          exact ⟨rfl, ⟨_, c, _, hb, hr, m + 1 + p[m].toNat, by push_cast; omega, by omega, rfl⟩, hU⟩
end Go.Proofs.Ytipabhbnljadfaa

/-
  The reference's reader: Int, Upto, Bytes.
-/
namespace Go.Proofs.Ytipabhbnljadfaa
open Go
set_option linter.unusedSimpArgs false
set_option linter.unusedVariables false

theorem mUpto_ok {w : World} {F : Nat → Prop} {g : Nat} {p : List UInt8} {s s' : Option (List UInt8)} {x : Nat} {most : Int} (h : IsM w F g p s) (hFg : ¬ F g) (hm : inK .i64 most) (hx : uptoR most s = (x, s')) :
    Ret Try.prog 35 #[.pointer (some ⟨g, 0, none⟩), .int .i64 most] w fun v w' => v = .int .i64 (x : Int) ∧ IsM w' F g p s' ∧ Upd (At g) w w' := by
  have hlt := uintR_lt s
  simp only [inK] at hm
  cases hu : uintR s with | mk y s1 =>
  rw [hu] at hlt
  simp only at hlt
  have hgl : g < w.heap.size := by
    obtain ⟨_, _, _, hb, _⟩ := h
    exact hb.lt
  refine enterRet (vs := [_, _]) (N := 28) Try.func35 rfl rfl rfl ?_
  have hU := Upd.refl (At g) w
  refine WC.keep [(0, _), (1, _)] ⟨rfl, rfl, trivial⟩ ?_
  refine WC.seq ?_
  refine WC.region ?_
  refine WL.val rfl rfl rfl rfl (r_assign rfl ev_c) ?_
  refine WL.nil ?_
  refine WX.keep [(0, _), (1, _)] ⟨rfl, rfl, trivial⟩ ?_
  refine WX.next ?_
  refine WC.seq ?_
  refine WC.region ?_
  refine WL.val rfl rfl rfl rfl (r_move rfl (ev_t rfl)) ?_
  refine WL.cons (SO.call (mUint_ok h hFg hu) rfl body_36 ⟨(ev_t rfl), trivial⟩ rfl rfl rfl rfl ?_)
  rintro v w1 ⟨rfl, hI, hu1⟩
  have hs1 := hu1.size
  replace hU := hU.transA hu1
  obtain ⟨A, c, at_, hb, hr, hs⟩ := hI
  refine WL.val rfl rfl rfl rfl (r_assign rfl (ev_t rfl)) ?_
  refine WL.nil ?_
  refine WX.keep [(0, _), (1, _), (5, _)] ⟨rfl, rfl, rfl, trivial⟩ ?_
  refine WX.next ?_
  refine WC.seq ?_
  refine WC.seq ?_
  refine WC.region ?_
  refine WL.val rfl rfl rfl rfl (r_move rfl (ev_t rfl)) ?_
  refine WL.val rfl rfl rfl rfl (r_nilCheck rfl (ev_t rfl)) ?_
  first | refine WL.val rfl rfl rfl rfl (r_field0 rfl (ev_t rfl) fld_77_1) ?_ | refine WL.val rfl rfl rfl rfl (r_fieldAt rfl (ev_t rfl) fld_77_1) ?_
  refine WL.val rfl rfl rfl rfl (r_load rfl (ev_t rfl) flat_3 (Blk.cell hb rfl)) ?_
  refine WL.val rfl rfl rfl rfl (r_lss rfl (ev_t rfl) ev_c) ?_
  refine WL.val rfl rfl rfl rfl (r_move rfl (ev_t rfl)) ?_
  refine WL.cases 13 rfl (fun hb2_5 => ?_) (fun hb2_5 => ?_)
  · try (exfalso; first | (simp at hb2_5; done) | (simp only [decide_eq_true_eq, decide_eq_false_iff_not, Bool.not_eq_true', Bool.not_eq_false', Bool.not_eq_true, Bool.not_eq_false] at hb2_5; omega) | omega)
    all_goals
     try simp only [decide_eq_true_eq, decide_eq_false_iff_not, Bool.not_eq_true', Bool.not_eq_false', Bool.not_eq_true, Bool.not_eq_false, Option.isNone_none, Option.isNone_some, Option.isSome_none, Option.isSome_some, ne_eq, Decidable.not_not] at hb2_5
     refine WL.skip rfl rfl rfl ?_
     refine WL.skip rfl rfl rfl ?_
     refine WL.val rfl rfl rfl rfl (r_pickT rfl (ev_t rfl) ev_c) ?_
     refine WL.val rfl rfl rfl rfl (r_move rfl (ev_t rfl)) ?_
     refine WL.skip rfl rfl rfl ?_
     refine WL.skip rfl rfl rfl ?_
     refine WL.skip rfl rfl rfl ?_
     refine WL.skip rfl rfl rfl ?_
     refine WL.val rfl rfl rfl rfl (r_pickT rfl (ev_t rfl) ev_c) ?_
     refine WL.nil ?_
     refine WX.keep [(0, _), (5, _), (22, _)] ⟨rfl, rfl, rfl, trivial⟩ ?_
     refine WX.next ?_
     refine WC.cond_true rfl (ev_t rfl) ?_
     refine WC.seq ?_
     refine WC.region ?_
     refine WL.val rfl rfl rfl rfl (r_move rfl (ev_t rfl)) ?_
     refine WL.val rfl rfl rfl rfl (r_nilCheck rfl (ev_t rfl)) ?_
     first | refine WL.val rfl rfl rfl rfl (r_field0 rfl (ev_t rfl) fld_77_1) ?_ | refine WL.val rfl rfl rfl rfl (r_fieldAt rfl (ev_t rfl) fld_77_1) ?_
     refine WL.cons (SO.store rfl (ev_t rfl) ev_c size_3 hb rfl rfl rfl rfl rfl ?_)
     intro w2 hu2 hb hz2
     have hs2 := hu2.size
     replace hU := hU.transA hu2
     replace hr := hr.upd hu2 (by first | exact (fun _ _ _ h => h) | (intro k hk hl hS; simp only [At] at hS; subst hS; exact hFg hk))
     refine WL.nil ?_
     refine WX.keep [] trivial ?_
     refine WX.next ?_
     refine WC.seq ?_
     refine WC.region ?_
     refine WL.val rfl rfl rfl rfl (r_assign rfl ev_c) ?_
     refine WL.nil ?_
     refine WX.keep [(4, _)] ⟨rfl, trivial⟩ ?_
     refine WX.next ?_
     refine WC.ret ?_
     refine WX.thenRet ?_
     refine WX.retE1 rfl rfl ?_
     have e : uptoR most s = (0, none) := by
       unfold uptoR
       rw [hu]
       cases s1 with
       | none => rfl
       | some r =>
         obtain ⟨m, rfl, _⟩ := hs
         exact if_neg (by omega)
     rw [e] at hx
     simp only [Prod.mk.injEq] at hx
     obtain ⟨rfl, rfl⟩ := hx
     exact ⟨rfl, ⟨A, c, -1, hb, hr, rfl⟩, hU⟩
  · try (exfalso; first | (simp at hb2_5; done) | (simp only [decide_eq_true_eq, decide_eq_false_iff_not, Bool.not_eq_true', Bool.not_eq_false', Bool.not_eq_true, Bool.not_eq_false] at hb2_5; omega) | omega)
    all_goals
     try simp only [decide_eq_true_eq, decide_eq_false_iff_not, Bool.not_eq_true', Bool.not_eq_false', Bool.not_eq_true, Bool.not_eq_false, Option.isNone_none, Option.isNone_some, Option.isSome_none, Option.isSome_some, ne_eq, Decidable.not_not] at hb2_5
     refine WL.val rfl rfl rfl rfl (r_move rfl (ev_t rfl)) ?_
     refine WL.val rfl rfl rfl rfl (r_lss rfl (ev_t rfl) ev_c) ?_
     refine WL.val rfl rfl rfl rfl (r_pickF rfl (ev_t rfl) (ev_t rfl)) ?_
     refine WL.val rfl rfl rfl rfl (r_move rfl (ev_t rfl)) ?_
     refine WL.cases 17 rfl (fun hb2_9 => ?_) (fun hb2_9 => ?_)
     · try (exfalso; first | (simp at hb2_9; done) | (simp only [decide_eq_true_eq, decide_eq_false_iff_not, Bool.not_eq_true', Bool.not_eq_false', Bool.not_eq_true, Bool.not_eq_false] at hb2_9; omega) | omega)
       all_goals
        try simp only [decide_eq_true_eq, decide_eq_false_iff_not, Bool.not_eq_true', Bool.not_eq_false', Bool.not_eq_true, Bool.not_eq_false, Option.isNone_none, Option.isNone_some, Option.isSome_none, Option.isSome_some, ne_eq, Decidable.not_not] at hb2_9
        refine WL.skip rfl rfl rfl ?_
        refine WL.skip rfl rfl rfl ?_
        refine WL.skip rfl rfl rfl ?_
        refine WL.skip rfl rfl rfl ?_
        refine WL.val rfl rfl rfl rfl (r_pickT rfl (ev_t rfl) ev_c) ?_
        refine WL.nil ?_
        refine WX.keep [(0, _), (5, _), (22, _)] ⟨rfl, rfl, rfl, trivial⟩ ?_
        refine WX.next ?_
        refine WC.cond_true rfl (ev_t rfl) ?_
        refine WC.seq ?_
        refine WC.region ?_
        refine WL.val rfl rfl rfl rfl (r_move rfl (ev_t rfl)) ?_
        refine WL.val rfl rfl rfl rfl (r_nilCheck rfl (ev_t rfl)) ?_
        first | refine WL.val rfl rfl rfl rfl (r_field0 rfl (ev_t rfl) fld_77_1) ?_ | refine WL.val rfl rfl rfl rfl (r_fieldAt rfl (ev_t rfl) fld_77_1) ?_
        refine WL.cons (SO.store rfl (ev_t rfl) ev_c size_3 hb rfl rfl rfl rfl rfl ?_)
        intro w3 hu3 hb hz3
        have hs3 := hu3.size
        replace hU := hU.transA hu3
        replace hr := hr.upd hu3 (by first | exact (fun _ _ _ h => h) | (intro k hk hl hS; simp only [At] at hS; subst hS; exact hFg hk))
        refine WL.nil ?_
        refine WX.keep [] trivial ?_
        refine WX.next ?_
        refine WC.seq ?_
        refine WC.region ?_
        refine WL.val rfl rfl rfl rfl (r_assign rfl ev_c) ?_
        refine WL.nil ?_
        refine WX.keep [(4, _)] ⟨rfl, trivial⟩ ?_
        refine WX.next ?_
        refine WC.ret ?_
        refine WX.thenRet ?_
        refine WX.retE1 rfl rfl ?_
        have e : uptoR most s = (0, none) := by
          unfold uptoR
          rw [hu]
          cases s1 with
          | none => rfl
          | some r =>
            obtain ⟨m, rfl, _⟩ := hs
            exact if_neg (by omega)
        rw [e] at hx
        simp only [Prod.mk.injEq] at hx
        obtain ⟨rfl, rfl⟩ := hx
        exact ⟨rfl, ⟨A, c, -1, hb, hr, rfl⟩, hU⟩
     · try (exfalso; first | (simp at hb2_9; done) | (simp only [decide_eq_true_eq, decide_eq_false_iff_not, Bool.not_eq_true', Bool.not_eq_false', Bool.not_eq_true, Bool.not_eq_false] at hb2_9; omega) | omega)
       all_goals
        try simp only [decide_eq_true_eq, decide_eq_false_iff_not, Bool.not_eq_true', Bool.not_eq_false', Bool.not_eq_true, Bool.not_eq_false, Option.isNone_none, Option.isNone_some, Option.isSome_none, Option.isSome_some, ne_eq, Decidable.not_not] at hb2_9
        refine WL.val rfl rfl rfl rfl (r_move rfl (ev_t rfl)) ?_
        refine WL.val rfl rfl rfl rfl (r_move rfl (ev_t rfl)) ?_
        first | refine WL.val rfl rfl rfl rfl (r_convN rfl (ev_t rfl) some_3 int_27 (by simp only [inK]; omega)) ?_ | refine WL.val rfl rfl rfl rfl (r_conv rfl (ev_t rfl) some_3 int_27) ?_
        refine WL.val rfl rfl rfl rfl (r_gtr rfl (ev_t rfl) (ev_t rfl)) ?_
        refine WL.val rfl rfl rfl rfl (r_pickF rfl (ev_t rfl) (ev_t rfl)) ?_
        refine WL.nil ?_
        refine WX.keep [(0, _), (5, _), (22, _)] ⟨rfl, rfl, rfl, trivial⟩ ?_
        refine WX.next ?_
        refine WC.cond rfl (ev_t rfl) (fun hc2 => ?_) (fun hc2 => ?_)
        · try (exfalso; first | (simp at hc2; done) | (simp only [decide_eq_true_eq, decide_eq_false_iff_not, Bool.not_eq_true', Bool.not_eq_false', Bool.not_eq_true, Bool.not_eq_false] at hc2; omega) | omega)
          all_goals
           try simp only [decide_eq_true_eq, decide_eq_false_iff_not, Bool.not_eq_true', Bool.not_eq_false', Bool.not_eq_true, Bool.not_eq_false, Option.isNone_none, Option.isNone_some, Option.isSome_none, Option.isSome_some, ne_eq, Decidable.not_not] at hc2
           refine WC.seq ?_
           refine WC.region ?_
           refine WL.val rfl rfl rfl rfl (r_move rfl (ev_t rfl)) ?_
           refine WL.val rfl rfl rfl rfl (r_nilCheck rfl (ev_t rfl)) ?_
           first | refine WL.val rfl rfl rfl rfl (r_field0 rfl (ev_t rfl) fld_77_1) ?_ | refine WL.val rfl rfl rfl rfl (r_fieldAt rfl (ev_t rfl) fld_77_1) ?_
           refine WL.cons (SO.store rfl (ev_t rfl) ev_c size_3 hb rfl rfl rfl rfl rfl ?_)
           intro w4 hu4 hb hz4
           have hs4 := hu4.size
           replace hU := hU.transA hu4
           replace hr := hr.upd hu4 (by first | exact (fun _ _ _ h => h) | (intro k hk hl hS; simp only [At] at hS; subst hS; exact hFg hk))
           refine WL.nil ?_
           refine WX.keep [] trivial ?_
           refine WX.next ?_
           refine WC.seq ?_
           refine WC.region ?_
           refine WL.val rfl rfl rfl rfl (r_assign rfl ev_c) ?_
           refine WL.nil ?_
           refine WX.keep [(4, _)] ⟨rfl, trivial⟩ ?_
           refine WX.next ?_
           refine WC.ret ?_
           refine WX.thenRet ?_
           refine WX.retE1 rfl rfl ?_
           have e : uptoR most s = (0, none) := by
             unfold uptoR
             rw [hu]
             cases s1 with
             | none => rfl
             | some r =>
               obtain ⟨m, rfl, _⟩ := hs
               exact if_neg (by omega)
           rw [e] at hx
           simp only [Prod.mk.injEq] at hx
           obtain ⟨rfl, rfl⟩ := hx
           exact ⟨rfl, ⟨A, c, -1, hb, hr, rfl⟩, hU⟩
        · try (exfalso; first | (simp at hc2; done) | (simp only [decide_eq_true_eq, decide_eq_false_iff_not, Bool.not_eq_true', Bool.not_eq_false', Bool.not_eq_true, Bool.not_eq_false] at hc2; omega) | omega)
          all_goals
           try simp only [decide_eq_true_eq, decide_eq_false_iff_not, Bool.not_eq_true', Bool.not_eq_false', Bool.not_eq_true, Bool.not_eq_false, Option.isNone_none, Option.isNone_some, Option.isSome_none, Option.isSome_some, ne_eq, Decidable.not_not] at hc2
           refine WC.skip ?_
           refine WX.next ?_
           refine WC.seq ?_
           refine WC.region ?_
           refine WL.val rfl rfl rfl rfl (r_move rfl (ev_t rfl)) ?_
           first | refine WL.val rfl rfl rfl rfl (r_convN rfl (ev_t rfl) some_27 int_3 (by simp only [inK]; omega)) ?_ | refine WL.val rfl rfl rfl rfl (r_conv rfl (ev_t rfl) some_27 int_3) ?_
           refine WL.val rfl rfl rfl rfl (r_assign rfl (ev_t rfl)) ?_
           refine WL.nil ?_
           refine WX.keep [(4, _)] ⟨rfl, trivial⟩ ?_
           refine WX.next ?_
           refine WC.ret ?_
           refine WX.retE1 rfl rfl ?_
           have e : uptoR most s = (y, s1) := by
             unfold uptoR
             rw [hu]
             cases s1 with
             | none =>
               simp only [StM] at hs
               omega
             | some r => exact if_pos (by omega)
           rw [e] at hx
           simp only [Prod.mk.injEq] at hx
           obtain ⟨rfl, rfl⟩ := hx
           exact ⟨rfl, ⟨A, c, at_, hb, hr, hs⟩, hU⟩

theorem mBytes_ok {w : World} {F : Nat → Prop} {g : Nat} {p : List UInt8} {s s' : Option (List UInt8)} {l : List UInt8} {most : Int} (h : IsM w F g p s) (hFg : ¬ F g) (hm : inK .i64 most) (hx : bytesR most s = (l, s')) :
    Ret Try.prog 37 #[.pointer (some ⟨g, 0, none⟩), .int .i64 most] w fun v w' => Rd w' F v l.length 1 (l.map U8) ∧ IsM w' F g p s' ∧ Upd (At g) w w' := by
  have hgl : g < w.heap.size := by
    obtain ⟨_, _, _, hb, _⟩ := h
    exact hb.lt
  cases hu : uptoR most s with | mk y s1 =>
  refine enterRet (vs := [_, _]) (N := 56) Try.func37 rfl rfl rfl ?_
  have hU := Upd.refl (At g) w
  refine WC.keep [(0, _), (1, _)] ⟨rfl, rfl, trivial⟩ ?_
  refine WC.seq ?_
  refine WC.region ?_
  refine WL.val rfl rfl rfl rfl (r_assign rfl ev_c) ?_
  refine WL.nil ?_
  refine WX.keep [(0, _), (1, _)] ⟨rfl, rfl, trivial⟩ ?_
  refine WX.next ?_
  refine WC.seq ?_
  refine WC.region ?_
  refine WL.val rfl rfl rfl rfl (r_move rfl (ev_t rfl)) ?_
  refine WL.val rfl rfl rfl rfl (r_move rfl (ev_t rfl)) ?_
  refine WL.cons (SO.call (mUpto_ok h hFg hm hu) rfl body_35 ⟨(ev_t rfl), (ev_t rfl), trivial⟩ rfl rfl rfl rfl ?_)
  rintro v w1 ⟨rfl, hI, hu1⟩
  have hs1 := hu1.size
  replace hU := hU.transA hu1
  obtain ⟨A, c, at_, hb, hr, hs⟩ := hI
  have hpm := hr.le
  have hpc := hr.cap
  refine WL.val rfl rfl rfl rfl (r_assign rfl (ev_t rfl)) ?_
  refine WL.nil ?_
  refine WX.keep [(0, _), (5, _)] ⟨rfl, rfl, trivial⟩ ?_
  refine WX.next ?_
  refine WC.seq ?_
  refine WC.seq ?_
  refine WC.draws' (fun u0_ u1_ => Upd No u0_ u1_) (fun j => [0, 0, 0, 1, 0, 0, 0, 0, 0, 0, 0, 0, 0, 0, 0, 1, 0, 0, 0].getD j 0) (.calm 0 (.calm 1 (.calm 2 (.one 3 (.calm 4 (.calm 5 (.calm 6 (.calm 7 (.calm 8 (.calm 9 (.calm 12 (.calm 13 (.calm 14 (.held 10 (.calm 11 (.one 15 (.calm 16 (.calm 17 (.calm 18 (.done)))))))))))))))))))) mixed (by kernel_rfl) (by repeat (first | with_reducible exact Deaf.body | with_reducible apply Deaf.then | with_reducible apply Deaf.block)) ?_
  intro w2 hu2
  have hz2 := congrArg Array.size hu2.2.2.2
  replace hu2 := Upd.of_draw hu2
  have hs2 := hu2.size
  replace hU := hU.transA hu2
  replace hb := hb.updA hu2
  replace hr := hr.upd hu2 (by first | exact (fun _ _ _ h => h) | (intro k hk hl hS; simp only [At] at hS; subst hS; exact hFg hk))
  have hS2 := Upd.refl No w2
  refine WN.calm _ rfl rfl rfl rfl rfl (fun _ => r_move rfl (ev_t rfl)) ?_
  refine WN.calm _ rfl rfl rfl rfl rfl (fun _ => r_nilCheck rfl (ev_t rfl)) ?_
  first | refine WN.calm _ rfl rfl rfl rfl rfl (fun _ => r_field0 rfl (ev_t rfl) fld_77_1) ?_ | refine WN.calm _ rfl rfl rfl rfl rfl (fun _ => r_fieldAt rfl (ev_t rfl) fld_77_1) ?_
  refine WN.step _ rfl (SO.val rfl rfl rfl rfl (r_load rfl (ev_t rfl) flat_3 (Blk.cell hb rfl)) ?_)
  refine ⟨hS2, ?_⟩
  refine WN.calm _ rfl rfl rfl rfl rfl (fun _ => r_lss rfl (ev_t rfl) ev_c) ?_
  refine WN.calm _ rfl rfl rfl rfl rfl (fun _ => r_move rfl (ev_t rfl)) ?_
  refine WN.cases 15 rfl (fun hb2_5 => ?_) (fun hb2_5 => ?_)
  · try (exfalso; first | (simp at hb2_5; done) | (simp only [decide_eq_true_eq, decide_eq_false_iff_not, Bool.not_eq_true', Bool.not_eq_false', Bool.not_eq_true, Bool.not_eq_false] at hb2_5; omega) | omega)
    all_goals
     try simp only [decide_eq_true_eq, decide_eq_false_iff_not, Bool.not_eq_true', Bool.not_eq_false', Bool.not_eq_true, Bool.not_eq_false, Option.isNone_none, Option.isNone_some, Option.isSome_none, Option.isSome_some, ne_eq, Decidable.not_not] at hb2_5
     refine WN.skip _ rfl rfl rfl rfl ?_
     refine WN.skip _ rfl rfl rfl rfl ?_
     refine WN.skip _ rfl rfl rfl rfl ?_
     refine WN.skip _ rfl rfl rfl rfl ?_
     refine WN.skip _ rfl rfl rfl rfl ?_
     refine WN.skip _ rfl rfl rfl rfl ?_
     refine WN.skip _ rfl rfl rfl rfl ?_
     refine WN.heldSkip _ rfl rfl rfl rfl hS2 ?_
     refine WN.skip _ rfl rfl rfl rfl ?_
     refine WN.step _ rfl (SO.skip rfl rfl rfl ?_)
     refine ⟨hS2, ?_⟩
     refine WN.skip _ rfl rfl rfl rfl ?_
     refine WN.skip _ rfl rfl rfl rfl ?_
     refine WN.calm _ rfl rfl rfl rfl rfl (fun _ => r_pickT rfl (ev_t rfl) ev_c) ?_
     refine WN.done ?_
     refine WX.keep [(0, _), (5, _), (28, _)] ⟨rfl, rfl, rfl, trivial⟩ ?_
     refine WX.next ?_
     refine WC.cond_true rfl (ev_t rfl) ?_
     refine WC.seq ?_
     refine WC.region ?_
     refine WL.val rfl rfl rfl rfl (r_move rfl (ev_t rfl)) ?_
     refine WL.val rfl rfl rfl rfl (r_nilCheck rfl (ev_t rfl)) ?_
     first | refine WL.val rfl rfl rfl rfl (r_field0 rfl (ev_t rfl) fld_77_1) ?_ | refine WL.val rfl rfl rfl rfl (r_fieldAt rfl (ev_t rfl) fld_77_1) ?_
     refine WL.cons (SO.store rfl (ev_t rfl) ev_c size_3 hb rfl rfl rfl rfl rfl ?_)
     intro w3 hu3 hb hz3
     have hs3 := hu3.size
     replace hU := hU.transA hu3
     replace hr := hr.upd hu3 (by first | exact (fun _ _ _ h => h) | (intro k hk hl hS; simp only [At] at hS; subst hS; exact hFg hk))
     refine WL.nil ?_
     refine WX.keep [] trivial ?_
     refine WX.next ?_
     refine WC.seq ?_
     refine WC.region ?_
     refine WL.val rfl rfl rfl rfl (r_assign rfl ev_c) ?_
     refine WL.nil ?_
     refine WX.keep [(4, _)] ⟨rfl, trivial⟩ ?_
     refine WX.next ?_
     refine WC.ret ?_
     refine WX.thenRet ?_
     refine WX.retE1 rfl rfl ?_
     have e : bytesR most s = ([], none) := by
       unfold bytesR
       rw [hu]
       first
         | exact if_neg (by rw [List.length_drop]; omega)
         | (rcases s1 with _ | r
            · rfl
            · obtain ⟨m, rfl, _⟩ := hs
              omega)
     rw [e] at hx
     simp only [Prod.mk.injEq] at hx
     obtain ⟨rfl, rfl⟩ := hx
     exact ⟨Rd.nil _ _ _, ⟨A, c, -1, hb, hr, rfl⟩, hU⟩
  · try (exfalso; first | (simp at hb2_5; done) | (simp only [decide_eq_true_eq, decide_eq_false_iff_not, Bool.not_eq_true', Bool.not_eq_false', Bool.not_eq_true, Bool.not_eq_false] at hb2_5; omega) | omega)
    all_goals
     try simp only [decide_eq_true_eq, decide_eq_false_iff_not, Bool.not_eq_true', Bool.not_eq_false', Bool.not_eq_true, Bool.not_eq_false, Option.isNone_none, Option.isNone_some, Option.isSome_none, Option.isSome_some, ne_eq, Decidable.not_not] at hb2_5
     obtain ⟨m, r, rfl, rfl, hmp, rfl⟩ : ∃ (m : Nat) (r : List UInt8), s1 = some r ∧ at_ = m ∧ m ≤ p.length ∧ r = p.drop m := by
       cases s1 with
       | none =>
         simp only [StM] at hs
         omega
       | some r =>
         obtain ⟨m, h1, h2, h3⟩ := hs
         exact ⟨m, r, rfl, h1, h2, h3⟩
     refine WN.calm _ rfl rfl rfl rfl rfl (fun _ => r_move rfl (ev_t rfl)) ?_
     refine WN.calm _ rfl rfl rfl rfl rfl (fun _ => r_move rfl (ev_t rfl)) ?_
     refine WN.calm _ rfl rfl rfl rfl rfl (fun _ => r_nilCheck rfl (ev_t rfl)) ?_
     first | refine WN.calm _ rfl rfl rfl rfl rfl (fun _ => r_field0 rfl (ev_t rfl) fld_77_0) ?_ | refine WN.calm _ rfl rfl rfl rfl rfl (fun _ => r_fieldAt rfl (ev_t rfl) fld_77_0) ?_
     refine WN.calm _ rfl rfl rfl rfl rfl (fun _ => r_move rfl (ev_t rfl)) ?_
     refine WN.calm _ rfl rfl rfl rfl rfl (fun _ => r_nilCheck rfl (ev_t rfl)) ?_
     first | refine WN.calm _ rfl rfl rfl rfl rfl (fun _ => r_field0 rfl (ev_t rfl) fld_77_1) ?_ | refine WN.calm _ rfl rfl rfl rfl rfl (fun _ => r_fieldAt rfl (ev_t rfl) fld_77_1) ?_
     refine WN.held _ rfl rfl rfl rfl rfl hS2 (fun w' hS => r_load rfl (ev_t rfl) flat_23 (Blk.cell (hb.upd hS (fun h => h)) rfl)) ?_
     refine WN.calm _ rfl rfl rfl rfl rfl (fun _ => r_lenSlice (ts := #[]) rfl (ev_t rfl) elem_23) ?_
     refine WN.step _ rfl (SO.val rfl rfl rfl rfl (r_load rfl (ev_t rfl) flat_3 (Blk.cell hb rfl)) ?_)
     refine ⟨hS2, ?_⟩
     first | refine WN.calm _ rfl rfl rfl rfl rfl (fun _ => r_subN rfl (ev_t rfl) (ev_t rfl) (by simp only [inK]; omega)) ?_ | refine WN.calm _ rfl rfl rfl rfl rfl (fun _ => r_sub rfl (ev_t rfl) (ev_t rfl)) ?_
     refine WN.calm _ rfl rfl rfl rfl rfl (fun _ => r_gtr rfl (ev_t rfl) (ev_t rfl)) ?_
     refine WN.calm _ rfl rfl rfl rfl rfl (fun _ => r_pickF rfl (ev_t rfl) (ev_t rfl)) ?_
     refine WN.done ?_
     refine WX.keep [(0, _), (5, _), (28, _)] ⟨rfl, rfl, rfl, trivial⟩ ?_
     refine WX.next ?_
     refine WC.cond rfl (ev_t rfl) (fun hc2 => ?_) (fun hc2 => ?_)
     · try (exfalso; first | (simp at hc2; done) | (simp only [decide_eq_true_eq, decide_eq_false_iff_not, Bool.not_eq_true', Bool.not_eq_false', Bool.not_eq_true, Bool.not_eq_false] at hc2; omega) | omega)
       all_goals
        try simp only [decide_eq_true_eq, decide_eq_false_iff_not, Bool.not_eq_true', Bool.not_eq_false', Bool.not_eq_true, Bool.not_eq_false, Option.isNone_none, Option.isNone_some, Option.isSome_none, Option.isSome_some, ne_eq, Decidable.not_not] at hc2
        refine WC.seq ?_
        refine WC.region ?_
        refine WL.val rfl rfl rfl rfl (r_move rfl (ev_t rfl)) ?_
        refine WL.val rfl rfl rfl rfl (r_nilCheck rfl (ev_t rfl)) ?_
        first | refine WL.val rfl rfl rfl rfl (r_field0 rfl (ev_t rfl) fld_77_1) ?_ | refine WL.val rfl rfl rfl rfl (r_fieldAt rfl (ev_t rfl) fld_77_1) ?_
        refine WL.cons (SO.store rfl (ev_t rfl) ev_c size_3 hb rfl rfl rfl rfl rfl ?_)
        intro w4 hu4 hb hz4
        have hs4 := hu4.size
        replace hU := hU.transA hu4
        replace hr := hr.upd hu4 (by first | exact (fun _ _ _ h => h) | (intro k hk hl hS; simp only [At] at hS; subst hS; exact hFg hk))
        refine WL.nil ?_
        refine WX.keep [] trivial ?_
        refine WX.next ?_
        refine WC.seq ?_
        refine WC.region ?_
        refine WL.val rfl rfl rfl rfl (r_assign rfl ev_c) ?_
        refine WL.nil ?_
        refine WX.keep [(4, _)] ⟨rfl, trivial⟩ ?_
        refine WX.next ?_
        refine WC.ret ?_
        refine WX.thenRet ?_
        refine WX.retE1 rfl rfl ?_
        have e : bytesR most s = ([], none) := by
          unfold bytesR
          rw [hu]
          first
            | exact if_neg (by rw [List.length_drop]; omega)
            | (rcases s1 with _ | r
               · rfl
               · obtain ⟨m, rfl, _⟩ := hs
                 omega)
        rw [e] at hx
        simp only [Prod.mk.injEq] at hx
        obtain ⟨rfl, rfl⟩ := hx
        exact ⟨Rd.nil _ _ _, ⟨A, c, -1, hb, hr, rfl⟩, hU⟩
     · try (exfalso; first | (simp at hc2; done) | (simp only [decide_eq_true_eq, decide_eq_false_iff_not, Bool.not_eq_true', Bool.not_eq_false', Bool.not_eq_true, Bool.not_eq_false] at hc2; omega) | omega)
       all_goals
        try simp only [decide_eq_true_eq, decide_eq_false_iff_not, Bool.not_eq_true', Bool.not_eq_false', Bool.not_eq_true, Bool.not_eq_false, Option.isNone_none, Option.isNone_some, Option.isSome_none, Option.isSome_some, ne_eq, Decidable.not_not] at hc2
        refine WC.skip ?_
        refine WX.next ?_
        refine WC.seq ?_
        refine WC.draws' (fun u0_ u1_ => Upd No u0_ u1_) (fun j => [0, 0, 0, 0, 0, 0, 0, 0, 0, 0, 0, 1, 0, 0, 0, 0].getD j 0) (.calm 0 (.calm 1 (.calm 2 (.calm 4 (.calm 5 (.calm 6 (.calm 8 (.calm 9 (.calm 10 (.calm 12 (.held 3 (.held 7 (.one 11 (.calm 13 (.calm 14 (.calm 15 (.done))))))))))))))))) mixed (by kernel_rfl) (by repeat (first | with_reducible exact Deaf.body | with_reducible apply Deaf.then | with_reducible apply Deaf.block)) ?_
        intro w5 hu5
        have hz5 := congrArg Array.size hu5.2.2.2
        replace hu5 := Upd.of_draw hu5
        have hs5 := hu5.size
        replace hU := hU.transA hu5
        replace hb := hb.updA hu5
        replace hr := hr.upd hu5 (by first | exact (fun _ _ _ h => h) | (intro k hk hl hS; simp only [At] at hS; subst hS; exact hFg hk))
        have hS5 := Upd.refl No w5
        refine WN.calm _ rfl rfl rfl rfl rfl (fun _ => r_move rfl (ev_t rfl)) ?_
        refine WN.calm _ rfl rfl rfl rfl rfl (fun _ => r_nilCheck rfl (ev_t rfl)) ?_
        first | refine WN.calm _ rfl rfl rfl rfl rfl (fun _ => r_field0 rfl (ev_t rfl) fld_77_0) ?_ | refine WN.calm _ rfl rfl rfl rfl rfl (fun _ => r_fieldAt rfl (ev_t rfl) fld_77_0) ?_
        refine WN.calm _ rfl rfl rfl rfl rfl (fun _ => r_move rfl (ev_t rfl)) ?_
        refine WN.calm _ rfl rfl rfl rfl rfl (fun _ => r_nilCheck rfl (ev_t rfl)) ?_
        first | refine WN.calm _ rfl rfl rfl rfl rfl (fun _ => r_field0 rfl (ev_t rfl) fld_77_1) ?_ | refine WN.calm _ rfl rfl rfl rfl rfl (fun _ => r_fieldAt rfl (ev_t rfl) fld_77_1) ?_
        refine WN.calm _ rfl rfl rfl rfl rfl (fun _ => r_move rfl (ev_t rfl)) ?_
        refine WN.calm _ rfl rfl rfl rfl rfl (fun _ => r_nilCheck rfl (ev_t rfl)) ?_
        first | refine WN.calm _ rfl rfl rfl rfl rfl (fun _ => r_field0 rfl (ev_t rfl) fld_77_1) ?_ | refine WN.calm _ rfl rfl rfl rfl rfl (fun _ => r_fieldAt rfl (ev_t rfl) fld_77_1) ?_
        refine WN.calm _ rfl rfl rfl rfl rfl (fun _ => r_move rfl (ev_t rfl)) ?_
        refine WN.held _ rfl rfl rfl rfl rfl hS5 (fun w' hS => r_load rfl (ev_t rfl) flat_23 (Blk.cell (hb.upd hS (fun h => h)) rfl)) ?_
        refine WN.held _ rfl rfl rfl rfl rfl hS5 (fun w' hS => r_load rfl (ev_t rfl) flat_3 (Blk.cell (hb.upd hS (fun h => h)) rfl)) ?_
        refine WN.step _ rfl (SO.val rfl rfl rfl rfl (r_load rfl (ev_t rfl) flat_3 (Blk.cell hb rfl)) ?_)
        refine ⟨hS5, ?_⟩
        first | refine WN.calm _ rfl rfl rfl rfl rfl (fun _ => r_addN rfl (ev_t rfl) (ev_t rfl) (by simp only [inK]; omega)) ?_ | refine WN.calm _ rfl rfl rfl rfl rfl (fun _ => r_add rfl (ev_t rfl) (ev_t rfl)) ?_
        refine WN.calm _ rfl rfl rfl rfl rfl (fun _ => r_slice (l := m) (h := m + y) rfl (ev_t rfl) elem_23 size_5 (bnd_some (ev_t rfl) (by omega)) (bnd_some (ev_t rfl) (by omega)) (by omega) (by omega) (by omega)) ?_
        refine WN.calm _ rfl rfl rfl rfl rfl (fun _ => r_assign rfl (ev_t rfl)) ?_
        refine WN.done ?_
        refine WX.keep [(0, _), (5, _), (6, _)] ⟨rfl, rfl, rfl, trivial⟩ ?_
        refine WX.next ?_
        refine WC.seq ?_
        refine WC.region ?_
        refine WL.val rfl rfl rfl rfl (r_move rfl (ev_t rfl)) ?_
        refine WL.val rfl rfl rfl rfl (r_nilCheck rfl (ev_t rfl)) ?_
        first | refine WL.val rfl rfl rfl rfl (r_field0 rfl (ev_t rfl) fld_77_1) ?_ | refine WL.val rfl rfl rfl rfl (r_fieldAt rfl (ev_t rfl) fld_77_1) ?_
        refine WL.val rfl rfl rfl rfl (r_load rfl (ev_t rfl) flat_3 (Blk.cell hb rfl)) ?_
        refine WL.val rfl rfl rfl rfl (r_move rfl (ev_t rfl)) ?_
        first | refine WL.val rfl rfl rfl rfl (r_addN rfl (ev_t rfl) (ev_t rfl) (by simp only [inK]; omega)) ?_ | refine WL.val rfl rfl rfl rfl (r_add rfl (ev_t rfl) (ev_t rfl)) ?_
        refine WL.val rfl rfl rfl rfl (r_nilCheck rfl (ev_t rfl)) ?_
        first | refine WL.val rfl rfl rfl rfl (r_field0 rfl (ev_t rfl) fld_77_1) ?_ | refine WL.val rfl rfl rfl rfl (r_fieldAt rfl (ev_t rfl) fld_77_1) ?_
        refine WL.cons (SO.store rfl (ev_t rfl) (ev_t rfl) size_3 hb rfl rfl rfl rfl rfl ?_)
        intro w6 hu6 hb hz6
        have hs6 := hu6.size
        replace hU := hU.transA hu6
        replace hr := hr.upd hu6 (by first | exact (fun _ _ _ h => h) | (intro k hk hl hS; simp only [At] at hS; subst hS; exact hFg hk))
        refine WL.nil ?_
        refine WX.keep [(6, _)] ⟨rfl, trivial⟩ ?_
        refine WX.next ?_
        refine WC.seq ?_
        refine WC.region ?_
        refine WL.val rfl rfl rfl rfl (r_move rfl (ev_t rfl)) ?_
        refine WL.val rfl rfl rfl rfl (r_assign rfl (ev_t rfl)) ?_
        refine WL.nil ?_
        refine WX.keep [(4, _)] ⟨rfl, trivial⟩ ?_
        refine WX.next ?_
        refine WC.ret ?_
        refine WX.retE1 rfl rfl ?_
        have hle : y ≤ (p.drop m).length := by rw [List.length_drop]; omega
        have e : bytesR most s = ((p.drop m).take y, some ((p.drop m).drop y)) := by
          unfold bytesR
          rw [hu]
          exact if_pos hle
        rw [e] at hx
        simp only [Prod.mk.injEq] at hx
        obtain ⟨rfl, rfl⟩ := hx
        refine ⟨?_, ⟨A, c, _, hb, hr, m + y, by omega, by omega, by rw [List.drop_drop]⟩, hU⟩
        have h1 := hr.sliceB (lo := m) (h := m + y) (by omega) (by omega)
        rw [Nat.add_sub_cancel_left] at h1 ⊢
        have h2 : ((p.drop m).take y).length = y := by rw [List.length_take]; omega
        rw [h2]
        exact h1
end Go.Proofs.Ytipabhbnljadfaa

/-
  The reference's Int, Bytes.
-/
namespace Go.Proofs.Ytipabhbnljadfaa
open Go
set_option linter.unusedSimpArgs false
set_option linter.unusedVariables false

theorem refBytes_ok {w : World} {F : Nat → Prop} {v : Value} {n : Nat} {b : List UInt8} (hr : Rd w F v n 1 (b.map U8)) (hb : b.length ≤ 140737488354000) :
    Ret Try.prog 34 #[v] w fun v w' => Own w' (New w w') 5 1 v (encU b.length ++ b).length ((encU b.length ++ b).map U8) ∧ Upd No w w' := by
  obtain ⟨A, c, rfl, hle⟩ := hr.slice_form
  have hn := hr.lenB
  subst hn
  have hx := encU_length b.length
  have hy : blen b.length ≤ 8 := blen_le (by omega)
  replace hr := hr.bound
  refine enterRet (vs := [_]) (N := 11) Try.func34 rfl rfl rfl ?_
  have hU := Upd.refl No w
  refine WC.keep [(0, _)] ⟨rfl, trivial⟩ ?_
  refine WC.seq ?_
  refine WC.region ?_
  refine WL.val rfl rfl rfl rfl (r_assign rfl ev_c) ?_
  refine WL.nil ?_
  refine WX.keep [(0, _)] ⟨rfl, trivial⟩ ?_
  refine WX.next ?_
  refine WC.seq ?_
  refine WC.region ?_
  refine WL.val rfl rfl rfl rfl (r_move rfl (ev_t rfl)) ?_
  refine WL.val rfl rfl rfl rfl (r_lenSlice (ts := #[]) rfl (ev_t rfl) elem_23) ?_
  first | refine WL.val rfl rfl rfl rfl (r_convN rfl (ev_t rfl) some_3 int_27 (by simp only [inK]; omega)) ?_ | refine WL.val rfl rfl rfl rfl (r_conv rfl (ev_t rfl) some_3 int_27) ?_
  refine WL.cons (SO.call (refUint_ok (n := b.length) (by omega)) rfl body_33 ⟨(ev_t rfl), trivial⟩ rfl rfl rfl rfl ?_)
  rintro v w1 ⟨ho, hu1⟩
  have hs1 := hu1.size
  replace hU := hU.transA hu1
  replace hr := hr.updA hu1
  refine WL.val rfl rfl rfl rfl (r_assign rfl (ev_t rfl)) ?_
  refine WL.nil ?_
  refine WX.keep [(0, _), (3, _)] ⟨rfl, rfl, trivial⟩ ?_
  refine WX.next ?_
  refine WC.seq ?_
  refine WC.region ?_
  refine WL.val rfl rfl rfl rfl (r_move rfl (ev_t rfl)) ?_
  refine WL.val rfl rfl rfl rfl (r_move rfl (ev_t rfl)) ?_
  refine WL.cons (SO.append ho hr row_23 (U8_one b) (le_maxLen (by omega)) (by omega) rfl (ev_t rfl) (ev_t rfl) rfl rfl rfl rfl ?_)
  intro v2 w2 ho hu2
  have hs2 := hu2.size
  replace hU := hU.transA hu2
  replace hr := hr.updA hu2
  obtain ⟨A2, c2, rfl, hc2⟩ := Own.form ho
  refine WL.val rfl rfl rfl rfl (r_assign rfl (ev_t rfl)) ?_
  refine WL.nil ?_
  refine WX.keep [(2, _)] ⟨rfl, trivial⟩ ?_
  refine WX.next ?_
  refine WC.ret ?_
  refine WX.retE1 rfl rfl ?_
  rw [← List.map_append] at ho
  refine ⟨?_, hU⟩
  rw [List.length_append]
  exact ho.mono (fun k hk => New.of hk (by omega) (by omega))
end Go.Proofs.Ytipabhbnljadfaa

/-
  The reference's table: Save, Load; law 17: any bytes as a table.
-/
namespace Go.Proofs.Ytipabhbnljadfaa
open Go
set_option linter.unusedSimpArgs false
set_option linter.unusedVariables false

/-- the reference's table in memory -/
abbrev IsQ (w : World) (R : Nat → Prop) (t : Nat) (L : List Ls) : Prop := IsTG 42 68 w R t L

set_option maxHeartbeats 2000000 in
theorem refSave_ok {w : World} {R : Nat → Prop} {t : Nat} {L : List Ls} (hT : IsQ w R t L) (hL : TOK L) :
    Ret Try.prog 18 #[.pointer (some ⟨t, 0, none⟩)] w fun u w' => Own w' (New w w') 5 1 u (saveS L).length ((saveS L).map U8) ∧ Upd No w w' := by
  obtain ⟨A, c, V, G, H, hB, hO, hD, hLV, hRt, htl, hG, hH⟩ := hT
  have hm := hL.most
  have hlen : V.length = L.length := by rw [← hLV, List.length_map]
  have hr := (hO.rd (by omega)).mono (F' := fun k => k < w.heap.size) (fun k hk => (hG k hk).2.2)
  refine enterRet (vs := [_]) (N := 55) Try.func18 rfl rfl rfl ?_
  have hU := Upd.refl No w
  refine WC.keep [(0, _)] ⟨rfl, trivial⟩ ?_
  refine WC.seq ?_
  refine WC.region ?_
  refine WL.val rfl rfl rfl rfl (r_assign rfl ev_c) ?_
  refine WL.nil ?_
  refine WX.keep [(0, _)] ⟨rfl, trivial⟩ ?_
  refine WX.next ?_
  refine WC.seq ?_
  refine WC.region ?_
  refine WL.val rfl rfl rfl rfl (r_move rfl (ev_t rfl)) ?_
  refine WL.val rfl rfl rfl rfl (r_nilCheck rfl (ev_t rfl)) ?_
  first | refine WL.val rfl rfl rfl rfl (r_field0 rfl (ev_t rfl) fld_42_0) ?_ | refine WL.val rfl rfl rfl rfl (r_fieldAt rfl (ev_t rfl) fld_42_0) ?_
  refine WL.val rfl rfl rfl rfl (r_load rfl (ev_t rfl) flat_40 (Blk.cell (hB.upd hU (fun h => h)) rfl)) ?_
  refine WL.val rfl rfl rfl rfl (r_lenSlice (ts := #[]) rfl (ev_t rfl) elem_40) ?_
  first | refine WL.val rfl rfl rfl rfl (r_convN rfl (ev_t rfl) some_3 int_27 (by simp only [inK]; omega)) ?_ | refine WL.val rfl rfl rfl rfl (r_conv rfl (ev_t rfl) some_3 int_27) ?_
  rw [hlen]
  refine WL.cons (SO.call (refUint_ok (n := L.length) (by omega)) rfl body_33 ⟨(ev_t rfl), trivial⟩ rfl rfl rfl rfl ?_)
  rintro v w1 ⟨hq, hu1⟩
  obtain ⟨Aq, cq, rfl, hcq⟩ := Own.form hq
  replace hq := hq.mono (F' := New w w1) (fun k hk => by have := hu1.size; simp only [New, Grow] at *; omega)
  have hs1 := hu1.size
  replace hU := hU.trans hu1 (by first | exact (fun _ _ h => h) | exact (fun _ _ h => h.elim) | (intro k hl hk; (try simp only [At, New, Grow, From, No] at hk ⊢); omega) | (intro k hl hk; (try simp only [At, New, Grow, From, No] at *); omega))
  refine WL.val rfl rfl rfl rfl (r_assign rfl (ev_t rfl)) ?_
  refine WL.nil ?_
  refine WX.keep [(0, _), (3, _)] ⟨rfl, rfl, trivial⟩ ?_
  refine WX.next ?_
  refine WC.seq ?_
  refine WC.seq ?_
  refine WC.region ?_
  refine WL.val rfl rfl rfl rfl (r_assign rfl ev_c) ?_
  refine WL.nil ?_
  refine WX.keep [(0, _), (3, _), (4, _)] ⟨rfl, rfl, rfl, trivial⟩ ?_
  refine WX.next ?_
  refine WC.block ?_
  -- loop 1: live [0, 3, 4]
  refine WC.keep [(0, _), (3, _), (4, _)] ⟨rfl, rfl, rfl, trivial⟩ ?_
  refine WC.loop (fun q E w' => ∃ (i : Nat) (A1 : Option Addr) (c1 : Nat), i ≤ L.length ∧ q = L.length - i ∧ Upd No w w' ∧ Own w' (New w w') 5 1 (.slice A1 (encU L.length ++ (L.take i).flatMap lsB).length c1) (encU L.length ++ (L.take i).flatMap lsB).length ((encU L.length ++ (L.take i).flatMap lsB).map U8) ∧   E = [(0, .pointer (some ⟨t, 0, none⟩)), (3, .slice A1 (encU L.length ++ (L.take i).flatMap lsB).length c1), (4, .int .i64 (i : Int))]) (L.length) ?_ ?_
  · exact ⟨0, Aq, cq, by omega, by omega, hU, by simpa using hq, by simp⟩
  · clear hU hq
    rintro q E w' ⟨i, A1, c1, hi, rfl, hU, hq, rfl⟩
    have hw0 := hU.size
    refine WC.seq ?_
    refine WC.seq ?_
    refine WC.region ?_
    refine WL.val rfl rfl rfl rfl (r_move rfl (ev_t rfl)) ?_
    refine WL.val rfl rfl rfl rfl (r_move rfl (ev_t rfl)) ?_
    refine WL.val rfl rfl rfl rfl (r_nilCheck rfl (ev_t rfl)) ?_
    first | refine WL.val rfl rfl rfl rfl (r_field0 rfl (ev_t rfl) fld_42_0) ?_ | refine WL.val rfl rfl rfl rfl (r_fieldAt rfl (ev_t rfl) fld_42_0) ?_
    refine WL.val rfl rfl rfl rfl (r_load rfl (ev_t rfl) flat_40 (Blk.cell (hB.upd hU (fun h => h)) rfl)) ?_
    refine WL.val rfl rfl rfl rfl (r_lenSlice (ts := #[]) rfl (ev_t rfl) elem_40) ?_
    refine WL.val rfl rfl rfl rfl (r_lss rfl (ev_t rfl) (ev_t rfl)) ?_
    refine WL.nil ?_
    refine WX.keep [(0, _), (3, _), (4, _), (18, _)] ⟨rfl, rfl, rfl, rfl, trivial⟩ ?_
    refine WX.next ?_
    refine WC.cond rfl (ev_t rfl) (fun hc3 => ?_) (fun hc3 => ?_)
    · try (exfalso; first | (simp at hc3; done) | (simp only [decide_eq_true_eq, decide_eq_false_iff_not, Bool.not_eq_true', Bool.not_eq_false', Bool.not_eq_true, Bool.not_eq_false] at hc3; omega) | omega)
      all_goals
       try simp only [decide_eq_true_eq, decide_eq_false_iff_not, Bool.not_eq_true', Bool.not_eq_false', Bool.not_eq_true, Bool.not_eq_false, Option.isNone_none, Option.isNone_some, Option.isSome_none, Option.isSome_some, ne_eq, Decidable.not_not] at hc3
       obtain ⟨r, hg⟩ : ∃ r, V[i]? = some r := ⟨_, List.getElem?_eq_getElem (by omega)⟩
       have hLi : L[i]? = some r.x := by rw [← hLV, List.getElem?_map, hg]; rfl
       obtain ⟨b, off, rfl, _⟩ := hr.open (by omega)
       have hcell := flatMap_get LsV.cells_len hg
       have hxo := hL.ok _ (List.mem_of_getElem? hLi)
       obtain ⟨hx1, hx2, hx3, hx4, hx5⟩ := hxo
       have htk := take_len hL i
       have he0 := encU_len9s (n := L.length) (by omega)
       have he1 := encU_len9s hx2
       have he2 := encU_len9s hx4
       have he3 := encU_len9s (n := r.x.data.length) (by omega)
       have hgl : (encU L.length ++ (L.take i).flatMap lsB).length = (encU L.length).length + ((L.take i).flatMap lsB).length := List.length_append
       have hBl : (encU r.x.data.length ++ r.x.data).length = (encU r.x.data.length).length + r.x.data.length := List.length_append
       generalize hX : encU L.length ++ (L.take i).flatMap lsB = X at *
       refine WC.skip ?_
       refine WX.next ?_
       refine WC.seq ?_
       refine WC.block ?_
       refine WC.seq ?_
       refine WC.region ?_
       refine WL.val rfl rfl rfl rfl (r_move rfl (ev_t rfl)) ?_
       refine WL.val rfl rfl rfl rfl (r_move rfl (ev_t rfl)) ?_
       refine WL.val rfl rfl rfl rfl (r_nilCheck rfl (ev_t rfl)) ?_
       first | refine WL.val rfl rfl rfl rfl (r_field0 rfl (ev_t rfl) fld_42_0) ?_ | refine WL.val rfl rfl rfl rfl (r_fieldAt rfl (ev_t rfl) fld_42_0) ?_
       refine WL.val rfl rfl rfl rfl (r_load rfl (ev_t rfl) flat_40 (Blk.cell (hB.upd hU (fun h => h)) rfl)) ?_
       refine WL.val rfl rfl rfl rfl (r_move rfl (ev_t rfl)) ?_
       refine WL.val rfl rfl rfl rfl (r_indexAddr rfl (ev_t rfl) (ev_t rfl) elem_40 size_68 (by omega) (by omega)) ?_
       first | refine WL.val rfl rfl rfl rfl (r_field0 rfl (ev_t rfl) fld_68_0) ?_ | refine WL.val rfl rfl rfl rfl (r_fieldAt rfl (ev_t rfl) fld_68_0) ?_
       refine WL.val rfl rfl rfl rfl (r_load rfl (ev_t rfl) flat_27 (Rd.cell (hr.upd hU (fun _ _ _ h => h)) (j := i * 3) (by omega) (hcell 0 _ rfl))) ?_
       refine WL.cons (SO.call (refUint_ok (n := r.x.id) hx2) rfl body_33 ⟨(ev_t rfl), trivial⟩ rfl rfl rfl rfl ?_)
       rintro v w2 ⟨he, hu2⟩
       have hs0 := hu2.size
       replace hq := hq.mono (F' := New w w2) (fun k hk => by simp only [New] at *; omega)
       have hs2 := hu2.size
       replace hU := hU.trans hu2 (by first | exact (fun _ _ h => h) | exact (fun _ _ h => h.elim) | (intro k hl hk; (try simp only [At, New, Grow, From, No] at hk ⊢); omega) | (intro k hl hk; (try simp only [At, New, Grow, From, No] at *); omega))
       replace hq := hq.upd hu2 (fun _ _ _ h => h)
       refine WL.cons (SO.append hq (he.rd (by omega)) row_23 (U8_one _) (le_maxLen (by omega)) (by omega) rfl (ev_t rfl) (ev_t rfl) rfl rfl rfl rfl ?_)
       intro v3 w3 hq hu3
       have hs3 := hu3.size
       replace hU := hU.trans hu3 (by first | exact (fun _ _ h => h) | exact (fun _ _ h => h.elim) | (intro k hl hk; (try simp only [At, New, Grow, From, No] at hk ⊢); omega) | (intro k hl hk; (try simp only [At, New, Grow, From, No] at *); omega))
       obtain ⟨A3, c3, rfl, hc3⟩ := Own.form hq
       rw [← List.map_append] at hq
       replace hq := hq.mono (F' := New w w3) (fun k hk => by have := hu3.size; simp only [New, Grow] at *; omega)
       refine WL.val rfl rfl rfl rfl (r_assign rfl (ev_t rfl)) ?_
       refine WL.nil ?_
       refine WX.keep [(0, _), (3, _), (4, _)] ⟨rfl, rfl, rfl, trivial⟩ ?_
       refine WX.next ?_
       refine WC.seq ?_
       refine WC.region ?_
       refine WL.val rfl rfl rfl rfl (r_move rfl (ev_t rfl)) ?_
       refine WL.val rfl rfl rfl rfl (r_move rfl (ev_t rfl)) ?_
       refine WL.val rfl rfl rfl rfl (r_nilCheck rfl (ev_t rfl)) ?_
       first | refine WL.val rfl rfl rfl rfl (r_field0 rfl (ev_t rfl) fld_42_0) ?_ | refine WL.val rfl rfl rfl rfl (r_fieldAt rfl (ev_t rfl) fld_42_0) ?_
       refine WL.val rfl rfl rfl rfl (r_load rfl (ev_t rfl) flat_40 (Blk.cell (hB.upd hU (fun h => h)) rfl)) ?_
       refine WL.val rfl rfl rfl rfl (r_move rfl (ev_t rfl)) ?_
       refine WL.val rfl rfl rfl rfl (r_indexAddr rfl (ev_t rfl) (ev_t rfl) elem_40 size_68 (by omega) (by omega)) ?_
       first | refine WL.val rfl rfl rfl rfl (r_field0 rfl (ev_t rfl) fld_68_1) ?_ | refine WL.val rfl rfl rfl rfl (r_fieldAt rfl (ev_t rfl) fld_68_1) ?_
       refine WL.val rfl rfl rfl rfl (r_load rfl (ev_t rfl) flat_27 (Rd.cell (hr.upd hU (fun _ _ _ h => h)) (j := i * 3 + 1) (by omega) (hcell 1 _ rfl))) ?_
       refine WL.cons (SO.call (refUint_ok (n := r.x.num) hx4) rfl body_33 ⟨(ev_t rfl), trivial⟩ rfl rfl rfl rfl ?_)
       rintro v w4 ⟨he, hu4⟩
       have hs0 := hu4.size
       replace hq := hq.mono (F' := New w w4) (fun k hk => by simp only [New] at *; omega)
       have hs4 := hu4.size
       replace hU := hU.trans hu4 (by first | exact (fun _ _ h => h) | exact (fun _ _ h => h.elim) | (intro k hl hk; (try simp only [At, New, Grow, From, No] at hk ⊢); omega) | (intro k hl hk; (try simp only [At, New, Grow, From, No] at *); omega))
       replace hq := hq.upd hu4 (fun _ _ _ h => h)
       refine WL.cons (SO.append hq (he.rd (by omega)) row_23 (U8_one _) (le_maxLen (by omega)) (by omega) rfl (ev_t rfl) (ev_t rfl) rfl rfl rfl rfl ?_)
       intro v5 w5 hq hu5
       have hs5 := hu5.size
       replace hU := hU.trans hu5 (by first | exact (fun _ _ h => h) | exact (fun _ _ h => h.elim) | (intro k hl hk; (try simp only [At, New, Grow, From, No] at hk ⊢); omega) | (intro k hl hk; (try simp only [At, New, Grow, From, No] at *); omega))
       obtain ⟨A5, c5, rfl, hc5⟩ := Own.form hq
       rw [← List.map_append] at hq
       replace hq := hq.mono (F' := New w w5) (fun k hk => by have := hu5.size; simp only [New, Grow] at *; omega)
       refine WL.val rfl rfl rfl rfl (r_assign rfl (ev_t rfl)) ?_
       refine WL.nil ?_
       refine WX.keep [(0, _), (3, _), (4, _)] ⟨rfl, rfl, rfl, trivial⟩ ?_
       refine WX.next ?_
       refine WC.region ?_
       refine WL.val rfl rfl rfl rfl (r_move rfl (ev_t rfl)) ?_
       refine WL.val rfl rfl rfl rfl (r_move rfl (ev_t rfl)) ?_
       refine WL.val rfl rfl rfl rfl (r_nilCheck rfl (ev_t rfl)) ?_
       first | refine WL.val rfl rfl rfl rfl (r_field0 rfl (ev_t rfl) fld_42_0) ?_ | refine WL.val rfl rfl rfl rfl (r_fieldAt rfl (ev_t rfl) fld_42_0) ?_
       refine WL.val rfl rfl rfl rfl (r_load rfl (ev_t rfl) flat_40 (Blk.cell (hB.upd hU (fun h => h)) rfl)) ?_
       refine WL.val rfl rfl rfl rfl (r_move rfl (ev_t rfl)) ?_
       refine WL.val rfl rfl rfl rfl (r_indexAddr rfl (ev_t rfl) (ev_t rfl) elem_40 size_68 (by omega) (by omega)) ?_
       first | refine WL.val rfl rfl rfl rfl (r_field0 rfl (ev_t rfl) fld_68_2) ?_ | refine WL.val rfl rfl rfl rfl (r_fieldAt rfl (ev_t rfl) fld_68_2) ?_
       refine WL.val rfl rfl rfl rfl (r_load rfl (ev_t rfl) flat_23 (Rd.cell (hr.upd hU (fun _ _ _ h => h)) (j := i * 3 + 2) (by omega) (hcell 2 _ rfl))) ?_
       refine WL.cons (SO.call (refBytes_ok ((hD r (List.mem_of_getElem? hg)).upd hU (fun _ _ _ h => h)) (by omega)) rfl body_34 ⟨(ev_t rfl), trivial⟩ rfl rfl rfl rfl ?_)
       rintro v w6 ⟨he, hu6⟩
       have hs0 := hu6.size
       replace hq := hq.mono (F' := New w w6) (fun k hk => by simp only [New] at *; omega)
       have hs6 := hu6.size
       replace hU := hU.trans hu6 (by first | exact (fun _ _ h => h) | exact (fun _ _ h => h.elim) | (intro k hl hk; (try simp only [At, New, Grow, From, No] at hk ⊢); omega) | (intro k hl hk; (try simp only [At, New, Grow, From, No] at *); omega))
       replace hq := hq.upd hu6 (fun _ _ _ h => h)
       refine WL.cons (SO.append hq (he.rd (by omega)) row_23 (U8_one _) (le_maxLen (by omega)) (by omega) rfl (ev_t rfl) (ev_t rfl) rfl rfl rfl rfl ?_)
       intro v7 w7 hq hu7
       have hs7 := hu7.size
       replace hU := hU.trans hu7 (by first | exact (fun _ _ h => h) | exact (fun _ _ h => h.elim) | (intro k hl hk; (try simp only [At, New, Grow, From, No] at hk ⊢); omega) | (intro k hl hk; (try simp only [At, New, Grow, From, No] at *); omega))
       obtain ⟨A7, c7, rfl, hc7⟩ := Own.form hq
       rw [← List.map_append] at hq
       replace hq := hq.mono (F' := New w w7) (fun k hk => by have := hu7.size; simp only [New, Grow] at *; omega)
       refine WL.val rfl rfl rfl rfl (r_assign rfl (ev_t rfl)) ?_
       refine WL.nil ?_
       refine WX.keep [(0, _), (3, _), (4, _)] ⟨rfl, rfl, rfl, trivial⟩ ?_
       refine WX.blockNormal ?_
       refine WX.next ?_
       refine WC.region ?_
       refine WL.val rfl rfl rfl rfl (r_move rfl (ev_t rfl)) ?_
       first | refine WL.val rfl rfl rfl rfl (r_addN rfl (ev_t rfl) ev_c (by simp only [inK]; omega)) ?_ | refine WL.val rfl rfl rfl rfl (r_add rfl (ev_t rfl) ev_c) ?_
       refine WL.val rfl rfl rfl rfl (r_assign rfl (ev_t rfl)) ?_
       refine WL.nil ?_
       refine WX.keep [(0, _), (3, _), (4, _)] ⟨rfl, rfl, rfl, trivial⟩ ?_
       refine WX.meet [(0, _), (3, _), (4, _)] ⟨rfl, rfl, rfl, trivial⟩ ?_
       have hXX : encU L.length ++ (L.take (i + 1)).flatMap lsB = X ++ encU r.x.id ++ encU r.x.num ++ (encU r.x.data.length ++ r.x.data) := by
         rw [take_flat hLi, ← hX]
         simp only [lsB, List.append_assoc]
       have hXl : (encU L.length ++ (L.take (i + 1)).flatMap lsB).length = X.length + (encU r.x.id).length + (encU r.x.num).length + (encU r.x.data.length ++ r.x.data).length := by
         rw [hXX]; simp only [List.length_append]
       refine ⟨L.length - (i + 1), by omega, i + 1, A7, c7, by omega, rfl, hU, ?_, ?_⟩
       · rw [hXl, hXX]; exact hq
       · rw [hXl]; simp
    · try (exfalso; first | (simp at hc3; done) | (simp only [decide_eq_true_eq, decide_eq_false_iff_not, Bool.not_eq_true', Bool.not_eq_false', Bool.not_eq_true, Bool.not_eq_false] at hc3; omega) | omega)
      all_goals
       try simp only [decide_eq_true_eq, decide_eq_false_iff_not, Bool.not_eq_true', Bool.not_eq_false', Bool.not_eq_true, Bool.not_eq_false, Option.isNone_none, Option.isNone_some, Option.isSome_none, Option.isSome_some, ne_eq, Decidable.not_not] at hc3
       obtain rfl : i = L.length := by omega
       rw [List.take_length] at hq
       refine WC.exit ?_
       refine WX.thenExit ?_
       refine WX.thenExit ?_
       refine WX.blockHere ?_
       refine WX.next ?_
       refine WC.seq ?_
       refine WC.region ?_
       refine WL.val rfl rfl rfl rfl (r_move rfl (ev_t rfl)) ?_
       refine WL.val rfl rfl rfl rfl (r_assign rfl (ev_t rfl)) ?_
       refine WL.nil ?_
       refine WX.keep [(2, _)] ⟨rfl, trivial⟩ ?_
       refine WX.next ?_
       refine WC.ret ?_
       refine WX.retE1 rfl rfl ?_
       exact ⟨by rw [List.take_length]; exact hq, hU⟩
end Go.Proofs.Ytipabhbnljadfaa
