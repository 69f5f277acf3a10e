/-
  session.Load.
-/
import Derived.Test.YtipabhbnljadfaaSegP
import Derived.Test.YtipabhbnljadfaaFr
namespace Go.Proofs.Ytipabhbnljadfaa
open Go
set_option linter.unusedSimpArgs false
set_option linter.unusedVariables false

theorem IsR.lt' {w : World} {F : Nat → Prop} {g : Nat} {s : Option (List UInt8)} (h : IsR w F g s) : g < w.heap.size := by
  cases s with
  | none => obtain ⟨_, _, _, hb⟩ := h; exact hb.lt
  | some l => obtain ⟨_, _, hb, _⟩ := h; exact hb.lt
theorem U8_lenle (l : List UInt8) : (l.map U8).length = l.length := List.length_map _

set_option maxHeartbeats 4000000 in
theorem Load_ok {w : World} {F : Nat → Prop} {pv : Value} {n : Nat} {p : List UInt8} (hp : Rd w F pv n 1 (p.map U8)) :
    Ret Try.prog 17 #[pv] w fun u w' => Upd No w w' ∧ (((loadS p).1 = some [] ∧ ∃ t, u = .tuple #[.pointer (some ⟨t, 0, none⟩), .int .i64 0] ∧ IsT w' (New w w') t (loadS p).2) ∨
      ((loadS p).1 ≠ some [] ∧ u = .tuple #[.pointer none, .int .i64 3])) := by
  obtain ⟨F', hp, hFl⟩ : ∃ F' : Nat → Prop, Rd w F' pv n 1 (p.map U8) ∧ ∀ k, F' k → k < w.heap.size := ⟨_, hp.bound, fun k hk => hk.2⟩
  obtain ⟨n0, s0, hn0⟩ : ∃ n0 s0, uptoR 64 (some p) = (n0, s0) := ⟨_, _, rfl⟩
  obtain ⟨fin, hfin⟩ : ∃ fin, loadL n0 s0 [] = fin := ⟨_, rfl⟩
  have hS : loadS p = fin := by unfold loadS; rw [hn0]; exact hfin
  rw [hS]
  have hn64 : n0 ≤ 64 := by have := uptoR_le (most := 64) (s := some p) (by omega); rw [hn0] at this; simp only at this; omega
  refine enterRet (vs := [_]) (N := 79) Try.func17 rfl rfl rfl ?_
  have hU := Upd.refl No w
  refine WC.keep [(0, _)] ⟨rfl, trivial⟩ ?_
  refine WC.seq ?_
  refine WC.region ?_
  refine WL.val rfl rfl rfl rfl (r_assign rfl ev_c) ?_
  refine WL.val rfl rfl rfl rfl (r_assign rfl ev_c) ?_
  refine WL.nil ?_
  refine WX.keep [(0, _)] ⟨rfl, trivial⟩ ?_
  refine WX.next ?_
  refine WC.seq ?_
  refine WC.region ?_
  refine WL.val rfl rfl rfl rfl (r_move rfl (ev_t rfl)) ?_
  refine WL.cons (SO.call (newReader_ok hp) rfl body_26 ⟨(ev_t rfl), trivial⟩ rfl rfl rfl rfl ?_)
  rintro v w1 ⟨rfl, hR, hu1⟩
  have hs1 := hu1.size
  replace hU := hU.trans hu1 (by first | exact (fun _ _ h => h) | exact (fun _ _ h => h.elim) | (intro k hl hk; (try simp only [At, New, Grow, From, No] at hk ⊢); omega) | (intro k hl hk; first | (have h1 := hG k hk; have h2 := hRw k h1.1; omega) | ((try simp only [At, New, Grow, From, No] at *); omega)))
  refine WL.val rfl rfl rfl rfl (r_assign rfl (ev_t rfl)) ?_
  refine WL.nil ?_
  refine WX.keep [(4, _)] ⟨rfl, trivial⟩ ?_
  refine WX.next ?_
  refine WC.seq ?_
  refine WC.region ?_
  refine WL.cons (SO.call (SNew_ok) rfl body_10 trivial rfl rfl rfl rfl ?_)
  rintro v w2 ⟨t, rfl, hT, hu2⟩
  have hgl := hR.lt'
  have hs2 := hu2.size
  replace hU := hU.trans hu2 (by first | exact (fun _ _ h => h) | exact (fun _ _ h => h.elim) | (intro k hl hk; (try simp only [At, New, Grow, From, No] at hk ⊢); omega) | (intro k hl hk; first | (have h1 := hG k hk; have h2 := hRw k h1.1; omega) | ((try simp only [At, New, Grow, From, No] at *); omega)))
  replace hR := hR.upd hu2 (by first | exact (fun h => h) | (exact fun h => by have := hRw _ (hG _ h).1; omega) | (simp only [At, No]; omega)) (by first | exact (fun _ _ _ h => h) | (intro k hk hl hS; have := hFl k hk; first | (have := hRw _ (hG _ hS).1; omega) | (simp only [At, No] at hS; omega)))
  have hRw : ∀ k, New w1 w2 k → w.heap.size < k := fun k hk => by simp only [New] at hk; omega
  have hRl : ∀ k, New w1 w2 k → k < w2.heap.size := fun k hk => hk.2
  have htR : New w1 w2 t := by obtain ⟨_, _, _, _, _, _, _, _, _, h, _⟩ := hT; exact h
  refine WL.val rfl rfl rfl rfl (r_assign rfl (ev_t rfl)) ?_
  refine WL.nil ?_
  refine WX.keep [(4, _), (5, _)] ⟨rfl, rfl, trivial⟩ ?_
  refine WX.next ?_
  refine WC.seq ?_
  refine WC.seq ?_
  refine WC.region ?_
  refine WL.val rfl rfl rfl rfl (r_move rfl (ev_t rfl)) ?_
  refine WL.cons (SO.call (upto_ok hR (fun h => by have := hFl _ h; omega) (by simp only [inK]; omega) hn0) rfl body_27 ⟨(ev_t rfl), ev_c, trivial⟩ rfl rfl rfl rfl ?_)
  rintro v w3 ⟨rfl, hR, hu3⟩
  replace hT := hT.upd hu3 (fun k hk hl hS => by have := hRw k hk; simp only [At] at hS; omega)
  have hs3 := hu3.size
  replace hU := hU.trans hu3 (by first | exact (fun _ _ h => h) | exact (fun _ _ h => h.elim) | (intro k hl hk; (try simp only [At, New, Grow, From, No] at hk ⊢); omega) | (intro k hl hk; first | (have h1 := hG k hk; have h2 := hRw k h1.1; omega) | ((try simp only [At, New, Grow, From, No] at *); omega)))
  refine WL.val rfl rfl rfl rfl (r_assign rfl (ev_t rfl)) ?_
  refine WL.nil ?_
  refine WX.keep [(4, _), (5, _), (6, _)] ⟨rfl, rfl, rfl, trivial⟩ ?_
  refine WX.next ?_
  refine WC.block ?_
  -- loop 1: live [4, 5, 6]
  refine WC.keep [(4, _), (5, _), (6, _)] ⟨rfl, rfl, rfl, trivial⟩ ?_
  refine WC.loop (fun q E w' => ∃ (s : Option (List UInt8)) (L : List Ls) (R : Nat → Prop), q ≤ 64 ∧ L.length + q ≤ 64 ∧ Upd No w w' ∧ IsR w' F' w.heap.size s ∧ IsTG 55 58 w' R t L ∧ (∀ k, R k → w.heap.size < k) ∧ (∀ k, R k → k < w'.heap.size) ∧ R t ∧ ((s = none ∧ fin.1 = none) ∨ (s ≠ none ∧ loadL q s L = fin)) ∧   E = [(4, .pointer (some ⟨w.heap.size, 0, none⟩)), (5, .pointer (some ⟨t, 0, none⟩)), (6, .int .i64 (q : Int))]) (n0) ?_ ?_
  · refine ⟨s0, [], _, hn64, by simpa using hn64, hU, hR, hT, hRw, (fun k hk => by have := hRl k hk; omega), htR, ?_, rfl⟩
    cases s0 with
    | none => rw [loadL_none] at hfin; subst hfin; exact .inl ⟨rfl, rfl⟩
    | some q => exact .inr ⟨by simp, hfin⟩
  · clear hU hT hR hRw hRl htR
    rintro q E w' ⟨s, L, R, hq, hLq, hU, hR, hT, hRw, hRl, htR, hs, rfl⟩
    have hw0 := hU.size
    have hgl := hR.lt'
    have htw := hRw t htR
    have htl := hRl t htR
    refine WC.seq ?_
    refine WC.seq ?_
    refine WC.region ?_
    refine WL.val rfl rfl rfl rfl (r_move rfl (ev_t rfl)) ?_
    refine WL.val rfl rfl rfl rfl (r_gtr rfl (ev_t rfl) ev_c) ?_
    refine WL.val rfl rfl rfl rfl (r_move rfl (ev_t rfl)) ?_
    refine WL.cases 15 rfl (fun hb4_2 => ?_) (fun hb4_2 => ?_)
    · try (exfalso; first | (simp at hb4_2; done) | (simp only [decide_eq_true_eq, decide_eq_false_iff_not, Bool.not_eq_true', Bool.not_eq_false', Bool.not_eq_true, Bool.not_eq_false] at hb4_2; omega) | omega)
      all_goals
       try simp only [decide_eq_true_eq, decide_eq_false_iff_not, Bool.not_eq_true', Bool.not_eq_false', Bool.not_eq_true, Bool.not_eq_false, Option.isNone_none, Option.isNone_some, Option.isSome_none, Option.isSome_some, ne_eq, Decidable.not_not] at hb4_2
       refine WL.val rfl rfl rfl rfl (r_move rfl (ev_t rfl)) ?_
       refine WL.cons (SO.call (bad_ok hR) rfl body_28 ⟨(ev_t rfl), trivial⟩ rfl rfl rfl rfl ?_)
       rintro v w4 ⟨rfl, he⟩
       obtain rfl := he.symm
       refine WL.val rfl rfl rfl rfl (r_not rfl (ev_t rfl)) ?_
       refine WL.val rfl rfl rfl rfl (r_pickT rfl (ev_t rfl) (ev_t rfl)) ?_
       refine WL.nil ?_
       refine WX.keep [(4, _), (5, _), (6, _), (19, _)] ⟨rfl, rfl, rfl, rfl, trivial⟩ ?_
       refine WX.next ?_
       refine WC.cond rfl (ev_t rfl) (fun hc4 => ?_) (fun hc4 => ?_)
       · try (exfalso; first | (simp at hc4; done) | (simp only [decide_eq_true_eq, decide_eq_false_iff_not, Bool.not_eq_true', Bool.not_eq_false', Bool.not_eq_true, Bool.not_eq_false] at hc4; omega) | omega)
         all_goals
          try simp only [decide_eq_true_eq, decide_eq_false_iff_not, Bool.not_eq_true', Bool.not_eq_false', Bool.not_eq_true, Bool.not_eq_false, Option.isNone_none, Option.isNone_some, Option.isSome_none, Option.isSome_some, ne_eq, Decidable.not_not] at hc4
          refine WC.skip ?_
          refine WX.next ?_
          refine WC.seq ?_
          refine WC.block ?_
          refine WC.seq ?_
          obtain ⟨q1, rfl⟩ : ∃ q1, q = q1 + 1 := ⟨q - 1, by omega⟩
          obtain ⟨p1, rfl⟩ : ∃ p1, s = some p1 := by
            cases s with
            | none => simp at *
            | some p1 => exact ⟨p1, rfl⟩
          replace hs : loadL (q1 + 1) (some p1) L = fin := by rcases hs with h | h; exact absurd h.1 (by simp); exact h.2
          obtain ⟨a, s1, ha⟩ : ∃ a s1, uintR (some p1) = (a, s1) := ⟨_, _, rfl⟩
          obtain ⟨b, s2, hb⟩ : ∃ b s2, uintR s1 = (b, s2) := ⟨_, _, rfl⟩
          obtain ⟨d, s3, hd⟩ : ∃ d s3, bytesR 1048576 s2 = (d, s3) := ⟨_, _, rfl⟩
          refine WC.region ?_
          refine WL.val rfl rfl rfl rfl (r_move rfl (ev_t rfl)) ?_
          refine WL.cons (SO.call (ruint_ok hR (fun h => by have := hFl _ h; omega) ha) rfl body_29 ⟨(ev_t rfl), trivial⟩ rfl rfl rfl rfl ?_)
          rintro v w5 ⟨rfl, hR, hu5⟩
          have hs5 := hu5.size
          replace hU := hU.trans hu5 (by first | exact (fun _ _ h => h) | exact (fun _ _ h => h.elim) | (intro k hl hk; (try simp only [At, New, Grow, From, No] at hk ⊢); omega) | (intro k hl hk; first | (have h1 := hG k hk; have h2 := hRw k h1.1; omega) | ((try simp only [At, New, Grow, From, No] at *); omega)))
          replace hT := hT.upd hu5 (by first | exact (fun _ _ _ h => h) | (intro k hk hl hS; have := hRw k hk; have := hRl k hk; simp only [At, No] at hS; omega))
          refine WL.val rfl rfl rfl rfl (r_move rfl (ev_t rfl)) ?_
          refine WL.cons (SO.call (ruint_ok hR (fun h => by have := hFl _ h; omega) hb) rfl body_29 ⟨(ev_t rfl), trivial⟩ rfl rfl rfl rfl ?_)
          rintro v w6 ⟨rfl, hR, hu6⟩
          have hs6 := hu6.size
          replace hU := hU.trans hu6 (by first | exact (fun _ _ h => h) | exact (fun _ _ h => h.elim) | (intro k hl hk; (try simp only [At, New, Grow, From, No] at hk ⊢); omega) | (intro k hl hk; first | (have h1 := hG k hk; have h2 := hRw k h1.1; omega) | ((try simp only [At, New, Grow, From, No] at *); omega)))
          replace hT := hT.upd hu6 (by first | exact (fun _ _ _ h => h) | (intro k hk hl hS; have := hRw k hk; have := hRl k hk; simp only [At, No] at hS; omega))
          refine WL.val rfl rfl rfl rfl (r_move rfl (ev_t rfl)) ?_
          refine WL.cons (SO.call (bytes_ok hR (fun h => by have := hFl _ h; omega) (by simp only [inK]; omega) hd) rfl body_30 ⟨(ev_t rfl), ev_c, trivial⟩ rfl rfl rfl rfl ?_)
          rintro v w7 ⟨hcl, hR, hu7, hdl⟩
          obtain ⟨Ad, cd, rfl, hcd⟩ := Own.form hcl
          have hCn : ∀ k, New w6 w7 k → w'.heap.size ≤ k ∧ k < w7.heap.size := fun k hk => by simp only [New] at hk; omega
          generalize New w6 w7 = C at *
          have hs7 := hu7.size
          replace hU := hU.trans hu7 (by first | exact (fun _ _ h => h) | exact (fun _ _ h => h.elim) | (intro k hl hk; (try simp only [At, New, Grow, From, No] at hk ⊢); omega) | (intro k hl hk; first | (have h1 := hG k hk; have h2 := hRw k h1.1; omega) | ((try simp only [At, New, Grow, From, No] at *); omega)))
          replace hT := hT.upd hu7 (by first | exact (fun _ _ _ h => h) | (intro k hk hl hS; have := hRw k hk; have := hRl k hk; simp only [At, No] at hS; omega))
          refine WL.val rfl rfl rfl rfl (r_build (cs := #[_, _, _]) (vs := [(0, _), (1, _), (2, _)]) rfl ⟨⟨rfl, (ev_t rfl)⟩, ⟨rfl, (ev_t rfl)⟩, ⟨rfl, (ev_t rfl)⟩, trivial⟩ plc_58 zero_58 rfl) ?_
          refine WL.cons (SO.alloc rfl rfl rfl rfl (r_alloc rfl zero_58) ?_)
          intro w8 hu8 hB8 hz8
          have hs8 := hu8.size
          replace hU := hU.trans hu8 (by first | exact (fun _ _ h => h) | exact (fun _ _ h => h.elim) | (intro k hl hk; (try simp only [At, New, Grow, From, No] at hk ⊢); omega) | (intro k hl hk; first | (have h1 := hG k hk; have h2 := hRw k h1.1; omega) | ((try simp only [At, New, Grow, From, No] at *); omega)))
          replace hR := hR.upd hu8 (by first | exact (fun h => h) | (exact fun h => by have := hRw _ (hG _ h).1; omega) | (simp only [At, No]; omega)) (by first | exact (fun _ _ _ h => h) | (intro k hk hl hS; have := hFl k hk; first | (have := hRw _ (hG _ hS).1; omega) | (simp only [At, No] at hS; omega)))
          replace hT := hT.upd hu8 (by first | exact (fun _ _ _ h => h) | (intro k hk hl hS; have := hRw k hk; have := hRl k hk; simp only [At, No] at hS; omega))
          replace hcl := hcl.upd hu8 (by first | exact (fun _ _ _ h => h) | (intro k hk hl hS; have := hCn k hk; first | (have := hRl _ (hG _ hS).1; omega) | (simp only [At] at hS; omega)))
          refine WL.cons (SO.storeAll (us := [_, _, _]) rfl (ev_t rfl) (ev_t rfl) size_58 hB8 rfl rfl rfl rfl rfl ?_)
          intro w9 hu9 hB8 hz9
          have hs9 := hu9.size
          replace hU := hU.trans hu9 (by first | exact (fun _ _ h => h) | exact (fun _ _ h => h.elim) | (intro k hl hk; (try simp only [At, New, Grow, From, No] at hk ⊢); omega) | (intro k hl hk; first | (have h1 := hG k hk; have h2 := hRw k h1.1; omega) | ((try simp only [At, New, Grow, From, No] at *); omega)))
          replace hR := hR.upd hu9 (by first | exact (fun h => h) | (exact fun h => by have := hRw _ (hG _ h).1; omega) | (simp only [At, No]; omega)) (by first | exact (fun _ _ _ h => h) | (intro k hk hl hS; have := hFl k hk; first | (have := hRw _ (hG _ hS).1; omega) | (simp only [At, No] at hS; omega)))
          replace hT := hT.upd hu9 (by first | exact (fun _ _ _ h => h) | (intro k hk hl hS; have := hRw k hk; have := hRl k hk; simp only [At, No] at hS; omega))
          replace hcl := hcl.upd hu9 (by first | exact (fun _ _ _ h => h) | (intro k hk hl hS; have := hCn k hk; first | (have := hRl _ (hG _ hS).1; omega) | (simp only [At] at hS; omega)))
          refine WL.nil ?_
          refine WX.keep [(4, _), (5, _), (6, _), (7, _)] ⟨rfl, rfl, rfl, rfl, trivial⟩ ?_
          have hBx : Blk w9 _ #[.int .u64 (a : Int), .int .u64 (b : Int), .slice Ad d.length cd] 58 := hB8
          refine WX.next ?_
          -- cut 7: live [4, 5, 6, 7]
          refine WC.cut (fun E w2 => ∃ (s4 : Option (List UInt8)), Upd No w w2 ∧ IsR w2 F' w.heap.size s4 ∧ IsTG 55 58 w2 R t L ∧ Blk w2 w7.heap.size #[.int .u64 (a : Int), .int .u64 (b : Int), .slice Ad d.length cd] 58 ∧ Own w2 C 5 1 (.slice Ad d.length cd) d.length (d.map U8) ∧   ((s4 = none ∧ fin.1 = none) ∨ (s4 ≠ none ∧ loadL q1 s4 (L ++ [⟨a, b, d⟩]) = fin)) ∧   E = [(4, .pointer (some ⟨w.heap.size, 0, none⟩)), (5, .pointer (some ⟨t, 0, none⟩)), (6, .int .i64 ((q1 + 1 : Nat) : Int)), (7, .pointer (some ⟨w7.heap.size, 0, none⟩))]) ?_ ?_
          · refine WC.seq ?_
            obtain ⟨A, c, V, G, H, hB, hO, hD, hLV, _, _, hG, hH⟩ := id hT
            have hlen : V.length = L.length := by rw [← hLV, List.length_map]
            have hnx : nextOK L a = match V[V.length - 1]? with | some r => decide (r.x.id < a) | none => true := by
              unfold nextOK
              rw [← hLV, List.length_map, List.getElem?_map]
              cases V[V.length - 1]? <;> rfl
            refine WC.draws' (fun u0_ u1_ => Upd No u0_ u1_) (fun j => [0, 1, 0, 0, 0, 1, 0, 0, 0, 0, 0, 0, 1, 0, 0, 0, 0, 0, 0, 0, 0, 0, 0, 0, 0, 0, 0, 0, 0, 0, 1, 0, 0, 0].getD j 0) (.calm 0 (.one 1 (.calm 2 (.calm 3 (.calm 4 (.one 5 (.calm 6 (.calm 7 (.calm 8 (.calm 9 (.calm 10 (.calm 11 (.one 12 (.calm 13 (.calm 14 (.calm 15 (.calm 16 (.calm 17 (.calm 18 (.calm 20 (.calm 21 (.calm 22 (.calm 29 (.held 19 (.held 23 (.calm 24 (.calm 25 (.calm 26 (.calm 27 (.held 28 (.one 30 (.calm 31 (.calm 32 (.calm 33 (.done))))))))))))))))))))))))))))))))))) mixed (by kernel_rfl) (by repeat (first | with_reducible exact Deaf.body | with_reducible apply Deaf.then | with_reducible apply Deaf.block)) ?_
            intro w10 hu10
            have hz10 := congrArg Array.size hu10.2.2.2
            replace hu10 := Upd.of_draw hu10
            have hs10 := hu10.size
            replace hU := hU.trans hu10 (by first | exact (fun _ _ h => h) | exact (fun _ _ h => h.elim) | (intro k hl hk; (try simp only [At, New, Grow, From, No] at hk ⊢); omega) | (intro k hl hk; first | (have h1 := hG k hk; have h2 := hRw k h1.1; omega) | ((try simp only [At, New, Grow, From, No] at *); omega)))
            replace hR := hR.upd hu10 (by first | exact (fun h => h) | (exact fun h => by have := hRw _ (hG _ h).1; omega) | (simp only [At, No]; omega)) (by first | exact (fun _ _ _ h => h) | (intro k hk hl hS; have := hFl k hk; first | (have := hRw _ (hG _ hS).1; omega) | (simp only [At, No] at hS; omega)))
            replace hT := hT.upd hu10 (by first | exact (fun _ _ _ h => h) | (intro k hk hl hS; have := hRw k hk; have := hRl k hk; simp only [At, No] at hS; omega))
            replace hcl := hcl.upd hu10 (by first | exact (fun _ _ _ h => h) | (intro k hk hl hS; have := hCn k hk; first | (have := hRl _ (hG _ hS).1; omega) | (simp only [At] at hS; omega)))
            replace hBx := hBx.upd hu10 (by first | exact (fun h => h) | (exact fun h => by have := hRl _ (hG _ h).1; omega) | (simp only [At]; omega))
            replace hB := hB.upd hu10 (by first | exact (fun h => h) | (exact fun h => (hG t h).2.1 rfl) | (simp only [At, No]; omega))
            replace hO := hO.upd hu10 (by first | exact (fun _ _ _ h => h) | (intro k hk hl hS; have := hG k hk; have := hRw k this.1; simp only [At, No] at hS; omega))
            have hS7 := Upd.refl No w10
            first | refine WN.calm _ rfl rfl rfl rfl rfl (fun _ => r_field0 rfl (ev_t rfl) fld_58_0) ?_ | refine WN.calm _ rfl rfl rfl rfl rfl (fun _ => r_fieldAt rfl (ev_t rfl) fld_58_0) ?_
            refine WN.step _ rfl (SO.val rfl rfl rfl rfl (r_load rfl (ev_t rfl) flat_27 (Blk.cell hBx rfl)) ?_)
            refine ⟨hS7, ?_⟩
            refine WN.calm _ rfl rfl rfl rfl rfl (fun _ => r_eql rfl (ev_t rfl) ev_c) ?_
            refine WN.calm _ rfl rfl rfl rfl rfl (fun _ => r_move rfl (ev_t rfl)) ?_
            refine WN.cases 32 rfl (fun hb7_3 => ?_) (fun hb7_3 => ?_)
            · try (exfalso; first | (simp at hb7_3; done) | (simp only [decide_eq_true_eq, decide_eq_false_iff_not, Bool.not_eq_true', Bool.not_eq_false', Bool.not_eq_true, Bool.not_eq_false] at hb7_3; omega) | omega)
              all_goals
               try simp only [decide_eq_true_eq, decide_eq_false_iff_not, Bool.not_eq_true', Bool.not_eq_false', Bool.not_eq_true, Bool.not_eq_false, Option.isNone_none, Option.isNone_some, Option.isSome_none, Option.isSome_some, ne_eq, Decidable.not_not] at hb7_3
               refine WN.skip _ rfl rfl rfl rfl ?_
               refine WN.step _ rfl (SO.skip rfl rfl rfl ?_)
               refine ⟨hS7, ?_⟩
               refine WN.skip _ rfl rfl rfl rfl ?_
               refine WN.calm _ rfl rfl rfl rfl rfl (fun _ => r_pickT rfl (ev_t rfl) ev_c) ?_
               refine WN.calm _ rfl rfl rfl rfl rfl (fun _ => r_move rfl (ev_t rfl)) ?_
               refine WN.skip _ rfl rfl rfl rfl ?_
               refine WN.skip _ rfl rfl rfl rfl ?_
               refine WN.skip _ rfl rfl rfl rfl ?_
               refine WN.step _ rfl (SO.skip rfl rfl rfl ?_)
               refine ⟨hS7, ?_⟩
               refine WN.skip _ rfl rfl rfl rfl ?_
               refine WN.skip _ rfl rfl rfl rfl ?_
               refine WN.skip _ rfl rfl rfl rfl ?_
               refine WN.skip _ rfl rfl rfl rfl ?_
               refine WN.skip _ rfl rfl rfl rfl ?_
               refine WN.skip _ rfl rfl rfl rfl ?_
               refine WN.skip _ rfl rfl rfl rfl ?_
               refine WN.skip _ rfl rfl rfl rfl ?_
               refine WN.skip _ rfl rfl rfl rfl ?_
               refine WN.skip _ rfl rfl rfl rfl ?_
               refine WN.heldSkip _ rfl rfl rfl rfl hS7 ?_
               refine WN.heldSkip _ rfl rfl rfl rfl hS7 ?_
               refine WN.skip _ rfl rfl rfl rfl ?_
               refine WN.skip _ rfl rfl rfl rfl ?_
               refine WN.skip _ rfl rfl rfl rfl ?_
               refine WN.skip _ rfl rfl rfl rfl ?_
               refine WN.heldSkip _ rfl rfl rfl rfl hS7 ?_
               refine WN.step _ rfl (SO.skip rfl rfl rfl ?_)
               refine ⟨hS7, ?_⟩
               refine WN.skip _ rfl rfl rfl rfl ?_
               refine WN.skip _ rfl rfl rfl rfl ?_
               refine WN.calm _ rfl rfl rfl rfl rfl (fun _ => r_pickT rfl (ev_t rfl) ev_c) ?_
               refine WN.done ?_
               refine WX.keep [(4, _), (5, _), (6, _), (7, _), (62, _)] ⟨rfl, rfl, rfl, rfl, rfl, trivial⟩ ?_
               refine WX.next ?_
               refine WC.cond_true rfl (ev_t rfl) ?_
               have hbad : a = 0 ∨ b = 0 ∨ nextOK L a = false := by simp_all
               refine WC.region ?_
               refine WL.val rfl rfl rfl rfl (r_move rfl (ev_t rfl)) ?_
               refine WL.cons (SO.call (fail_ok hR) rfl body_31 ⟨(ev_t rfl), trivial⟩ rfl rfl rfl rfl ?_)
               rintro v w11 ⟨hR, hu11⟩
               have hs11 := hu11.size
               replace hU := hU.trans hu11 (by first | exact (fun _ _ h => h) | exact (fun _ _ h => h.elim) | (intro k hl hk; (try simp only [At, New, Grow, From, No] at hk ⊢); omega) | (intro k hl hk; first | (have h1 := hG k hk; have h2 := hRw k h1.1; omega) | ((try simp only [At, New, Grow, From, No] at *); omega)))
               replace hT := hT.upd hu11 (by first | exact (fun _ _ _ h => h) | (intro k hk hl hS; have := hRw k hk; have := hRl k hk; simp only [At, No] at hS; omega))
               replace hcl := hcl.upd hu11 (by first | exact (fun _ _ _ h => h) | (intro k hk hl hS; have := hCn k hk; first | (have := hRl _ (hG _ hS).1; omega) | (simp only [At] at hS; omega)))
               replace hBx := hBx.upd hu11 (by first | exact (fun h => h) | (exact fun h => by have := hRl _ (hG _ h).1; omega) | (simp only [At]; omega))
               replace hB := hB.upd hu11 (by first | exact (fun h => h) | (exact fun h => (hG t h).2.1 rfl) | (simp only [At, No]; omega))
               replace hO := hO.upd hu11 (by first | exact (fun _ _ _ h => h) | (intro k hk hl hS; have := hG k hk; have := hRw k this.1; simp only [At, No] at hS; omega))
               refine WL.nil ?_
               refine WX.keep [(4, _), (5, _), (6, _), (7, _)] ⟨rfl, rfl, rfl, rfl, trivial⟩ ?_
               refine WX.meet [(4, _), (5, _), (6, _), (7, _)] ⟨rfl, rfl, rfl, rfl, trivial⟩ ?_
               first
                 | exact ⟨none, hU, hR, hT, hBx, hcl, .inl ⟨rfl, by rw [← hs, loadL_bad ha hb hbad]⟩, rfl⟩
                 | (refine ⟨s3, hU, hR, hT, hBx, hcl, ?_, rfl⟩; rw [loadL_good ha hb hd (by simp_all)] at hs; cases s3 with | none => (rw [loadL_none] at hs; subst hs; exact .inl ⟨rfl, rfl⟩) | some q3 => exact .inr ⟨by simp, hs⟩)
            · try (exfalso; first | (simp at hb7_3; done) | (simp only [decide_eq_true_eq, decide_eq_false_iff_not, Bool.not_eq_true', Bool.not_eq_false', Bool.not_eq_true, Bool.not_eq_false] at hb7_3; omega) | omega)
              all_goals
               try simp only [decide_eq_true_eq, decide_eq_false_iff_not, Bool.not_eq_true', Bool.not_eq_false', Bool.not_eq_true, Bool.not_eq_false, Option.isNone_none, Option.isNone_some, Option.isSome_none, Option.isSome_some, ne_eq, Decidable.not_not] at hb7_3
               first | refine WN.calm _ rfl rfl rfl rfl rfl (fun _ => r_field0 rfl (ev_t rfl) fld_58_1) ?_ | refine WN.calm _ rfl rfl rfl rfl rfl (fun _ => r_fieldAt rfl (ev_t rfl) fld_58_1) ?_
               refine WN.step _ rfl (SO.val rfl rfl rfl rfl (r_load rfl (ev_t rfl) flat_27 (Blk.cell hBx rfl)) ?_)
               refine ⟨hS7, ?_⟩
               refine WN.calm _ rfl rfl rfl rfl rfl (fun _ => r_eql rfl (ev_t rfl) ev_c) ?_
               refine WN.calm _ rfl rfl rfl rfl rfl (fun _ => r_pickF rfl (ev_t rfl) (ev_t rfl)) ?_
               refine WN.calm _ rfl rfl rfl rfl rfl (fun _ => r_move rfl (ev_t rfl)) ?_
               refine WN.cases 37 rfl (fun hb7_8 => ?_) (fun hb7_8 => ?_)
               · try (exfalso; first | (simp at hb7_8; done) | (simp only [decide_eq_true_eq, decide_eq_false_iff_not, Bool.not_eq_true', Bool.not_eq_false', Bool.not_eq_true, Bool.not_eq_false] at hb7_8; omega) | omega)
                 all_goals
                  try simp only [decide_eq_true_eq, decide_eq_false_iff_not, Bool.not_eq_true', Bool.not_eq_false', Bool.not_eq_true, Bool.not_eq_false, Option.isNone_none, Option.isNone_some, Option.isSome_none, Option.isSome_some, ne_eq, Decidable.not_not] at hb7_8
                  refine WN.skip _ rfl rfl rfl rfl ?_
                  refine WN.skip _ rfl rfl rfl rfl ?_
                  refine WN.skip _ rfl rfl rfl rfl ?_
                  refine WN.step _ rfl (SO.skip rfl rfl rfl ?_)
                  refine ⟨hS7, ?_⟩
                  refine WN.skip _ rfl rfl rfl rfl ?_
                  refine WN.skip _ rfl rfl rfl rfl ?_
                  refine WN.skip _ rfl rfl rfl rfl ?_
                  refine WN.skip _ rfl rfl rfl rfl ?_
                  refine WN.skip _ rfl rfl rfl rfl ?_
                  refine WN.skip _ rfl rfl rfl rfl ?_
                  refine WN.skip _ rfl rfl rfl rfl ?_
                  refine WN.skip _ rfl rfl rfl rfl ?_
                  refine WN.skip _ rfl rfl rfl rfl ?_
                  refine WN.skip _ rfl rfl rfl rfl ?_
                  refine WN.heldSkip _ rfl rfl rfl rfl hS7 ?_
                  refine WN.heldSkip _ rfl rfl rfl rfl hS7 ?_
                  refine WN.skip _ rfl rfl rfl rfl ?_
                  refine WN.skip _ rfl rfl rfl rfl ?_
                  refine WN.skip _ rfl rfl rfl rfl ?_
                  refine WN.skip _ rfl rfl rfl rfl ?_
                  refine WN.heldSkip _ rfl rfl rfl rfl hS7 ?_
                  refine WN.step _ rfl (SO.skip rfl rfl rfl ?_)
                  refine ⟨hS7, ?_⟩
                  refine WN.skip _ rfl rfl rfl rfl ?_
                  refine WN.skip _ rfl rfl rfl rfl ?_
                  refine WN.calm _ rfl rfl rfl rfl rfl (fun _ => r_pickT rfl (ev_t rfl) ev_c) ?_
                  refine WN.done ?_
                  refine WX.keep [(4, _), (5, _), (6, _), (7, _), (62, _)] ⟨rfl, rfl, rfl, rfl, rfl, trivial⟩ ?_
                  refine WX.next ?_
                  refine WC.cond_true rfl (ev_t rfl) ?_
                  have hbad : a = 0 ∨ b = 0 ∨ nextOK L a = false := by simp_all
                  refine WC.region ?_
                  refine WL.val rfl rfl rfl rfl (r_move rfl (ev_t rfl)) ?_
                  refine WL.cons (SO.call (fail_ok hR) rfl body_31 ⟨(ev_t rfl), trivial⟩ rfl rfl rfl rfl ?_)
                  rintro v w12 ⟨hR, hu12⟩
                  have hs12 := hu12.size
                  replace hU := hU.trans hu12 (by first | exact (fun _ _ h => h) | exact (fun _ _ h => h.elim) | (intro k hl hk; (try simp only [At, New, Grow, From, No] at hk ⊢); omega) | (intro k hl hk; first | (have h1 := hG k hk; have h2 := hRw k h1.1; omega) | ((try simp only [At, New, Grow, From, No] at *); omega)))
                  replace hT := hT.upd hu12 (by first | exact (fun _ _ _ h => h) | (intro k hk hl hS; have := hRw k hk; have := hRl k hk; simp only [At, No] at hS; omega))
                  replace hcl := hcl.upd hu12 (by first | exact (fun _ _ _ h => h) | (intro k hk hl hS; have := hCn k hk; first | (have := hRl _ (hG _ hS).1; omega) | (simp only [At] at hS; omega)))
                  replace hBx := hBx.upd hu12 (by first | exact (fun h => h) | (exact fun h => by have := hRl _ (hG _ h).1; omega) | (simp only [At]; omega))
                  replace hB := hB.upd hu12 (by first | exact (fun h => h) | (exact fun h => (hG t h).2.1 rfl) | (simp only [At, No]; omega))
                  replace hO := hO.upd hu12 (by first | exact (fun _ _ _ h => h) | (intro k hk hl hS; have := hG k hk; have := hRw k this.1; simp only [At, No] at hS; omega))
                  refine WL.nil ?_
                  refine WX.keep [(4, _), (5, _), (6, _), (7, _)] ⟨rfl, rfl, rfl, rfl, trivial⟩ ?_
                  refine WX.meet [(4, _), (5, _), (6, _), (7, _)] ⟨rfl, rfl, rfl, rfl, trivial⟩ ?_
                  first
                    | exact ⟨none, hU, hR, hT, hBx, hcl, .inl ⟨rfl, by rw [← hs, loadL_bad ha hb hbad]⟩, rfl⟩
                    | (refine ⟨s3, hU, hR, hT, hBx, hcl, ?_, rfl⟩; rw [loadL_good ha hb hd (by simp_all)] at hs; cases s3 with | none => (rw [loadL_none] at hs; subst hs; exact .inl ⟨rfl, rfl⟩) | some q3 => exact .inr ⟨by simp, hs⟩)
               · try (exfalso; first | (simp at hb7_8; done) | (simp only [decide_eq_true_eq, decide_eq_false_iff_not, Bool.not_eq_true', Bool.not_eq_false', Bool.not_eq_true, Bool.not_eq_false] at hb7_8; omega) | omega)
                 all_goals
                  try simp only [decide_eq_true_eq, decide_eq_false_iff_not, Bool.not_eq_true', Bool.not_eq_false', Bool.not_eq_true, Bool.not_eq_false, Option.isNone_none, Option.isNone_some, Option.isSome_none, Option.isSome_some, ne_eq, Decidable.not_not] at hb7_8
                  refine WN.calm _ rfl rfl rfl rfl rfl (fun _ => r_move rfl (ev_t rfl)) ?_
                  refine WN.calm _ rfl rfl rfl rfl rfl (fun _ => r_nilCheck rfl (ev_t rfl)) ?_
                  first | refine WN.calm _ rfl rfl rfl rfl rfl (fun _ => r_field0 rfl (ev_t rfl) fld_55_0) ?_ | refine WN.calm _ rfl rfl rfl rfl rfl (fun _ => r_fieldAt rfl (ev_t rfl) fld_55_0) ?_
                  refine WN.step _ rfl (SO.val rfl rfl rfl rfl (r_load rfl (ev_t rfl) flat_53 (Blk.cell hB rfl)) ?_)
                  refine ⟨hS7, ?_⟩
                  refine WN.calm _ rfl rfl rfl rfl rfl (fun _ => r_lenSlice (ts := #[]) rfl (ev_t rfl) elem_53) ?_
                  refine WN.calm _ rfl rfl rfl rfl rfl (fun _ => r_gtr rfl (ev_t rfl) ev_c) ?_
                  refine WN.calm _ rfl rfl rfl rfl rfl (fun _ => r_move rfl (ev_t rfl)) ?_
                  refine WN.cases 44 rfl (fun hb7_15 => ?_) (fun hb7_15 => ?_)
                  · try (exfalso; first | (simp at hb7_15; done) | (simp only [decide_eq_true_eq, decide_eq_false_iff_not, Bool.not_eq_true', Bool.not_eq_false', Bool.not_eq_true, Bool.not_eq_false] at hb7_15; omega) | omega)
                    all_goals
                     try simp only [decide_eq_true_eq, decide_eq_false_iff_not, Bool.not_eq_true', Bool.not_eq_false', Bool.not_eq_true, Bool.not_eq_false, Option.isNone_none, Option.isNone_some, Option.isSome_none, Option.isSome_some, ne_eq, Decidable.not_not] at hb7_15
                     obtain ⟨r, hg⟩ : ∃ r, V[V.length - 1]? = some r := ⟨_, List.getElem?_eq_getElem (by omega)⟩
                     rw [hg] at hnx
                     have hr := hO.rd (by omega)
                     obtain ⟨bb, off, rfl, _⟩ := hr.open (by omega)
                     have hcell := flatMap_get LsV.cells_len hg
                     refine WN.calm _ rfl rfl rfl rfl rfl (fun _ => r_move rfl (ev_t rfl)) ?_
                     refine WN.calm _ rfl rfl rfl rfl rfl (fun _ => r_nilCheck rfl (ev_t rfl)) ?_
                     first | refine WN.calm _ rfl rfl rfl rfl rfl (fun _ => r_field0 rfl (ev_t rfl) fld_55_0) ?_ | refine WN.calm _ rfl rfl rfl rfl rfl (fun _ => r_fieldAt rfl (ev_t rfl) fld_55_0) ?_
                     refine WN.calm _ rfl rfl rfl rfl rfl (fun _ => r_move rfl (ev_t rfl)) ?_
                     refine WN.calm _ rfl rfl rfl rfl rfl (fun _ => r_nilCheck rfl (ev_t rfl)) ?_
                     first | refine WN.calm _ rfl rfl rfl rfl rfl (fun _ => r_field0 rfl (ev_t rfl) fld_55_0) ?_ | refine WN.calm _ rfl rfl rfl rfl rfl (fun _ => r_fieldAt rfl (ev_t rfl) fld_55_0) ?_
                     first | refine WN.calm _ rfl rfl rfl rfl rfl (fun _ => r_field0 rfl (ev_t rfl) fld_58_0) ?_ | refine WN.calm _ rfl rfl rfl rfl rfl (fun _ => r_fieldAt rfl (ev_t rfl) fld_58_0) ?_
                     refine WN.held _ rfl rfl rfl rfl rfl hS7 (fun w' hS => r_load rfl (ev_t rfl) flat_53 (Blk.cell (hB.upd hS (fun h => h)) rfl)) ?_
                     refine WN.held _ rfl rfl rfl rfl rfl hS7 (fun w' hS => r_load rfl (ev_t rfl) flat_53 (Blk.cell (hB.upd hS (fun h => h)) rfl)) ?_
                     refine WN.calm _ rfl rfl rfl rfl rfl (fun _ => r_lenSlice (ts := #[]) rfl (ev_t rfl) elem_53) ?_
                     first | refine WN.calm _ rfl rfl rfl rfl rfl (fun _ => r_subN rfl (ev_t rfl) ev_c (by simp only [inK]; omega)) ?_ | refine WN.calm _ rfl rfl rfl rfl rfl (fun _ => r_sub rfl (ev_t rfl) ev_c) ?_
                     refine WN.calm _ rfl rfl rfl rfl rfl (fun _ => r_indexAddr rfl (ev_t rfl) (ev_t rfl) elem_53 size_58 (by omega) (by omega)) ?_
                     first | refine WN.calm _ rfl rfl rfl rfl rfl (fun _ => r_field0 rfl (ev_t rfl) fld_58_0) ?_ | refine WN.calm _ rfl rfl rfl rfl rfl (fun _ => r_fieldAt rfl (ev_t rfl) fld_58_0) ?_
                     refine WN.held _ rfl rfl rfl rfl rfl hS7 (fun w' hS => r_load rfl (ev_t rfl) flat_27 (Rd.cell (hr.upd hS (fun _ _ _ h => h)) (j := (V.length - 1) * 3) (by omega) (hcell 0 _ rfl))) ?_
                     refine WN.step _ rfl (SO.val rfl rfl rfl rfl (r_load rfl (ev_t rfl) flat_27 (Blk.cell hBx rfl)) ?_)
                     refine ⟨hS7, ?_⟩
                     refine WN.calm _ rfl rfl rfl rfl rfl (fun _ => r_geq rfl (ev_t rfl) (ev_t rfl)) ?_
                     refine WN.calm _ rfl rfl rfl rfl rfl (fun _ => r_pickT rfl (ev_t rfl) (ev_t rfl)) ?_
                     refine WN.calm _ rfl rfl rfl rfl rfl (fun _ => r_pickF rfl (ev_t rfl) (ev_t rfl)) ?_
                     refine WN.done ?_
                     refine WX.keep [(4, _), (5, _), (6, _), (7, _), (62, _)] ⟨rfl, rfl, rfl, rfl, rfl, trivial⟩ ?_
                     refine WX.next ?_
                     refine WC.cond rfl (ev_t rfl) (fun hc7 => ?_) (fun hc7 => ?_)
                     · try (exfalso; first | (simp at hc7; done) | (simp only [decide_eq_true_eq, decide_eq_false_iff_not, Bool.not_eq_true', Bool.not_eq_false', Bool.not_eq_true, Bool.not_eq_false] at hc7; omega) | omega)
                       all_goals
                        try simp only [decide_eq_true_eq, decide_eq_false_iff_not, Bool.not_eq_true', Bool.not_eq_false', Bool.not_eq_true, Bool.not_eq_false, Option.isNone_none, Option.isNone_some, Option.isSome_none, Option.isSome_some, ne_eq, Decidable.not_not] at hc7
                        have hbad : a = 0 ∨ b = 0 ∨ nextOK L a = false := by simp_all
                        refine WC.region ?_
                        refine WL.val rfl rfl rfl rfl (r_move rfl (ev_t rfl)) ?_
                        refine WL.cons (SO.call (fail_ok hR) rfl body_31 ⟨(ev_t rfl), trivial⟩ rfl rfl rfl rfl ?_)
                        rintro v w13 ⟨hR, hu13⟩
                        have hs13 := hu13.size
                        replace hU := hU.trans hu13 (by first | exact (fun _ _ h => h) | exact (fun _ _ h => h.elim) | (intro k hl hk; (try simp only [At, New, Grow, From, No] at hk ⊢); omega) | (intro k hl hk; first | (have h1 := hG k hk; have h2 := hRw k h1.1; omega) | ((try simp only [At, New, Grow, From, No] at *); omega)))
                        replace hT := hT.upd hu13 (by first | exact (fun _ _ _ h => h) | (intro k hk hl hS; have := hRw k hk; have := hRl k hk; simp only [At, No] at hS; omega))
                        replace hcl := hcl.upd hu13 (by first | exact (fun _ _ _ h => h) | (intro k hk hl hS; have := hCn k hk; first | (have := hRl _ (hG _ hS).1; omega) | (simp only [At] at hS; omega)))
                        replace hBx := hBx.upd hu13 (by first | exact (fun h => h) | (exact fun h => by have := hRl _ (hG _ h).1; omega) | (simp only [At]; omega))
                        replace hB := hB.upd hu13 (by first | exact (fun h => h) | (exact fun h => (hG t h).2.1 rfl) | (simp only [At, No]; omega))
                        replace hO := hO.upd hu13 (by first | exact (fun _ _ _ h => h) | (intro k hk hl hS; have := hG k hk; have := hRw k this.1; simp only [At, No] at hS; omega))
                        refine WL.nil ?_
                        refine WX.keep [(4, _), (5, _), (6, _), (7, _)] ⟨rfl, rfl, rfl, rfl, trivial⟩ ?_
                        refine WX.meet [(4, _), (5, _), (6, _), (7, _)] ⟨rfl, rfl, rfl, rfl, trivial⟩ ?_
                        first
                          | exact ⟨none, hU, hR, hT, hBx, hcl, .inl ⟨rfl, by rw [← hs, loadL_bad ha hb hbad]⟩, rfl⟩
                          | (refine ⟨s3, hU, hR, hT, hBx, hcl, ?_, rfl⟩; rw [loadL_good ha hb hd (by simp_all)] at hs; cases s3 with | none => (rw [loadL_none] at hs; subst hs; exact .inl ⟨rfl, rfl⟩) | some q3 => exact .inr ⟨by simp, hs⟩)
                     · try (exfalso; first | (simp at hc7; done) | (simp only [decide_eq_true_eq, decide_eq_false_iff_not, Bool.not_eq_true', Bool.not_eq_false', Bool.not_eq_true, Bool.not_eq_false] at hc7; omega) | omega)
                       all_goals
                        try simp only [decide_eq_true_eq, decide_eq_false_iff_not, Bool.not_eq_true', Bool.not_eq_false', Bool.not_eq_true, Bool.not_eq_false, Option.isNone_none, Option.isNone_some, Option.isSome_none, Option.isSome_some, ne_eq, Decidable.not_not] at hc7
                        refine WC.skip ?_
                        refine WX.meet [(4, _), (5, _), (6, _), (7, _)] ⟨rfl, rfl, rfl, rfl, trivial⟩ ?_
                        first
                          | exact ⟨none, hU, hR, hT, hBx, hcl, .inl ⟨rfl, by rw [← hs, loadL_bad ha hb hbad]⟩, rfl⟩
                          | (refine ⟨s3, hU, hR, hT, hBx, hcl, ?_, rfl⟩; rw [loadL_good ha hb hd (by simp_all)] at hs; cases s3 with | none => (rw [loadL_none] at hs; subst hs; exact .inl ⟨rfl, rfl⟩) | some q3 => exact .inr ⟨by simp, hs⟩)
                  · try (exfalso; first | (simp at hb7_15; done) | (simp only [decide_eq_true_eq, decide_eq_false_iff_not, Bool.not_eq_true', Bool.not_eq_false', Bool.not_eq_true, Bool.not_eq_false] at hb7_15; omega) | omega)
                    all_goals
                     try simp only [decide_eq_true_eq, decide_eq_false_iff_not, Bool.not_eq_true', Bool.not_eq_false', Bool.not_eq_true, Bool.not_eq_false, Option.isNone_none, Option.isNone_some, Option.isSome_none, Option.isSome_some, ne_eq, Decidable.not_not] at hb7_15
                     refine WN.skip _ rfl rfl rfl rfl ?_
                     refine WN.skip _ rfl rfl rfl rfl ?_
                     refine WN.skip _ rfl rfl rfl rfl ?_
                     refine WN.skip _ rfl rfl rfl rfl ?_
                     refine WN.skip _ rfl rfl rfl rfl ?_
                     refine WN.skip _ rfl rfl rfl rfl ?_
                     refine WN.skip _ rfl rfl rfl rfl ?_
                     refine WN.heldSkip _ rfl rfl rfl rfl hS7 ?_
                     refine WN.heldSkip _ rfl rfl rfl rfl hS7 ?_
                     refine WN.skip _ rfl rfl rfl rfl ?_
                     refine WN.skip _ rfl rfl rfl rfl ?_
                     refine WN.skip _ rfl rfl rfl rfl ?_
                     refine WN.skip _ rfl rfl rfl rfl ?_
                     refine WN.heldSkip _ rfl rfl rfl rfl hS7 ?_
                     refine WN.step _ rfl (SO.skip rfl rfl rfl ?_)
                     refine ⟨hS7, ?_⟩
                     refine WN.skip _ rfl rfl rfl rfl ?_
                     refine WN.calm _ rfl rfl rfl rfl rfl (fun _ => r_pickF rfl (ev_t rfl) ev_c) ?_
                     refine WN.calm _ rfl rfl rfl rfl rfl (fun _ => r_pickF rfl (ev_t rfl) (ev_t rfl)) ?_
                     refine WN.done ?_
                     refine WX.keep [(4, _), (5, _), (6, _), (7, _), (62, _)] ⟨rfl, rfl, rfl, rfl, rfl, trivial⟩ ?_
                     refine WX.next ?_
                     refine WC.cond_false rfl (ev_t rfl) ?_
                     refine WC.skip ?_
                     refine WX.meet [(4, _), (5, _), (6, _), (7, _)] ⟨rfl, rfl, rfl, rfl, trivial⟩ ?_
                     first
                       | exact ⟨none, hU, hR, hT, hBx, hcl, .inl ⟨rfl, by rw [← hs, loadL_bad ha hb hbad]⟩, rfl⟩
                       | (refine ⟨s3, hU, hR, hT, hBx, hcl, ?_, rfl⟩; rw [loadL_good ha hb hd (by simp_all)] at hs; cases s3 with | none => (rw [loadL_none] at hs; subst hs; exact .inl ⟨rfl, rfl⟩) | some q3 => exact .inr ⟨by simp, hs⟩)
          · clear hU hR hT hBx hcl
            rintro E w2 ⟨s4, hU, hR, hT, hBx, hcl, hs4, rfl⟩
            have hbl := hBx.lt
            obtain ⟨A, c, V, G, H, hB, hO, hD, hLV, _, _, hG, hH⟩ := id hT
            have hlen : V.length = L.length := by rw [← hLV, List.length_map]
            have hV := Upd.refl No w2
            have hw2 := hU.size
            refine WC.draws' (fun u0_ u1_ => Upd No u0_ u1_) (fun j => [0, 0, 0, 0, 0, 1, 1, 2, 0, 0, 2].getD j 0) (.calm 0 (.calm 1 (.calm 2 (.calm 3 (.held 4 (.one 5 (.one 6 (.one 7 (.calm 8 (.calm 9 (.one 10 (.done)))))))))))) mixed (by kernel_rfl) (by repeat (first | with_reducible exact Deaf.body | with_reducible apply Deaf.then | with_reducible apply Deaf.block)) ?_
            intro w14 hu14
            have hz14 := congrArg Array.size hu14.2.2.2
            replace hu14 := Upd.of_draw hu14
            have hs14 := hu14.size
            replace hU := hU.trans hu14 (by first | exact (fun _ _ h => h) | exact (fun _ _ h => h.elim) | (intro k hl hk; (try simp only [At, New, Grow, From, No] at hk ⊢); omega) | (intro k hl hk; first | (have h1 := hG k hk; have h2 := hRw k h1.1; omega) | ((try simp only [At, New, Grow, From, No] at *); omega)))
            replace hR := hR.upd hu14 (by first | exact (fun h => h) | (exact fun h => by have := hRw _ (hG _ h).1; omega) | (simp only [At, No]; omega)) (by first | exact (fun _ _ _ h => h) | (intro k hk hl hS; have := hFl k hk; first | (have := hRw _ (hG _ hS).1; omega) | (simp only [At, No] at hS; omega)))
            replace hT := hT.upd hu14 (by first | exact (fun _ _ _ h => h) | (intro k hk hl hS; have := hRw k hk; have := hRl k hk; simp only [At, No] at hS; omega))
            replace hBx := hBx.upd hu14 (by first | exact (fun h => h) | (exact fun h => by have := hRl _ (hG _ h).1; omega) | (simp only [At]; omega))
            replace hcl := hcl.upd hu14 (by first | exact (fun _ _ _ h => h) | (intro k hk hl hS; have := hCn k hk; first | (have := hRl _ (hG _ hS).1; omega) | (simp only [At] at hS; omega)))
            replace hB := hB.upd hu14 (by first | exact (fun h => h) | (exact fun h => (hG t h).2.1 rfl) | (simp only [At, No]; omega))
            replace hO := hO.upd hu14 (by first | exact (fun _ _ _ h => h) | (intro k hk hl hS; have := hG k hk; have := hRw k this.1; simp only [At, No] at hS; omega))
            replace hV := hV.upd hu14 (by first | exact (fun _ _ h => h) | exact (fun _ _ h => h.elim) | (intro k hk hl; simp only [At, No] at *; omega))
            have hS9 := Upd.refl No w14
            refine WN.calm _ rfl rfl rfl rfl rfl (fun _ => r_move rfl (ev_t rfl)) ?_
            refine WN.calm _ rfl rfl rfl rfl rfl (fun _ => r_move rfl (ev_t rfl)) ?_
            refine WN.calm _ rfl rfl rfl rfl rfl (fun _ => r_nilCheck rfl (ev_t rfl)) ?_
            first | refine WN.calm _ rfl rfl rfl rfl rfl (fun _ => r_field0 rfl (ev_t rfl) fld_55_0) ?_ | refine WN.calm _ rfl rfl rfl rfl rfl (fun _ => r_fieldAt rfl (ev_t rfl) fld_55_0) ?_
            refine WN.held _ rfl rfl rfl rfl rfl hS9 (fun w' hS => r_load rfl (ev_t rfl) flat_53 (Blk.cell (hB.upd hS (fun h => h)) rfl)) ?_
            refine WN.step _ rfl (SO.val rfl rfl rfl rfl (r_loadAgg (vs := [_, _, _]) rfl (ev_t rfl) agg_58 size_58 (Blk.cellsL hBx)) ?_)
            refine ⟨hS9, ?_⟩
            refine WN.step _ rfl (SO.alloc rfl rfl rfl rfl (r_buildSlice (cs := #[_, _, _]) (vs := [(0, _)]) rfl ⟨⟨rfl, (ev_t rfl)⟩, trivial⟩ row_53 rfl rfl) ?_)
            intro w15 hu15 hB15 hz15
            have hs15 := hu15.size
            replace hS9 := Upd.transA hS9 hu15
            replace hU := hU.trans hu15 (by first | exact (fun _ _ h => h) | exact (fun _ _ h => h.elim) | (intro k hl hk; (try simp only [At, New, Grow, From, No] at hk ⊢); omega) | (intro k hl hk; first | (have h1 := hG k hk; have h2 := hRw k h1.1; omega) | ((try simp only [At, New, Grow, From, No] at *); omega)))
            replace hR := hR.upd hu15 (by first | exact (fun h => h) | (exact fun h => by have := hRw _ (hG _ h).1; omega) | (simp only [At, No]; omega)) (by first | exact (fun _ _ _ h => h) | (intro k hk hl hS; have := hFl k hk; first | (have := hRw _ (hG _ hS).1; omega) | (simp only [At, No] at hS; omega)))
            replace hT := hT.upd hu15 (by first | exact (fun _ _ _ h => h) | (intro k hk hl hS; have := hRw k hk; have := hRl k hk; simp only [At, No] at hS; omega))
            replace hBx := hBx.upd hu15 (by first | exact (fun h => h) | (exact fun h => by have := hRl _ (hG _ h).1; omega) | (simp only [At]; omega))
            replace hcl := hcl.upd hu15 (by first | exact (fun _ _ _ h => h) | (intro k hk hl hS; have := hCn k hk; first | (have := hRl _ (hG _ hS).1; omega) | (simp only [At] at hS; omega)))
            replace hB := hB.upd hu15 (by first | exact (fun h => h) | (exact fun h => (hG t h).2.1 rfl) | (simp only [At, No]; omega))
            replace hO := hO.upd hu15 (by first | exact (fun _ _ _ h => h) | (intro k hk hl hS; have := hG k hk; have := hRw k this.1; simp only [At, No] at hS; omega))
            replace hV := hV.upd hu15 (by first | exact (fun _ _ h => h) | exact (fun _ _ h => h.elim) | (intro k hk hl; simp only [At, No] at *; omega))
            refine ⟨hS9, ?_⟩
            have hwA := hV
            have hclA := hcl.rd (by omega)
            have hsA := hwA.size
            refine WN.step _ rfl (SO.append hO (Rd.of_blk (F := At _) (n := 1) (sz := 3) hB15 rfl rfl (by omega)) row_53 (by intro u hu; simp only [List.mem_cons, List.not_mem_nil, or_false, Array.toList] at hu; rcases hu with rfl | rfl | rfl <;> rfl) (le_maxLen (by omega)) (by omega) rfl (ev_t rfl) (ev_t rfl) rfl rfl rfl rfl ?_)
            intro v16 w16 ho hu16
            have hs16 := hu16.size
            try replace hS9 := Upd.transA hS9 hu16
            replace hU := hU.trans hu16 (by first | exact (fun _ _ h => h) | exact (fun _ _ h => h.elim) | (intro k hl hk; (try simp only [At, New, Grow, From, No] at hk ⊢); omega) | (intro k hl hk; first | (have h1 := hG k hk; have h2 := hRw k h1.1; omega) | ((try simp only [At, New, Grow, From, No] at *); omega)))
            replace hR := hR.upd hu16 (by first | exact (fun h => h) | (exact fun h => by have := hRw _ (hG _ h).1; omega) | (simp only [At, No]; omega)) (by first | exact (fun _ _ _ h => h) | (intro k hk hl hS; have := hFl k hk; first | (have := hRw _ (hG _ hS).1; omega) | (simp only [At, No] at hS; omega)))
            replace hBx := hBx.upd hu16 (by first | exact (fun h => h) | (exact fun h => by have := hRl _ (hG _ h).1; omega) | (simp only [At]; omega))
            replace hcl := hcl.upd hu16 (by first | exact (fun _ _ _ h => h) | (intro k hk hl hS; have := hCn k hk; first | (have := hRl _ (hG _ hS).1; omega) | (simp only [At] at hS; omega)))
            replace hB := hB.upd hu16 (by first | exact (fun h => h) | (exact fun h => (hG t h).2.1 rfl) | (simp only [At, No]; omega))
            refine ⟨trivial, ?_⟩
            obtain ⟨A16, c16, rfl, hc16⟩ := Own.form ho
            have hwB := hu16
            refine WN.calm _ rfl rfl rfl rfl rfl (fun _ => r_nilCheck rfl (ev_t rfl)) ?_
            first | refine WN.calm _ rfl rfl rfl rfl rfl (fun _ => r_field0 rfl (ev_t rfl) fld_55_0) ?_ | refine WN.calm _ rfl rfl rfl rfl rfl (fun _ => r_fieldAt rfl (ev_t rfl) fld_55_0) ?_
            refine WN.step _ rfl (SO.store rfl (ev_t rfl) (ev_t rfl) size_53 hB rfl rfl rfl rfl rfl ?_)
            intro w17 hu17 hB2 hz
            have hpush := IsTG.push (TT := 55) (r := ⟨⟨a, b, d⟩, .slice Ad d.length cd⟩) (fun r hr => (hD r hr).upd hwA (fun _ _ _ h => h)) htR (by omega) (fun k hk => by have := hG k hk; exact ⟨this.1, this.2.1, by omega⟩) (fun k hk => by have := hH k hk; exact ⟨this.1, this.2.1, this.2.2.1, by omega⟩) hclA (fun k hk => by have := hCn k hk; exact ⟨by omega, fun h => by have := hRl _ (hG k h).1; omega, by omega⟩) ho hwB hB2 hu17
            have hs17 := hu17.size
            have hs16 := hwB.size
            rw [hLV] at hpush
            have hs17 := hu17.size
            try replace hS9 := Upd.transA hS9 hu17
            replace hU := hU.trans hu17 (by first | exact (fun _ _ h => h) | exact (fun _ _ h => h.elim) | (intro k hl hk; (try simp only [At, New, Grow, From, No] at hk ⊢); omega) | (intro k hl hk; first | (have h1 := hG k hk; have h2 := hRw k h1.1; omega) | ((try simp only [At, New, Grow, From, No] at *); omega)))
            replace hR := hR.upd hu17 (by first | exact (fun h => h) | (exact fun h => by have := hRw _ (hG _ h).1; omega) | (simp only [At, No]; omega)) (by first | exact (fun _ _ _ h => h) | (intro k hk hl hS; have := hFl k hk; first | (have := hRw _ (hG _ hS).1; omega) | (simp only [At, No] at hS; omega)))
            replace hBx := hBx.upd hu17 (by first | exact (fun h => h) | (exact fun h => by have := hRl _ (hG _ h).1; omega) | (simp only [At]; omega))
            replace hcl := hcl.upd hu17 (by first | exact (fun _ _ _ h => h) | (intro k hk hl hS; have := hCn k hk; first | (have := hRl _ (hG _ hS).1; omega) | (simp only [At] at hS; omega)))
            refine ⟨trivial, ?_⟩
            refine WN.done ?_
            refine WX.keep [(4, _), (5, _), (6, _)] ⟨rfl, rfl, rfl, trivial⟩ ?_
            refine WX.blockNormal ?_
            refine WX.next ?_
            refine WC.region ?_
            refine WL.val rfl rfl rfl rfl (r_move rfl (ev_t rfl)) ?_
            first | refine WL.val rfl rfl rfl rfl (r_subN rfl (ev_t rfl) ev_c (by simp only [inK]; omega)) ?_ | refine WL.val rfl rfl rfl rfl (r_sub rfl (ev_t rfl) ev_c) ?_
            refine WL.val rfl rfl rfl rfl (r_assign rfl (ev_t rfl)) ?_
            refine WL.nil ?_
            refine WX.keep [(4, _), (5, _), (6, _)] ⟨rfl, rfl, rfl, trivial⟩ ?_
            refine WX.meet [(4, _), (5, _), (6, _)] ⟨rfl, rfl, rfl, trivial⟩ ?_
            refine ⟨q1, by omega, s4, L ++ [⟨a, b, d⟩], _, by omega, by simp; omega, hU, hR, hpush, ?_, ?_, .inl (.inl htR), hs4, by simp⟩
            · rintro k ((hk | hk) | hk)
              · exact hRw k hk
              · omega
              · have := hCn k hk; omega
            · rintro k ((hk | hk) | hk)
              · have := hRl k hk; omega
              · omega
              · have := hCn k hk; omega
       · try (exfalso; first | (simp at hc4; done) | (simp only [decide_eq_true_eq, decide_eq_false_iff_not, Bool.not_eq_true', Bool.not_eq_false', Bool.not_eq_true, Bool.not_eq_false] at hc4; omega) | omega)
         all_goals
          try simp only [decide_eq_true_eq, decide_eq_false_iff_not, Bool.not_eq_true', Bool.not_eq_false', Bool.not_eq_true, Bool.not_eq_false, Option.isNone_none, Option.isNone_some, Option.isSome_none, Option.isSome_some, ne_eq, Decidable.not_not] at hc4
          refine WC.exit ?_
          refine WX.thenExit ?_
          refine WX.thenExit ?_
          refine WX.blockHere ?_
          refine WX.next ?_
          refine WC.seq ?_
          refine WC.seq ?_
          refine WC.region ?_
          refine WL.val rfl rfl rfl rfl (r_move rfl (ev_t rfl)) ?_
          refine WL.cons (SO.call (end_ok hR) rfl body_32 ⟨(ev_t rfl), trivial⟩ rfl rfl rfl rfl ?_)
          rintro v w18 ⟨rfl, he⟩
          obtain rfl := he.symm
          refine WL.val rfl rfl rfl rfl (r_not rfl (ev_t rfl)) ?_
          refine WL.nil ?_
          refine WX.keep [(5, _), (77, _)] ⟨rfl, rfl, trivial⟩ ?_
          refine WX.next ?_
          refine WC.cond rfl (ev_t rfl) (fun hc10 => ?_) (fun hc10 => ?_)
          · try (exfalso; first | (simp at hc10; done) | (simp only [decide_eq_true_eq, decide_eq_false_iff_not, Bool.not_eq_true', Bool.not_eq_false', Bool.not_eq_true, Bool.not_eq_false] at hc10; omega) | omega)
            all_goals
             try simp only [decide_eq_true_eq, decide_eq_false_iff_not, Bool.not_eq_true', Bool.not_eq_false', Bool.not_eq_true, Bool.not_eq_false, Option.isNone_none, Option.isNone_some, Option.isSome_none, Option.isSome_some, ne_eq, Decidable.not_not] at hc10
             refine WC.seq ?_
             have hno : fin.1 ≠ some [] := by
               rcases hs with ⟨_, h2⟩ | ⟨h1, h2⟩
               · rw [h2]; simp
               · cases s with
                 | none => exact absurd rfl h1
                 | some r =>
                   have h0 : q = 0 := by first | omega | (exfalso; simp_all; done)
                   subst h0
                   subst h2
                   simpa [loadL] using hc10
             refine WC.region ?_
             refine WL.val rfl rfl rfl rfl (r_assign rfl ev_c) ?_
             refine WL.val rfl rfl rfl rfl (r_assign rfl ev_c) ?_
             refine WL.nil ?_
             refine WX.keep [(2, _), (3, _)] ⟨rfl, rfl, trivial⟩ ?_
             refine WX.next ?_
             refine WC.ret ?_
             refine WX.thenRet ?_
             refine WX.retE2 rfl rfl rfl ?_
             exact ⟨hU, .inr ⟨hno, rfl⟩⟩
          · try (exfalso; first | (simp at hc10; done) | (simp only [decide_eq_true_eq, decide_eq_false_iff_not, Bool.not_eq_true', Bool.not_eq_false', Bool.not_eq_true, Bool.not_eq_false] at hc10; omega) | omega)
            all_goals
             try simp only [decide_eq_true_eq, decide_eq_false_iff_not, Bool.not_eq_true', Bool.not_eq_false', Bool.not_eq_true, Bool.not_eq_false, Option.isNone_none, Option.isNone_some, Option.isSome_none, Option.isSome_some, ne_eq, Decidable.not_not] at hc10
             refine WC.skip ?_
             refine WX.next ?_
             refine WC.seq ?_
             have hyes : s = some [] := by simp_all
             subst hyes
             have h0 : q = 0 := by first | omega | simp_all
             subst h0
             have hf : ((some [], L) : Option (List UInt8) × List Ls) = fin := by rcases hs with h | h; exact absurd h.1 (by simp); exact h.2
             subst hf
             refine WC.region ?_
             refine WL.val rfl rfl rfl rfl (r_move rfl (ev_t rfl)) ?_
             refine WL.val rfl rfl rfl rfl (r_assign rfl (ev_t rfl)) ?_
             refine WL.val rfl rfl rfl rfl (r_assign rfl ev_c) ?_
             refine WL.nil ?_
             refine WX.keep [(2, _), (3, _)] ⟨rfl, rfl, trivial⟩ ?_
             refine WX.next ?_
             refine WC.ret ?_
             refine WX.retE2 rfl rfl rfl ?_
             exact ⟨hU, .inl ⟨rfl, t, rfl, IsTG.mono hT (fun k hk hl => ⟨by have := hRw k hk; omega, by omega⟩)⟩⟩
    · try (exfalso; first | (simp at hb4_2; done) | (simp only [decide_eq_true_eq, decide_eq_false_iff_not, Bool.not_eq_true', Bool.not_eq_false', Bool.not_eq_true, Bool.not_eq_false] at hb4_2; omega) | omega)
      all_goals
       try simp only [decide_eq_true_eq, decide_eq_false_iff_not, Bool.not_eq_true', Bool.not_eq_false', Bool.not_eq_true, Bool.not_eq_false, Option.isNone_none, Option.isNone_some, Option.isSome_none, Option.isSome_some, ne_eq, Decidable.not_not] at hb4_2
       refine WL.skip rfl rfl rfl ?_
       refine WL.skip rfl rfl rfl ?_
       refine WL.skip rfl rfl rfl ?_
       refine WL.val rfl rfl rfl rfl (r_pickF rfl (ev_t rfl) ev_c) ?_
       refine WL.nil ?_
       refine WX.keep [(4, _), (5, _), (6, _), (19, _)] ⟨rfl, rfl, rfl, rfl, trivial⟩ ?_
       refine WX.next ?_
       refine WC.cond_false rfl (ev_t rfl) ?_
       refine WC.exit ?_
       refine WX.thenExit ?_
       refine WX.thenExit ?_
       refine WX.blockHere ?_
       refine WX.next ?_
       refine WC.seq ?_
       refine WC.seq ?_
       refine WC.region ?_
       refine WL.val rfl rfl rfl rfl (r_move rfl (ev_t rfl)) ?_
       refine WL.cons (SO.call (end_ok hR) rfl body_32 ⟨(ev_t rfl), trivial⟩ rfl rfl rfl rfl ?_)
       rintro v w19 ⟨rfl, he⟩
       obtain rfl := he.symm
       refine WL.val rfl rfl rfl rfl (r_not rfl (ev_t rfl)) ?_
       refine WL.nil ?_
       refine WX.keep [(5, _), (77, _)] ⟨rfl, rfl, trivial⟩ ?_
       refine WX.next ?_
       refine WC.cond rfl (ev_t rfl) (fun hc10 => ?_) (fun hc10 => ?_)
       · try (exfalso; first | (simp at hc10; done) | (simp only [decide_eq_true_eq, decide_eq_false_iff_not, Bool.not_eq_true', Bool.not_eq_false', Bool.not_eq_true, Bool.not_eq_false] at hc10; omega) | omega)
         all_goals
          try simp only [decide_eq_true_eq, decide_eq_false_iff_not, Bool.not_eq_true', Bool.not_eq_false', Bool.not_eq_true, Bool.not_eq_false, Option.isNone_none, Option.isNone_some, Option.isSome_none, Option.isSome_some, ne_eq, Decidable.not_not] at hc10
          refine WC.seq ?_
          have hno : fin.1 ≠ some [] := by
            rcases hs with ⟨_, h2⟩ | ⟨h1, h2⟩
            · rw [h2]; simp
            · cases s with
              | none => exact absurd rfl h1
              | some r =>
                have h0 : q = 0 := by first | omega | (exfalso; simp_all; done)
                subst h0
                subst h2
                simpa [loadL] using hc10
          refine WC.region ?_
          refine WL.val rfl rfl rfl rfl (r_assign rfl ev_c) ?_
          refine WL.val rfl rfl rfl rfl (r_assign rfl ev_c) ?_
          refine WL.nil ?_
          refine WX.keep [(2, _), (3, _)] ⟨rfl, rfl, trivial⟩ ?_
          refine WX.next ?_
          refine WC.ret ?_
          refine WX.thenRet ?_
          refine WX.retE2 rfl rfl rfl ?_
          exact ⟨hU, .inr ⟨hno, rfl⟩⟩
       · try (exfalso; first | (simp at hc10; done) | (simp only [decide_eq_true_eq, decide_eq_false_iff_not, Bool.not_eq_true', Bool.not_eq_false', Bool.not_eq_true, Bool.not_eq_false] at hc10; omega) | omega)
         all_goals
          try simp only [decide_eq_true_eq, decide_eq_false_iff_not, Bool.not_eq_true', Bool.not_eq_false', Bool.not_eq_true, Bool.not_eq_false, Option.isNone_none, Option.isNone_some, Option.isSome_none, Option.isSome_some, ne_eq, Decidable.not_not] at hc10
          refine WC.skip ?_
          refine WX.next ?_
          refine WC.seq ?_
          have hyes : s = some [] := by simp_all
          subst hyes
          have h0 : q = 0 := by first | omega | simp_all
          subst h0
          have hf : ((some [], L) : Option (List UInt8) × List Ls) = fin := by rcases hs with h | h; exact absurd h.1 (by simp); exact h.2
          subst hf
          refine WC.region ?_
          refine WL.val rfl rfl rfl rfl (r_move rfl (ev_t rfl)) ?_
          refine WL.val rfl rfl rfl rfl (r_assign rfl (ev_t rfl)) ?_
          refine WL.val rfl rfl rfl rfl (r_assign rfl ev_c) ?_
          refine WL.nil ?_
          refine WX.keep [(2, _), (3, _)] ⟨rfl, rfl, trivial⟩ ?_
          refine WX.next ?_
          refine WC.ret ?_
          refine WX.retE2 rfl rfl rfl ?_
          exact ⟨hU, .inl ⟨rfl, t, rfl, IsTG.mono hT (fun k hk hl => ⟨by have := hRw k hk; omega, by omega⟩)⟩⟩
end Go.Proofs.Ytipabhbnljadfaa
