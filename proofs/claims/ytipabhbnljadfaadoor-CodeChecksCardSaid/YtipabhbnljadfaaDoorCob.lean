/-
  code: where one comes to; can a function run?
-/
import Derived.Test.YtipabhbnljadfaaDoorCoa
import Derived.Test.YtipabhbnljadfaaDoorCoQ
namespace Go.Proofs.YtipabhbnljadfaaDoor
open Go
set_option linter.unusedSimpArgs false
set_option linter.unusedVariables false

/-- the three rows of a check -/
def CkS (w : World) (M : Nat → Prop) (bD bR bT : Nat) (D R : List Int) (T : List Nat) : Prop :=
  ∃ (gD gR : Nat) (AT : Option Addr) (cT : Nat) (G : Nat → Prop), Blk w bD #[.slice (some ⟨gD, 0, none⟩) D.length D.length] 69 ∧ Blk w gD (D.map I64).toArray 3 ∧
    Blk w bR #[.slice (some ⟨gR, 0, none⟩) R.length R.length] 69 ∧ Blk w gR (R.map I64).toArray 3 ∧ Blk w bT #[.slice AT T.length cT] 69 ∧ Own w G 3 1 (.slice AT T.length cT) T.length (T.map fun (k : Nat) => I64 (k : Int)) ∧
    (gD ≠ gR ∧ bD ≠ bR ∧ bD ≠ bT ∧ bR ≠ bT ∧ gD ≠ bD ∧ gD ≠ bR ∧ gD ≠ bT ∧ gR ≠ bD ∧ gR ≠ bR ∧ gR ≠ bT) ∧ (M bD ∧ M bR ∧ M bT ∧ M gD ∧ M gR) ∧ ∀ k, G k → M k ∧ k ≠ bD ∧ k ≠ bR ∧ k ≠ bT ∧ k ≠ gD ∧ k ≠ gR
theorem CkS.upd {w w' : World} {M S : Nat → Prop} {bD bR bT : Nat} {D R : List Int} {T : List Nat} (h : CkS w M bD bR bT D R T) (hu : Upd S w w') (hn : ∀ k, M k → k < w.heap.size → ¬ S k) : CkS w' M bD bR bT D R T := by
  obtain ⟨gD, gR, AT, cT, G, h1, h2, h3, h4, h5, h6, h7, h8, h9⟩ := h
  exact ⟨gD, gR, AT, cT, G, h1.upd hu (hn _ h8.1 h1.lt), h2.upd hu (hn _ h8.2.2.2.1 h2.lt), h3.upd hu (hn _ h8.2.1 h3.lt), h4.upd hu (hn _ h8.2.2.2.2 h4.lt), h5.upd hu (hn _ h8.2.2.1 h5.lt), h6.upd hu (fun k hk hl => hn k (h9 k hk).1 hl), h7, h8, h9⟩
theorem CkS.mono {w : World} {M M' : Nat → Prop} {bD bR bT : Nat} {D R : List Int} {T : List Nat} (h : CkS w M bD bR bT D R T) (hM : ∀ k, M k → M' k) : CkS w M' bD bR bT D R T := by
  obtain ⟨gD, gR, AT, cT, G, h1, h2, h3, h4, h5, h6, h7, h8, h9⟩ := h
  exact ⟨gD, gR, AT, cT, G, h1, h2, h3, h4, h5, h6, h7, ⟨hM _ h8.1, hM _ h8.2.1, hM _ h8.2.2.1, hM _ h8.2.2.2.1, hM _ h8.2.2.2.2⟩, fun k hk => ⟨hM k (h9 k hk).1, (h9 k hk).2⟩⟩
theorem bltOf {a b : Nat} (h : a < b) : Nat.blt a b = true := Nat.blt_eq.mpr h
theorem getI {l : List Int} {k : Nat} (h : k < l.length) : (l.map I64)[k]? = some (I64 (l.getD k 0)) := by
  rw [List.getElem?_map, List.getElem?_eq_getElem h, List.getD_eq_getElem?_getD, List.getElem?_eq_getElem h]
  rfl
theorem setI {l : List Int} {k : Nat} {v : Int} : (l.map I64).toArray.setIfInBounds k (I64 v) = ((l.set k v).map I64).toArray := by
  rw [List.setIfInBounds_toArray, List.map_set]

set_option maxHeartbeats 800000 in
theorem reach_ok {w : World} {M : Nat → Prop} {b10 bF bD bR bT n c at_ : Nat} {A : Option Addr} {caps : Int} {D R D' R' : List Int} {T T' : List Nat} {to d t : Int} {b : Bool} (hS : CkS w M bD bR bT D R T) (hat : Blk w b10 #[.int .i64 (at_ : Int)] 3) (hF : Blk w bF #[.int .i64 caps, .slice A n c] 42)
    (h10 : ¬ M b10) (hbF : ¬ M bF) (hD : D.length = n) (hR : R.length = n) (hT : T.length ≤ 100000) (he : reachP n at_ to d t D R T = (b, D', R', T')) :
    Ret Tryd.prog 37 #[.int .i64 to, .int .i64 d, .int .i64 t, .pointer (some ⟨b10, 0, none⟩), .pointer (some ⟨bF, 0, none⟩), .pointer (some ⟨bD, 0, none⟩), .pointer (some ⟨bR, 0, none⟩), .pointer (some ⟨bT, 0, none⟩)] w fun u w' => u = .bool b ∧ CkS w' (Grow M w w') bD bR bT D' R' T' ∧ Upd M w w' := by
  have hS' := hS
  obtain ⟨gD, gR, AT, cT, G, h1, h2, h3, h4, h5, h6, h7, h8, h9⟩ := hS'
  obtain ⟨d1, d2, d3, d4, d5, d6, d7, d8, d9, d10⟩ := h7
  obtain ⟨m1, m2, m3, m4, m5⟩ := h8
  have l1 := h1.lt
  have l2 := h2.lt
  have l3 := h3.lt
  have l4 := h4.lt
  have l5 := h5.lt
  unfold reachP at he
  refine enterRet (vs := [_, _, _, _, _, _, _, _]) (N := 53) Tryd.func37 rfl rfl rfl ?_
  have hU := Upd.refl M w
  refine WC.keep [(0, _), (1, _), (2, _), (3, _), (4, _), (5, _), (6, _), (7, _)] ⟨rfl, rfl, rfl, rfl, rfl, rfl, rfl, rfl, trivial⟩ ?_
  refine WC.seq ?_
  refine WC.region ?_
  refine WL.val rfl rfl rfl rfl (r_assign rfl ev_c) ?_
  refine WL.nil ?_
  refine WX.keep [(0, _), (1, _), (2, _), (3, _), (4, _), (5, _), (6, _), (7, _)] ⟨rfl, rfl, rfl, rfl, rfl, rfl, rfl, rfl, trivial⟩ ?_
  refine WX.next ?_
  refine WC.seq ?_
  refine WC.seq ?_
  refine WC.region ?_
  refine WL.val rfl rfl rfl rfl (r_move rfl (ev_t rfl)) ?_
  refine WL.val rfl rfl rfl rfl (r_load rfl (ev_t rfl) flat_3 (Blk.cell hat rfl)) ?_
  refine WL.val rfl rfl rfl rfl (r_leq rfl (ev_t rfl) (ev_t rfl)) ?_
  refine WL.val rfl rfl rfl rfl (r_move rfl (ev_t rfl)) ?_
  refine WL.cases 15 rfl (fun hb1_3 => ?_) (fun hb1_3 => ?_)
  · try (exfalso; first | (simp at hb1_3; done) | (simp only [decide_eq_true_eq, decide_eq_false_iff_not, Bool.not_eq_true', Bool.not_eq_false', Bool.not_eq_true, Bool.not_eq_false] at hb1_3; omega) | omega)
    all_goals
     try simp only [decide_eq_true_eq, decide_eq_false_iff_not, Bool.not_eq_true', Bool.not_eq_false', Bool.not_eq_true, Bool.not_eq_false, Option.isNone_none, Option.isNone_some, Option.isSome_none, Option.isSome_some, ne_eq, Decidable.not_not] at hb1_3
     refine WL.skip rfl rfl rfl ?_
     refine WL.skip rfl rfl rfl ?_
     refine WL.skip rfl rfl rfl ?_
     refine WL.skip rfl rfl rfl ?_
     refine WL.skip rfl rfl rfl ?_
     refine WL.val rfl rfl rfl rfl (r_pickT rfl (ev_t rfl) ev_c) ?_
     refine WL.nil ?_
     refine WX.keep [(0, _), (1, _), (2, _), (5, _), (6, _), (7, _), (21, _)] ⟨rfl, rfl, rfl, rfl, rfl, rfl, rfl, trivial⟩ ?_
     refine WX.next ?_
     refine WC.cond_true rfl (ev_t rfl) ?_
     refine WC.seq ?_
     refine WC.region ?_
     refine WL.val rfl rfl rfl rfl (r_assign rfl ev_c) ?_
     refine WL.nil ?_
     refine WX.keep [(11, _)] ⟨rfl, trivial⟩ ?_
     refine WX.next ?_
     refine WC.ret ?_
     refine WX.thenRet ?_
     refine WX.retE1 rfl rfl ?_
     rw [if_pos (by omega)] at he
     simp only [Prod.mk.injEq] at he
     obtain ⟨rfl, rfl, rfl, rfl⟩ := he
     exact ⟨rfl, ⟨gD, gR, AT, cT, G, h1, h2, h3, h4, h5, h6, ⟨d1, d2, d3, d4, d5, d6, d7, d8, d9, d10⟩, ⟨.inl m1, .inl m2, .inl m3, .inl m4, .inl m5⟩, fun k hk => ⟨.inl (h9 k hk).1, (h9 k hk).2⟩⟩, hU⟩
  · try (exfalso; first | (simp at hb1_3; done) | (simp only [decide_eq_true_eq, decide_eq_false_iff_not, Bool.not_eq_true', Bool.not_eq_false', Bool.not_eq_true, Bool.not_eq_false] at hb1_3; omega) | omega)
    all_goals
     try simp only [decide_eq_true_eq, decide_eq_false_iff_not, Bool.not_eq_true', Bool.not_eq_false', Bool.not_eq_true, Bool.not_eq_false, Option.isNone_none, Option.isNone_some, Option.isSome_none, Option.isSome_some, ne_eq, Decidable.not_not] at hb1_3
     refine WL.val rfl rfl rfl rfl (r_move rfl (ev_t rfl)) ?_
     first | refine WL.val rfl rfl rfl rfl (r_field0 rfl (ev_t rfl) fld_42_1) ?_ | refine WL.val rfl rfl rfl rfl (r_fieldAt rfl (ev_t rfl) fld_42_1) ?_
     refine WL.val rfl rfl rfl rfl (r_load rfl (ev_t rfl) flat_40 (Blk.cell hF rfl)) ?_
     refine WL.val rfl rfl rfl rfl (r_lenSlice (ts := #[]) rfl (ev_t rfl) elem_40) ?_
     refine WL.val rfl rfl rfl rfl (r_geq rfl (ev_t rfl) (ev_t rfl)) ?_
     refine WL.val rfl rfl rfl rfl (r_pickF rfl (ev_t rfl) (ev_t rfl)) ?_
     refine WL.nil ?_
     refine WX.keep [(0, _), (1, _), (2, _), (5, _), (6, _), (7, _), (21, _)] ⟨rfl, rfl, rfl, rfl, rfl, rfl, rfl, trivial⟩ ?_
     refine WX.next ?_
     refine WC.cond rfl (ev_t rfl) (fun hc1 => ?_) (fun hc1 => ?_)
     · try (exfalso; first | (simp at hc1; done) | (simp only [decide_eq_true_eq, decide_eq_false_iff_not, Bool.not_eq_true', Bool.not_eq_false', Bool.not_eq_true, Bool.not_eq_false] at hc1; omega) | omega)
       all_goals
        try simp only [decide_eq_true_eq, decide_eq_false_iff_not, Bool.not_eq_true', Bool.not_eq_false', Bool.not_eq_true, Bool.not_eq_false, Option.isNone_none, Option.isNone_some, Option.isSome_none, Option.isSome_some, ne_eq, Decidable.not_not] at hc1
        refine WC.seq ?_
        refine WC.region ?_
        refine WL.val rfl rfl rfl rfl (r_assign rfl ev_c) ?_
        refine WL.nil ?_
        refine WX.keep [(11, _)] ⟨rfl, trivial⟩ ?_
        refine WX.next ?_
        refine WC.ret ?_
        refine WX.thenRet ?_
        refine WX.retE1 rfl rfl ?_
        rw [if_pos (by omega)] at he
        simp only [Prod.mk.injEq] at he
        obtain ⟨rfl, rfl, rfl, rfl⟩ := he
        exact ⟨rfl, ⟨gD, gR, AT, cT, G, h1, h2, h3, h4, h5, h6, ⟨d1, d2, d3, d4, d5, d6, d7, d8, d9, d10⟩, ⟨.inl m1, .inl m2, .inl m3, .inl m4, .inl m5⟩, fun k hk => ⟨.inl (h9 k hk).1, (h9 k hk).2⟩⟩, hU⟩
     · try (exfalso; first | (simp at hc1; done) | (simp only [decide_eq_true_eq, decide_eq_false_iff_not, Bool.not_eq_true', Bool.not_eq_false', Bool.not_eq_true, Bool.not_eq_false] at hc1; omega) | omega)
       all_goals
        try simp only [decide_eq_true_eq, decide_eq_false_iff_not, Bool.not_eq_true', Bool.not_eq_false', Bool.not_eq_true, Bool.not_eq_false, Option.isNone_none, Option.isNone_some, Option.isSome_none, Option.isSome_some, ne_eq, Decidable.not_not] at hc1
        rw [if_neg (by omega)] at he
        obtain ⟨m, rfl⟩ : ∃ m : Nat, to = m := ⟨to.toNat, by omega⟩
        simp only [Int.toNat_natCast] at he
        refine WC.skip ?_
        refine WX.next ?_
        -- cut 3: live [0, 1, 2, 5, 6]
        refine WC.cut (fun E w2 => Upd M w w2 ∧ CkS w2 (Grow M w w2) bD bR bT D' R' T' ∧ D'.length = n ∧ R'.length = n ∧ b = (decide (D'.getD m 0 = d) && decide (R'.getD m 0 = t)) ∧ E = [(0, .int .i64 (m : Int)), (1, .int .i64 d), (2, .int .i64 t), (5, .pointer (some ⟨bD, 0, none⟩)), (6, .pointer (some ⟨bR, 0, none⟩))]) ?_ ?_
        · refine WC.seq ?_
          refine WC.region ?_
          refine WL.val rfl rfl rfl rfl (r_load rfl (ev_t rfl) flat_69 (Blk.cell h1 rfl)) ?_
          refine WL.val rfl rfl rfl rfl (r_move rfl (ev_t rfl)) ?_
          refine WL.val rfl rfl rfl rfl (r_indexAddr rfl (ev_t rfl) (ev_t rfl) elem_69 size_3 (by omega) (by omega)) ?_
          refine WL.val rfl rfl rfl rfl (r_load rfl (ev_t rfl) flat_3 (Blk.cell h2 (by rw [show 0 + ((m : Nat) : Int).toNat * 1 = m by omega, List.getElem?_toArray]; exact getI (by omega)))) ?_
          refine WL.val rfl rfl rfl rfl (r_eql rfl (ev_t rfl) ev_c) ?_
          refine WL.nil ?_
          refine WX.keep [(0, _), (1, _), (2, _), (5, _), (6, _), (7, _), (26, _)] ⟨rfl, rfl, rfl, rfl, rfl, rfl, rfl, trivial⟩ ?_
          refine WX.next ?_
          refine WC.cond rfl (ev_t rfl) (fun hc3 => ?_) (fun hc3 => ?_)
          · try (exfalso; first | (simp at hc3; done) | (simp only [decide_eq_true_eq, decide_eq_false_iff_not, Bool.not_eq_true', Bool.not_eq_false', Bool.not_eq_true, Bool.not_eq_false] at hc3; omega) | omega)
            all_goals
             try simp only [decide_eq_true_eq, decide_eq_false_iff_not, Bool.not_eq_true', Bool.not_eq_false', Bool.not_eq_true, Bool.not_eq_false, Option.isNone_none, Option.isNone_some, Option.isSome_none, Option.isSome_some, ne_eq, Decidable.not_not] at hc3
             rw [if_pos (by omega)] at he
             simp only [Prod.mk.injEq] at he
             obtain ⟨rfl, rfl, rfl, rfl⟩ := he
             refine WC.seq ?_
             refine WC.draws' (fun u0_ u1_ => Upd (fun k => k = gD ∨ k = gR) u0_ u1_) (fun j => [0, 0, 0, 0, 0, 0, 0, 1, 0, 2].getD j 0) (.calm 1 (.calm 3 (.calm 4 (.calm 5 (.held 0 (.calm 6 (.held 2 (.one 7 (.calm 8 (.one 9 (.done))))))))))) mixed (by kernel_rfl) (by repeat (first | with_reducible exact Deaf.body | with_reducible apply Deaf.then | with_reducible apply Deaf.block)) ?_
             intro w1 hu1
             have hz1 := congrArg Array.size hu1.2.2.2
             replace hu1 := Upd.of_draw hu1
             have hs1 := hu1.size
             replace hU := hU.trans hu1 (by first | exact (fun _ _ h => h) | exact (fun _ _ h => h.elim) | (intro k hl hk; (try simp only [At, New, Grow, From, No] at hk ⊢); omega) | (intro k hl hk; first | exact (h9 k hk).1 | (simp only [At, No] at hk; subst hk; assumption)))
             replace h1 := h1.upd hu1 (by first | exact (fun h => h) | (simp only [At, No]; omega) | (exact fun h => (h9 _ h).2.1 rfl))
             replace h2 := h2.upd hu1 (by first | exact (fun h => h) | (simp only [At, No]; omega) | (exact fun h => (h9 _ h).2.2.2.2.1 rfl))
             replace h3 := h3.upd hu1 (by first | exact (fun h => h) | (simp only [At, No]; omega) | (exact fun h => (h9 _ h).2.2.1 rfl))
             replace h4 := h4.upd hu1 (by first | exact (fun h => h) | (simp only [At, No]; omega) | (exact fun h => (h9 _ h).2.2.2.2.2 rfl))
             replace h5 := h5.upd hu1 (by first | exact (fun h => h) | (simp only [At, No]; omega) | (exact fun h => (h9 _ h).2.2.2.1 rfl))
             replace h6 := h6.upd hu1 (by first | exact (fun _ _ _ h => h) | (intro k hk hl hS; have := h9 k hk; simp only [At, No] at hS; omega))
             replace hat := hat.upd hu1 (by first | exact (fun h => h) | (simp only [At, No]; intro h; subst h; contradiction) | (exact fun h => h10 (h9 _ h).1))
             replace hF := hF.upd hu1 (by first | exact (fun h => h) | (simp only [At, No]; intro h; subst h; contradiction) | (exact fun h => hbF (h9 _ h).1))
             have hS4 := Upd.refl (fun k => k = gD ∨ k = gR) w1
             refine WN.calm _ rfl rfl rfl rfl rfl (fun _ => r_move rfl (ev_t rfl)) ?_
             refine WN.calm _ rfl rfl rfl rfl rfl (fun _ => r_move rfl (ev_t rfl)) ?_
             refine WN.calm _ rfl rfl rfl rfl rfl (fun _ => r_move rfl (ev_t rfl)) ?_
             refine WN.calm _ rfl rfl rfl rfl rfl (fun _ => r_move rfl (ev_t rfl)) ?_
             refine WN.held _ rfl rfl rfl rfl rfl hS4 (fun w' hS => r_load rfl (ev_t rfl) flat_69 (Blk.cell (h1.upd hS (by (try simp only [At, From, No, Grow, New]); omega)) rfl)) ?_
             refine WN.calm _ rfl rfl rfl rfl rfl (fun _ => r_indexAddr rfl (ev_t rfl) (ev_t rfl) elem_69 size_3 (by omega) (by omega)) ?_
             refine WN.held _ rfl rfl rfl rfl rfl hS4 (fun w' hS => r_load rfl (ev_t rfl) flat_69 (Blk.cell (h3.upd hS (by (try simp only [At, From, No, Grow, New]); omega)) rfl)) ?_
             refine WN.step _ rfl (SO.store rfl (ev_t rfl) (ev_t rfl) size_3 h2 (bltOf (by simp; omega)) rfl rfl rfl rfl ?_)
             intro w2 hu2 h2 hz7
             rw [show (0 + ((m : Nat) : Int).toNat * 1) = m by omega, setI] at h2
             have hs2 := hu2.size
             replace hS4 := Upd.trans hS4 hu2 (by intro k hl hk; simp only [At] at hk; omega)
             replace hU := hU.trans hu2 (by first | exact (fun _ _ h => h) | exact (fun _ _ h => h.elim) | (intro k hl hk; (try simp only [At, New, Grow, From, No] at hk ⊢); omega) | (intro k hl hk; first | exact (h9 k hk).1 | (simp only [At, No] at hk; subst hk; assumption)))
             replace h1 := h1.upd hu2 (by first | exact (fun h => h) | (simp only [At, No]; omega) | (exact fun h => (h9 _ h).2.1 rfl))
             replace h3 := h3.upd hu2 (by first | exact (fun h => h) | (simp only [At, No]; omega) | (exact fun h => (h9 _ h).2.2.1 rfl))
             replace h4 := h4.upd hu2 (by first | exact (fun h => h) | (simp only [At, No]; omega) | (exact fun h => (h9 _ h).2.2.2.2.2 rfl))
             replace h5 := h5.upd hu2 (by first | exact (fun h => h) | (simp only [At, No]; omega) | (exact fun h => (h9 _ h).2.2.2.1 rfl))
             replace h6 := h6.upd hu2 (by first | exact (fun _ _ _ h => h) | (intro k hk hl hS; have := h9 k hk; simp only [At, No] at hS; omega))
             replace hat := hat.upd hu2 (by first | exact (fun h => h) | (simp only [At, No]; intro h; subst h; contradiction) | (exact fun h => h10 (h9 _ h).1))
             replace hF := hF.upd hu2 (by first | exact (fun h => h) | (simp only [At, No]; intro h; subst h; contradiction) | (exact fun h => hbF (h9 _ h).1))
             refine ⟨hS4, ?_⟩
             refine WN.calm _ rfl rfl rfl rfl rfl (fun _ => r_indexAddr rfl (ev_t rfl) (ev_t rfl) elem_69 size_3 (by omega) (by omega)) ?_
             refine WN.step _ rfl (SO.store rfl (ev_t rfl) (ev_t rfl) size_3 h4 (bltOf (by simp; omega)) rfl rfl rfl rfl ?_)
             intro w3 hu3 h4 hz9
             rw [show (0 + ((m : Nat) : Int).toNat * 1) = m by omega, setI] at h4
             have hs3 := hu3.size
             try replace hS4 := Upd.trans hS4 hu3 (by intro k hl hk; simp only [At] at hk; omega)
             replace hU := hU.trans hu3 (by first | exact (fun _ _ h => h) | exact (fun _ _ h => h.elim) | (intro k hl hk; (try simp only [At, New, Grow, From, No] at hk ⊢); omega) | (intro k hl hk; first | exact (h9 k hk).1 | (simp only [At, No] at hk; subst hk; assumption)))
             replace h1 := h1.upd hu3 (by first | exact (fun h => h) | (simp only [At, No]; omega) | (exact fun h => (h9 _ h).2.1 rfl))
             replace h2 := h2.upd hu3 (by first | exact (fun h => h) | (simp only [At, No]; omega) | (exact fun h => (h9 _ h).2.2.2.2.1 rfl))
             replace h3 := h3.upd hu3 (by first | exact (fun h => h) | (simp only [At, No]; omega) | (exact fun h => (h9 _ h).2.2.1 rfl))
             replace h5 := h5.upd hu3 (by first | exact (fun h => h) | (simp only [At, No]; omega) | (exact fun h => (h9 _ h).2.2.2.1 rfl))
             replace h6 := h6.upd hu3 (by first | exact (fun _ _ _ h => h) | (intro k hk hl hS; have := h9 k hk; simp only [At, No] at hS; omega))
             replace hat := hat.upd hu3 (by first | exact (fun h => h) | (simp only [At, No]; intro h; subst h; contradiction) | (exact fun h => h10 (h9 _ h).1))
             replace hF := hF.upd hu3 (by first | exact (fun h => h) | (simp only [At, No]; intro h; subst h; contradiction) | (exact fun h => hbF (h9 _ h).1))
             refine ⟨trivial, ?_⟩
             refine WN.done ?_
             refine WX.keep [(0, _), (1, _), (2, _), (5, _), (6, _), (7, _)] ⟨rfl, rfl, rfl, rfl, rfl, rfl, trivial⟩ ?_
             refine WX.next ?_
             refine WC.region ?_
             refine WL.val rfl rfl rfl rfl (r_load rfl (ev_t rfl) flat_69 (Blk.cell h5 rfl)) ?_
             refine WL.val rfl rfl rfl rfl (r_move rfl (ev_t rfl)) ?_
             refine WL.cons (SO.alloc rfl rfl rfl rfl (r_buildSlice1 (vs := [_]) rfl ⟨(ev_t rfl), trivial⟩ rfl row_69 rfl rfl) ?_)
             intro w4 hu4 hB4 hz4
             have hs4 := hu4.size
             replace hU := hU.trans hu4 (by first | exact (fun _ _ h => h) | exact (fun _ _ h => h.elim) | (intro k hl hk; (try simp only [At, New, Grow, From, No] at hk ⊢); omega) | (intro k hl hk; first | exact (h9 k hk).1 | (simp only [At, No] at hk; subst hk; assumption)))
             replace h1 := h1.upd hu4 (by first | exact (fun h => h) | (simp only [At, No]; omega) | (exact fun h => (h9 _ h).2.1 rfl))
             replace h2 := h2.upd hu4 (by first | exact (fun h => h) | (simp only [At, No]; omega) | (exact fun h => (h9 _ h).2.2.2.2.1 rfl))
             replace h3 := h3.upd hu4 (by first | exact (fun h => h) | (simp only [At, No]; omega) | (exact fun h => (h9 _ h).2.2.1 rfl))
             replace h4 := h4.upd hu4 (by first | exact (fun h => h) | (simp only [At, No]; omega) | (exact fun h => (h9 _ h).2.2.2.2.2 rfl))
             replace h5 := h5.upd hu4 (by first | exact (fun h => h) | (simp only [At, No]; omega) | (exact fun h => (h9 _ h).2.2.2.1 rfl))
             replace h6 := h6.upd hu4 (by first | exact (fun _ _ _ h => h) | (intro k hk hl hS; have := h9 k hk; simp only [At, No] at hS; omega))
             replace hat := hat.upd hu4 (by first | exact (fun h => h) | (simp only [At, No]; intro h; subst h; contradiction) | (exact fun h => h10 (h9 _ h).1))
             replace hF := hF.upd hu4 (by first | exact (fun h => h) | (simp only [At, No]; intro h; subst h; contradiction) | (exact fun h => hbF (h9 _ h).1))
             refine WL.cons (SO.append h6 (Rd.of_blk (F := At _) (n := 1) (sz := 1) hB4 rfl rfl (by omega)) row_69 (oneCell_one rfl) (le_maxLen (by omega)) (by omega) rfl (ev_t rfl) (ev_t rfl) rfl rfl rfl rfl ?_)
             intro v5 w5 ho hu5
             have hs5 := hu5.size
             replace hU := hU.trans hu5 (by first | exact (fun _ _ h => h) | exact (fun _ _ h => h.elim) | (intro k hl hk; (try simp only [At, New, Grow, From, No] at hk ⊢); omega) | (intro k hl hk; first | exact (h9 k hk).1 | (simp only [At, No] at hk; subst hk; assumption)))
             replace h1 := h1.upd hu5 (by first | exact (fun h => h) | (simp only [At, No]; omega) | (exact fun h => (h9 _ h).2.1 rfl))
             replace h2 := h2.upd hu5 (by first | exact (fun h => h) | (simp only [At, No]; omega) | (exact fun h => (h9 _ h).2.2.2.2.1 rfl))
             replace h3 := h3.upd hu5 (by first | exact (fun h => h) | (simp only [At, No]; omega) | (exact fun h => (h9 _ h).2.2.1 rfl))
             replace h4 := h4.upd hu5 (by first | exact (fun h => h) | (simp only [At, No]; omega) | (exact fun h => (h9 _ h).2.2.2.2.2 rfl))
             replace h5 := h5.upd hu5 (by first | exact (fun h => h) | (simp only [At, No]; omega) | (exact fun h => (h9 _ h).2.2.2.1 rfl))
             replace hat := hat.upd hu5 (by first | exact (fun h => h) | (simp only [At, No]; intro h; subst h; contradiction) | (exact fun h => h10 (h9 _ h).1))
             replace hF := hF.upd hu5 (by first | exact (fun h => h) | (simp only [At, No]; intro h; subst h; contradiction) | (exact fun h => hbF (h9 _ h).1))
             obtain ⟨A5, c5, rfl, hc5⟩ := Own.form ho
             refine WL.cons (SO.store rfl (ev_t rfl) (ev_t rfl) size_69 h5 rfl rfl rfl rfl rfl ?_)
             intro w6 hu6 h5 hz10
             have hs6 := hu6.size
             replace hU := hU.trans hu6 (by first | exact (fun _ _ h => h) | exact (fun _ _ h => h.elim) | (intro k hl hk; (try simp only [At, New, Grow, From, No] at hk ⊢); omega) | (intro k hl hk; first | exact (h9 k hk).1 | (simp only [At, No] at hk; subst hk; assumption)))
             replace h1 := h1.upd hu6 (by first | exact (fun h => h) | (simp only [At, No]; omega) | (exact fun h => (h9 _ h).2.1 rfl))
             replace h2 := h2.upd hu6 (by first | exact (fun h => h) | (simp only [At, No]; omega) | (exact fun h => (h9 _ h).2.2.2.2.1 rfl))
             replace h3 := h3.upd hu6 (by first | exact (fun h => h) | (simp only [At, No]; omega) | (exact fun h => (h9 _ h).2.2.1 rfl))
             replace h4 := h4.upd hu6 (by first | exact (fun h => h) | (simp only [At, No]; omega) | (exact fun h => (h9 _ h).2.2.2.2.2 rfl))
             replace hat := hat.upd hu6 (by first | exact (fun h => h) | (simp only [At, No]; intro h; subst h; contradiction) | (exact fun h => h10 (h9 _ h).1))
             replace hF := hF.upd hu6 (by first | exact (fun h => h) | (simp only [At, No]; intro h; subst h; contradiction) | (exact fun h => hbF (h9 _ h).1))
             replace ho := ho.upd hu6 (by first | exact (fun _ _ _ h => h) | (intro k hk hl hS; simp only [At] at hS; subst hS; rcases hk with hk | hk; exact (h9 _ hk).2.2.2.1 rfl; omega))
             refine WL.nil ?_
             refine WX.keep [(0, _), (1, _), (2, _), (5, _), (6, _)] ⟨rfl, rfl, rfl, rfl, rfl, trivial⟩ ?_
             refine WX.meet [(0, _), (1, _), (2, _), (5, _), (6, _)] ⟨rfl, rfl, rfl, rfl, rfl, trivial⟩ ?_
             first
               | exact ⟨hU, ⟨gD, gR, AT, cT, G, h1, h2, h3, h4, h5, h6, ⟨d1, d2, d3, d4, d5, d6, d7, d8, d9, d10⟩, ⟨.inl m1, .inl m2, .inl m3, .inl m4, .inl m5⟩, fun k hk => ⟨.inl (h9 k hk).1, (h9 k hk).2⟩⟩, hD, hR, rfl, rfl⟩
               | exact ⟨hU, ⟨gD, gR, _, _, _, by rw [List.length_set]; exact h1, h2, by rw [List.length_set]; exact h3, h4, by rw [List.length_append]; exact h5, by rw [List.length_append, List.map_append]; exact ho, ⟨d1, d2, d3, d4, d5, d6, d7, d8, d9, d10⟩, ⟨.inl m1, .inl m2, .inl m3, .inl m4, .inl m5⟩, fun k hk => by
                   have hs9 := hU.size
                   rcases hk with hk | hk
                   · exact ⟨.inl (h9 k hk).1, (h9 k hk).2⟩
                   · exact ⟨.inr ⟨by omega, by omega⟩, by omega, by omega, by omega, by omega, by omega⟩⟩, by rw [List.length_set]; exact hD, by rw [List.length_set]; exact hR, by rw [getD_set (by omega), getD_set (by omega)]; simp, rfl⟩
          · try (exfalso; first | (simp at hc3; done) | (simp only [decide_eq_true_eq, decide_eq_false_iff_not, Bool.not_eq_true', Bool.not_eq_false', Bool.not_eq_true, Bool.not_eq_false] at hc3; omega) | omega)
            all_goals
             try simp only [decide_eq_true_eq, decide_eq_false_iff_not, Bool.not_eq_true', Bool.not_eq_false', Bool.not_eq_true, Bool.not_eq_false, Option.isNone_none, Option.isNone_some, Option.isSome_none, Option.isSome_some, ne_eq, Decidable.not_not] at hc3
             rw [if_neg (by omega)] at he
             simp only [Prod.mk.injEq] at he
             obtain ⟨rfl, rfl, rfl, rfl⟩ := he
             refine WC.skip ?_
             refine WX.meet [(0, _), (1, _), (2, _), (5, _), (6, _)] ⟨rfl, rfl, rfl, rfl, rfl, trivial⟩ ?_
             first
               | exact ⟨hU, ⟨gD, gR, AT, cT, G, h1, h2, h3, h4, h5, h6, ⟨d1, d2, d3, d4, d5, d6, d7, d8, d9, d10⟩, ⟨.inl m1, .inl m2, .inl m3, .inl m4, .inl m5⟩, fun k hk => ⟨.inl (h9 k hk).1, (h9 k hk).2⟩⟩, hD, hR, rfl, rfl⟩
               | exact ⟨hU, ⟨gD, gR, _, _, _, by rw [List.length_set]; exact h1, h2, by rw [List.length_set]; exact h3, h4, by rw [List.length_append]; exact h5, by rw [List.length_append, List.map_append]; exact ho, ⟨d1, d2, d3, d4, d5, d6, d7, d8, d9, d10⟩, ⟨.inl m1, .inl m2, .inl m3, .inl m4, .inl m5⟩, fun k hk => by
                   have hs9 := hU.size
                   rcases hk with hk | hk
                   · exact ⟨.inl (h9 k hk).1, (h9 k hk).2⟩
                   · exact ⟨.inr ⟨by omega, by omega⟩, by omega, by omega, by omega, by omega, by omega⟩⟩, by rw [List.length_set]; exact hD, by rw [List.length_set]; exact hR, by rw [getD_set (by omega), getD_set (by omega)]; simp, rfl⟩
        · rintro E w2 ⟨hU2, hS2, hD2, hR2, hbb, rfl⟩
          clear h1 h2 h3 h4 h5 h6 h9
          obtain ⟨gD, gR, AT, cT, G, h1, h2, h3, h4, h5, h6, _, _, h9⟩ := id hS2
          refine WC.seq ?_
          refine WC.region ?_
          refine WL.val rfl rfl rfl rfl (r_load rfl (ev_t rfl) flat_69 (Blk.cell h1 rfl)) ?_
          refine WL.val rfl rfl rfl rfl (r_move rfl (ev_t rfl)) ?_
          refine WL.val rfl rfl rfl rfl (r_indexAddr rfl (ev_t rfl) (ev_t rfl) elem_69 size_3 (by omega) (by omega)) ?_
          refine WL.val rfl rfl rfl rfl (r_load rfl (ev_t rfl) flat_3 (Blk.cell h2 (by rw [show 0 + ((m : Nat) : Int).toNat * 1 = m by omega, List.getElem?_toArray]; exact getI (by omega)))) ?_
          refine WL.val rfl rfl rfl rfl (r_move rfl (ev_t rfl)) ?_
          refine WL.val rfl rfl rfl rfl (r_eql rfl (ev_t rfl) (ev_t rfl)) ?_
          refine WL.val rfl rfl rfl rfl (r_move rfl (ev_t rfl)) ?_
          refine WL.cases 45 rfl (fun hb6_6 => ?_) (fun hb6_6 => ?_)
          · try (exfalso; first | (simp at hb6_6; done) | (simp only [decide_eq_true_eq, decide_eq_false_iff_not, Bool.not_eq_true', Bool.not_eq_false', Bool.not_eq_true, Bool.not_eq_false] at hb6_6; omega) | omega)
            all_goals
             try simp only [decide_eq_true_eq, decide_eq_false_iff_not, Bool.not_eq_true', Bool.not_eq_false', Bool.not_eq_true, Bool.not_eq_false, Option.isNone_none, Option.isNone_some, Option.isSome_none, Option.isSome_some, ne_eq, Decidable.not_not] at hb6_6
             refine WL.val rfl rfl rfl rfl (r_load rfl (ev_t rfl) flat_69 (Blk.cell h3 rfl)) ?_
             refine WL.val rfl rfl rfl rfl (r_move rfl (ev_t rfl)) ?_
             refine WL.val rfl rfl rfl rfl (r_indexAddr rfl (ev_t rfl) (ev_t rfl) elem_69 size_3 (by omega) (by omega)) ?_
             refine WL.val rfl rfl rfl rfl (r_load rfl (ev_t rfl) flat_3 (Blk.cell h4 (by rw [show 0 + ((m : Nat) : Int).toNat * 1 = m by omega, List.getElem?_toArray]; exact getI (by omega)))) ?_
             refine WL.val rfl rfl rfl rfl (r_move rfl (ev_t rfl)) ?_
             refine WL.val rfl rfl rfl rfl (r_eql rfl (ev_t rfl) (ev_t rfl)) ?_
             refine WL.val rfl rfl rfl rfl (r_pickT rfl (ev_t rfl) (ev_t rfl)) ?_
             refine WL.val rfl rfl rfl rfl (r_assign rfl (ev_t rfl)) ?_
             refine WL.nil ?_
             refine WX.keep [(11, _)] ⟨rfl, trivial⟩ ?_
             refine WX.next ?_
             refine WC.ret ?_
             refine WX.retE1 rfl rfl ?_
             refine ⟨?_, hS2, hU2⟩
             rw [hbb]
             first
               | rfl
               | (congr 1; simp_all)
          · try (exfalso; first | (simp at hb6_6; done) | (simp only [decide_eq_true_eq, decide_eq_false_iff_not, Bool.not_eq_true', Bool.not_eq_false', Bool.not_eq_true, Bool.not_eq_false] at hb6_6; omega) | omega)
            all_goals
             try simp only [decide_eq_true_eq, decide_eq_false_iff_not, Bool.not_eq_true', Bool.not_eq_false', Bool.not_eq_true, Bool.not_eq_false, Option.isNone_none, Option.isNone_some, Option.isSome_none, Option.isSome_some, ne_eq, Decidable.not_not] at hb6_6
             refine WL.skip rfl rfl rfl ?_
             refine WL.skip rfl rfl rfl ?_
             refine WL.skip rfl rfl rfl ?_
             refine WL.skip rfl rfl rfl ?_
             refine WL.skip rfl rfl rfl ?_
             refine WL.skip rfl rfl rfl ?_
             refine WL.val rfl rfl rfl rfl (r_pickF rfl (ev_t rfl) ev_c) ?_
             refine WL.val rfl rfl rfl rfl (r_assign rfl (ev_t rfl)) ?_
             refine WL.nil ?_
             refine WX.keep [(11, _)] ⟨rfl, trivial⟩ ?_
             refine WX.next ?_
             refine WC.ret ?_
             refine WX.retE1 rfl rfl ?_
             refine ⟨?_, hS2, hU2⟩
             rw [hbb]
             first
               | rfl
               | (congr 1; simp_all)
end Go.Proofs.YtipabhbnljadfaaDoor
