/-
  Several texts put together: Coj, Fs, Cok, Col, Com, Rfi, Con.
-/
import Derived.Laws.StructEq
import Derived.Test.YtipabhbnljadfaaDoorZe
/-
  The reference: functions out of bytes.
-/
namespace Go.Proofs.YtipabhbnljadfaaDoor
open Go
set_option linter.unusedSimpArgs false
set_option linter.unusedVariables false

theorem StM.negC {p : List UInt8} {a : Int} {s : Option (List UInt8)} (h : StM p a s) : a < 0 ↔ s = none := by
  cases s with
  | none => simp only [StM] at h; subst h; simp
  | some r =>
    obtain ⟨m, rfl, _, _⟩ := h
    simp
theorem StM.allC {p : List UInt8} {a : Int} {s : Option (List UInt8)} (h : StM p a s) : a = (p.length : Int) ↔ s = some [] := by
  cases s with
  | none =>
    simp only [StM] at h
    subst h
    simp
  | some r =>
    obtain ⟨m, rfl, hm, rfl⟩ := h
    rw [Option.some.injEq, List.drop_eq_nil_iff]
    omega

set_option maxHeartbeats 4000000 in
theorem rDecode_ok {w : World} {F : Nat → Prop} {g : Nat} {p : List UInt8} {s : RSt} {fin : List Fn × RSt} (h : IsM w F g p s) (hFl : ∀ k, F k → k < w.heap.size ∧ k ≠ g) (hgl : g < w.heap.size) (hfin : decF s = fin) :
    Ret Tryd.prog 13 #[.pointer (some ⟨g, 0, none⟩)] w fun u w' => IsFs w' (New w w') u fin.1 ∧ IsM w' F g p fin.2 ∧ Upd (At g) w w' := by
  obtain ⟨n, s1, hn1⟩ : ∃ n s1, uptoR 4000 s = (n, s1) := ⟨_, _, rfl⟩
  obtain ⟨L9, s9, hL9⟩ : ∃ L9 s9, loadF n s1 [] = (L9, s9) := ⟨_, _, rfl⟩
  rw [decF_eq hn1 hL9] at hfin
  subst hfin
  have hn4 := uptoR_le' (most := 4000) (s := s) (by omega)
  rw [hn1] at hn4
  simp only at hn4 ⊢
  have hFg : ¬ F g := fun hh => (hFl g hh).2 rfl
  refine enterRet (vs := [_]) (N := 71) Tryd.func13 rfl rfl rfl ?_
  have hU := Upd.refl (At g) w
  refine WC.keep [(0, _)] ⟨rfl, trivial⟩ ?_
  refine WC.seq ?_
  refine WC.region ?_
  refine WL.val rfl rfl rfl rfl (r_assign rfl ev_c) ?_
  refine WL.nil ?_
  refine WX.keep [(0, _)] ⟨rfl, trivial⟩ ?_
  refine WX.next ?_
  refine WC.seq ?_
  refine WC.region ?_
  refine WL.val rfl rfl rfl rfl (r_assign rfl ev_c) ?_
  refine WL.nil ?_
  refine WX.keep [(0, _), (3, _)] ⟨rfl, rfl, trivial⟩ ?_
  refine WX.next ?_
  refine WC.seq ?_
  refine WC.region ?_
  refine WL.val rfl rfl rfl rfl (r_move rfl (ev_t rfl)) ?_
  refine WL.cons (SO.call (mUpto_ok h hFg (by simp only [inK]; omega) hn1) rfl body_25 ⟨(ev_t rfl), ev_c, trivial⟩ rfl rfl rfl rfl ?_)
  rintro v w1 ⟨rfl, h, hu1⟩
  have hs1 := hu1.size
  replace hU := hU.trans hu1 (by first | exact (fun _ _ h => h) | exact (fun _ _ h => h.elim) | (intro k hl hk; (try simp only [At, New, Grow, From, No] at hk ⊢); omega) | (intro k hl hk; first | (simp only [At, No] at hk ⊢; omega) | (have := hGc k hk; omega) | (have := hG k hk; omega)))
  refine WL.val rfl rfl rfl rfl (r_assign rfl (ev_t rfl)) ?_
  refine WL.nil ?_
  refine WX.keep [(0, _), (3, _), (4, _)] ⟨rfl, rfl, rfl, trivial⟩ ?_
  refine WX.next ?_
  refine WC.seq ?_
  refine WC.seq ?_
  refine WC.region ?_
  refine WL.val rfl rfl rfl rfl (r_assign rfl ev_c) ?_
  refine WL.nil ?_
  refine WX.keep [(0, _), (3, _), (4, _), (5, _)] ⟨rfl, rfl, rfl, rfl, trivial⟩ ?_
  refine WX.next ?_
  refine WC.block ?_
  -- loop 1: live [0, 3, 4, 5]
  refine WC.keep [(0, _), (3, _), (4, _), (5, _)] ⟨rfl, rfl, rfl, rfl, trivial⟩ ?_
  refine WC.loop (fun q E w' => ∃ (i : Nat) (s : RSt) (V2 : List FnV) (A2 : Option Addr) (c2 : Nat) (G C : Nat → Prop), i + q = n ∧ V2.length + q ≤ 4000 ∧ Upd (At g) w w' ∧ IsM w' F g p s ∧ loadF q s (V2.map FnV.f) = (L9, s9) ∧ Own w' G 54 2 (.slice A2 V2.length c2) V2.length (V2.flatMap FnV.cells) ∧ (∀ x ∈ V2, Rd w' C x.v x.f.code.length 4 (x.f.code.flatMap insC)) ∧   (∀ k, G k → w.heap.size ≤ k ∧ k < w'.heap.size) ∧ (∀ k, C k → w.heap.size ≤ k ∧ k < w'.heap.size ∧ ¬ G k) ∧   E = [(0, .pointer (some ⟨g, 0, none⟩)), (3, .slice A2 V2.length c2), (4, .int .i64 (n : Int)), (5, .int .i64 (i : Int))]) (n) ?_ ?_
  · exact ⟨0, s1, [], none, 0, fun _ => False, fun _ => False, by omega, by simp; omega, hU, h, hL9, Own.nil _ _ _ _, (fun x hx => by cases hx), (fun k h => h.elim), (fun k h => h.elim), rfl⟩
  · clear hU h
    rintro q E wA ⟨i, s, V2, A2, c2, G, C, hi, hq, hU, h, hl, hO, hD, hG, hC, rfl⟩
    have hw0 := hU.size
    have hW := Upd.refl (At g) wA
    obtain ⟨Aa, ca, at_, hb, _, hst⟩ := id h
    have hneg := hst.negC
    refine WC.seq ?_
    refine WC.seq ?_
    refine WC.region ?_
    refine WL.val rfl rfl rfl rfl (r_move rfl (ev_t rfl)) ?_
    refine WL.val rfl rfl rfl rfl (r_move rfl (ev_t rfl)) ?_
    refine WL.val rfl rfl rfl rfl (r_lss rfl (ev_t rfl) (ev_t rfl)) ?_
    refine WL.val rfl rfl rfl rfl (r_move rfl (ev_t rfl)) ?_
    refine WL.cases 15 rfl (fun hb4_3 => ?_) (fun hb4_3 => ?_)
    · try (exfalso; first | (simp at hb4_3; done) | (simp only [decide_eq_true_eq, decide_eq_false_iff_not, Bool.not_eq_true', Bool.not_eq_false', Bool.not_eq_true, Bool.not_eq_false] at hb4_3; omega) | omega)
      all_goals
       try simp only [decide_eq_true_eq, decide_eq_false_iff_not, Bool.not_eq_true', Bool.not_eq_false', Bool.not_eq_true, Bool.not_eq_false, Option.isNone_none, Option.isNone_some, Option.isSome_none, Option.isSome_some, ne_eq, Decidable.not_not] at hb4_3
       refine WL.val rfl rfl rfl rfl (r_move rfl (ev_t rfl)) ?_
       refine WL.val rfl rfl rfl rfl (r_nilCheck rfl (ev_t rfl)) ?_
       first | refine WL.val rfl rfl rfl rfl (r_field0 rfl (ev_t rfl) fld_35_1) ?_ | refine WL.val rfl rfl rfl rfl (r_fieldAt rfl (ev_t rfl) fld_35_1) ?_
       refine WL.val rfl rfl rfl rfl (r_load rfl (ev_t rfl) flat_3 (Blk.cell hb rfl)) ?_
       refine WL.val rfl rfl rfl rfl (r_geq rfl (ev_t rfl) ev_c) ?_
       refine WL.val rfl rfl rfl rfl (r_pickT rfl (ev_t rfl) (ev_t rfl)) ?_
       refine WL.nil ?_
       refine WX.keep [(0, _), (3, _), (4, _), (5, _), (21, _)] ⟨rfl, rfl, rfl, rfl, rfl, trivial⟩ ?_
       refine WX.next ?_
       refine WC.cond rfl (ev_t rfl) (fun hc4 => ?_) (fun hc4 => ?_)
       · try (exfalso; first | (simp at hc4; done) | (simp only [decide_eq_true_eq, decide_eq_false_iff_not, Bool.not_eq_true', Bool.not_eq_false', Bool.not_eq_true, Bool.not_eq_false] at hc4; omega) | omega)
         all_goals
          try simp only [decide_eq_true_eq, decide_eq_false_iff_not, Bool.not_eq_true', Bool.not_eq_false', Bool.not_eq_true, Bool.not_eq_false, Option.isNone_none, Option.isNone_some, Option.isSome_none, Option.isSome_some, ne_eq, Decidable.not_not] at hc4
          refine WC.skip ?_
          refine WX.next ?_
          refine WC.seq ?_
          refine WC.block ?_
          refine WC.seq ?_
          obtain ⟨q1, rfl⟩ : ∃ q1, q = q1 + 1 := ⟨q - 1, by omega⟩
          obtain ⟨p1, rfl⟩ : ∃ p1, s = some p1 := by cases s with | none => (have := hneg.2 rfl; omega) | some p => exact ⟨p, rfl⟩
          obtain ⟨cp, s2, hcp⟩ : ∃ cp s2, uptoR 1048576 (some p1) = (cp, s2) := ⟨_, _, rfl⟩
          obtain ⟨m, s3, hm⟩ : ∃ m s3, uptoR 1048576 s2 = (m, s3) := ⟨_, _, rfl⟩
          obtain ⟨I9, s4, hI9⟩ : ∃ I9 s4, loadC m s3 [] = (I9, s4) := ⟨_, _, rfl⟩
          rw [loadF, readF_eq hcp hm hI9] at hl
          simp only at hl
          have hm4 := uptoR_le' (most := 1048576) (s := s2) (by omega)
          rw [hm] at hm4
          simp only at hm4
          have hF2 : ∀ k, F k → k < wA.heap.size := fun k hk => by have := hFl k hk; omega
          clear hb hst hneg
          refine WC.region ?_
          refine WL.val rfl rfl rfl rfl (r_move rfl (ev_t rfl)) ?_
          refine WL.cons (SO.call (mUpto_ok h hFg (by simp only [inK]; omega) hcp) rfl body_25 ⟨(ev_t rfl), ev_c, trivial⟩ rfl rfl rfl rfl ?_)
          rintro v w2 ⟨rfl, h, hu2⟩
          have hs2 := hu2.size
          replace hU := hU.trans hu2 (by first | exact (fun _ _ h => h) | exact (fun _ _ h => h.elim) | (intro k hl hk; (try simp only [At, New, Grow, From, No] at hk ⊢); omega) | (intro k hl hk; first | (simp only [At, No] at hk ⊢; omega) | (have := hGc k hk; omega) | (have := hG k hk; omega)))
          replace hO := hO.upd hu2 (by first | exact (fun _ _ _ h => h) | (intro k hk hl hS; have := hG k hk; first | (simp only [At, No] at hS; omega) | (have := hGc k hS; omega)))
          replace hW := hW.upd hu2 (by intro k hl hk; first | exact hk.elim | (simp only [At, No] at hk ⊢; omega) | (have := hGc k hk; omega))
          refine WL.val rfl rfl rfl rfl (r_build (cs := #[_, _]) (vs := [(0, _)]) rfl ⟨⟨rfl, (ev_t rfl)⟩, trivial⟩ plc_54 zero_54 rfl) ?_
          refine WL.cons (SO.alloc rfl rfl rfl rfl (r_alloc rfl zero_54) ?_)
          intro w3 hu3 hB3 hz3
          have hs3 := hu3.size
          replace hU := hU.trans hu3 (by first | exact (fun _ _ h => h) | exact (fun _ _ h => h.elim) | (intro k hl hk; (try simp only [At, New, Grow, From, No] at hk ⊢); omega) | (intro k hl hk; first | (simp only [At, No] at hk ⊢; omega) | (have := hGc k hk; omega) | (have := hG k hk; omega)))
          replace h := h.upd hu3 (by first | exact (fun h => h) | (simp only [At, No]; omega) | (exact fun h => by have := hGc _ h; omega) | (exact fun h => by have := hG _ h; omega)) (by first | exact (fun _ _ _ h => h) | (intro k hk hl hS; have := hFl k hk; first | (simp only [At, No] at hS; omega) | (have := hGc k hS; omega) | (have := hG k hS; omega)))
          replace hO := hO.upd hu3 (by first | exact (fun _ _ _ h => h) | (intro k hk hl hS; have := hG k hk; first | (simp only [At, No] at hS; omega) | (have := hGc k hS; omega)))
          replace hW := hW.upd hu3 (by intro k hl hk; first | exact hk.elim | (simp only [At, No] at hk ⊢; omega) | (have := hGc k hk; omega))
          refine WL.cons (SO.store2 rfl (ev_t rfl) (ev_t rfl) size_54 hB3 rfl rfl rfl rfl rfl rfl ?_)
          intro w4 hu4 hB3 hz4
          have hs4 := hu4.size
          replace hU := hU.trans hu4 (by first | exact (fun _ _ h => h) | exact (fun _ _ h => h.elim) | (intro k hl hk; (try simp only [At, New, Grow, From, No] at hk ⊢); omega) | (intro k hl hk; first | (simp only [At, No] at hk ⊢; omega) | (have := hGc k hk; omega) | (have := hG k hk; omega)))
          replace h := h.upd hu4 (by first | exact (fun h => h) | (simp only [At, No]; omega) | (exact fun h => by have := hGc _ h; omega) | (exact fun h => by have := hG _ h; omega)) (by first | exact (fun _ _ _ h => h) | (intro k hk hl hS; have := hFl k hk; first | (simp only [At, No] at hS; omega) | (have := hGc k hS; omega) | (have := hG k hS; omega)))
          replace hO := hO.upd hu4 (by first | exact (fun _ _ _ h => h) | (intro k hk hl hS; have := hG k hk; first | (simp only [At, No] at hS; omega) | (have := hGc k hS; omega)))
          replace hW := hW.upd hu4 (by intro k hl hk; first | exact hk.elim | (simp only [At, No] at hk ⊢; omega) | (have := hGc k hk; omega))
          refine WL.nil ?_
          refine WX.keep [(0, _), (3, _), (4, _), (5, _), (6, _)] ⟨rfl, rfl, rfl, rfl, rfl, trivial⟩ ?_
          have hbf : Blk w4 w2.heap.size #[.int .i64 (cp : Int), .slice none 0 0] 54 := hB3
          have hbf1 := hbf.lt
          obtain ⟨bf, hbfe⟩ : ∃ bf, bf = w2.heap.size := ⟨_, rfl⟩
          rw [← hbfe] at hbf hbf1 ⊢
          have hbf0 : wA.heap.size ≤ bf := by omega
          refine WX.next ?_
          refine WC.seq ?_
          refine WC.region ?_
          refine WL.val rfl rfl rfl rfl (r_move rfl (ev_t rfl)) ?_
          refine WL.cons (SO.call (mUpto_ok h hFg (by simp only [inK]; omega) hm) rfl body_25 ⟨(ev_t rfl), ev_c, trivial⟩ rfl rfl rfl rfl ?_)
          rintro v w5 ⟨rfl, h, hu5⟩
          have hs6 := hu5.size
          have hs5 := hu5.size
          replace hU := hU.trans hu5 (by first | exact (fun _ _ h => h) | exact (fun _ _ h => h.elim) | (intro k hl hk; (try simp only [At, New, Grow, From, No] at hk ⊢); omega) | (intro k hl hk; first | (simp only [At, No] at hk ⊢; omega) | (have := hGc k hk; omega) | (have := hG k hk; omega)))
          replace hO := hO.upd hu5 (by first | exact (fun _ _ _ h => h) | (intro k hk hl hS; have := hG k hk; first | (simp only [At, No] at hS; omega) | (have := hGc k hS; omega)))
          replace hW := hW.upd hu5 (by intro k hl hk; first | exact hk.elim | (simp only [At, No] at hk ⊢; omega) | (have := hGc k hk; omega))
          replace hbf := hbf.upd hu5 (by first | exact (fun h => h) | (simp only [At, No]; omega) | (exact fun h => by have := hGc _ h; omega) | (exact fun h => by have := hG _ h; omega))
          refine WL.val rfl rfl rfl rfl (r_assign rfl (ev_t rfl)) ?_
          refine WL.nil ?_
          refine WX.keep [(0, _), (3, _), (4, _), (5, _), (6, _), (7, _)] ⟨rfl, rfl, rfl, rfl, rfl, rfl, trivial⟩ ?_
          refine WX.next ?_
          refine WC.seq ?_
          refine WC.seq ?_
          refine WC.region ?_
          refine WL.val rfl rfl rfl rfl (r_assign rfl ev_c) ?_
          refine WL.nil ?_
          refine WX.keep [(0, _), (3, _), (4, _), (5, _), (6, _), (7, _), (8, _)] ⟨rfl, rfl, rfl, rfl, rfl, rfl, rfl, trivial⟩ ?_
          refine WX.next ?_
          refine WC.block ?_
          -- loop 2: live [0, 3, 4, 5, 6, 7, 8]
          refine WC.keep [(0, _), (3, _), (4, _), (5, _), (6, _), (7, _), (8, _)] ⟨rfl, rfl, rfl, rfl, rfl, rfl, rfl, trivial⟩ ?_
          refine WC.loop (fun q E wB => ∃ (j : Nat) (s : RSt) (I : List In) (Ac : Option Addr) (cc : Nat) (Gc : Nat → Prop), j + q = m ∧ I.length + q ≤ 1048576 ∧ Upd (At g) w wB ∧ Upd (At g) wA wB ∧ bf < wB.heap.size ∧ IsM wB F g p s ∧ loadC q s I = (I9, s4) ∧ Blk wB bf #[.int .i64 (cp : Int), .slice Ac I.length cc] 54 ∧ Own wB Gc 55 4 (.slice Ac I.length cc) I.length (I.flatMap insC) ∧ (∀ k, Gc k → wA.heap.size ≤ k ∧ k < wB.heap.size ∧ k ≠ bf) ∧ Own wB G 54 2 (.slice A2 V2.length c2) V2.length (V2.flatMap FnV.cells) ∧   E = [(0, .pointer (some ⟨g, 0, none⟩)), (3, .slice A2 V2.length c2), (4, .int .i64 (n : Int)), (5, .int .i64 (i : Int)), (6, .pointer (some ⟨bf, 0, none⟩)), (7, .int .i64 (m : Int)), (8, .int .i64 (j : Int))]) (m) ?_ ?_
          · exact ⟨0, s3, [], none, 0, fun _ => False, by omega, by simp; omega, hU, hW, by omega, h, hI9, hbf, Own.nil _ _ _ _, (fun k h => h.elim), hO, rfl⟩
          · clear hU hW hbf hO h
            rintro q E wB ⟨j, s, I, Ac, cc, Gc, hj, hIq, hU, hW, hwb, h, hlc, hbf, hc, hGc, hO, rfl⟩
            have hwb2 := hU.size
            have hwb3 := hW.size
            obtain ⟨Aa, ca, at_, hb, _, hst⟩ := id h
            have hneg := hst.negC
            refine WC.seq ?_
            refine WC.seq ?_
            refine WC.region ?_
            refine WL.val rfl rfl rfl rfl (r_move rfl (ev_t rfl)) ?_
            refine WL.val rfl rfl rfl rfl (r_move rfl (ev_t rfl)) ?_
            refine WL.val rfl rfl rfl rfl (r_lss rfl (ev_t rfl) (ev_t rfl)) ?_
            refine WL.val rfl rfl rfl rfl (r_move rfl (ev_t rfl)) ?_
            refine WL.cases 32 rfl (fun hb9_3 => ?_) (fun hb9_3 => ?_)
            · try (exfalso; first | (simp at hb9_3; done) | (simp only [decide_eq_true_eq, decide_eq_false_iff_not, Bool.not_eq_true', Bool.not_eq_false', Bool.not_eq_true, Bool.not_eq_false] at hb9_3; omega) | omega)
              all_goals
               try simp only [decide_eq_true_eq, decide_eq_false_iff_not, Bool.not_eq_true', Bool.not_eq_false', Bool.not_eq_true, Bool.not_eq_false, Option.isNone_none, Option.isNone_some, Option.isSome_none, Option.isSome_some, ne_eq, Decidable.not_not] at hb9_3
               refine WL.val rfl rfl rfl rfl (r_move rfl (ev_t rfl)) ?_
               refine WL.val rfl rfl rfl rfl (r_nilCheck rfl (ev_t rfl)) ?_
               first | refine WL.val rfl rfl rfl rfl (r_field0 rfl (ev_t rfl) fld_35_1) ?_ | refine WL.val rfl rfl rfl rfl (r_fieldAt rfl (ev_t rfl) fld_35_1) ?_
               refine WL.val rfl rfl rfl rfl (r_load rfl (ev_t rfl) flat_3 (Blk.cell hb rfl)) ?_
               refine WL.val rfl rfl rfl rfl (r_geq rfl (ev_t rfl) ev_c) ?_
               refine WL.val rfl rfl rfl rfl (r_pickT rfl (ev_t rfl) (ev_t rfl)) ?_
               refine WL.nil ?_
               refine WX.keep [(0, _), (3, _), (4, _), (5, _), (6, _), (7, _), (8, _), (38, _)] ⟨rfl, rfl, rfl, rfl, rfl, rfl, rfl, rfl, trivial⟩ ?_
               refine WX.next ?_
               refine WC.cond rfl (ev_t rfl) (fun hc9 => ?_) (fun hc9 => ?_)
               · try (exfalso; first | (simp at hc9; done) | (simp only [decide_eq_true_eq, decide_eq_false_iff_not, Bool.not_eq_true', Bool.not_eq_false', Bool.not_eq_true, Bool.not_eq_false] at hc9; omega) | omega)
                 all_goals
                  try simp only [decide_eq_true_eq, decide_eq_false_iff_not, Bool.not_eq_true', Bool.not_eq_false', Bool.not_eq_true, Bool.not_eq_false, Option.isNone_none, Option.isNone_some, Option.isSome_none, Option.isSome_some, ne_eq, Decidable.not_not] at hc9
                  refine WC.skip ?_
                  refine WX.next ?_
                  refine WC.seq ?_
                  refine WC.block ?_
                  refine WC.seq ?_
                  obtain ⟨k1, rfl⟩ : ∃ k1, q = k1 + 1 := ⟨q - 1, by omega⟩
                  obtain ⟨p2, rfl⟩ : ∃ p2, s = some p2 := by cases s with | none => (have := hneg.2 rfl; omega) | some p => exact ⟨p, rfl⟩
                  obtain ⟨o, e1, ho⟩ : ∃ o e1, uptoR 255 (some p2) = (o, e1) := ⟨_, _, rfl⟩
                  obtain ⟨x, e2, hx⟩ : ∃ x e2, uintR e1 = (x, e2) := ⟨_, _, rfl⟩
                  obtain ⟨a, e3, ha⟩ : ∃ a e3, uptoR 1048576 e2 = (a, e3) := ⟨_, _, rfl⟩
                  obtain ⟨t, e4, ht⟩ : ∃ t e4, bytesR 2000 e3 = (t, e4) := ⟨_, _, rfl⟩
                  rw [loadC, readI_eq ho hx ha ht] at hlc
                  simp only at hlc
                  have ho4 := uptoR_le' (most := 255) (s := some p2) (by omega)
                  rw [ho] at ho4
                  simp only at ho4
                  clear hb hst hneg
                  refine WC.region ?_
                  refine WL.val rfl rfl rfl rfl (r_move rfl (ev_t rfl)) ?_
                  refine WL.cons (SO.call (mUpto_ok h hFg (by simp only [inK]; omega) ho) rfl body_25 ⟨(ev_t rfl), ev_c, trivial⟩ rfl rfl rfl rfl ?_)
                  rintro v w6 ⟨rfl, h, hu6⟩
                  have hs6 := hu6.size
                  replace hU := hU.trans hu6 (by first | exact (fun _ _ h => h) | exact (fun _ _ h => h.elim) | (intro k hl hk; (try simp only [At, New, Grow, From, No] at hk ⊢); omega) | (intro k hl hk; first | (simp only [At, No] at hk ⊢; omega) | (have := hGc k hk; omega) | (have := hG k hk; omega)))
                  replace hO := hO.upd hu6 (by first | exact (fun _ _ _ h => h) | (intro k hk hl hS; have := hG k hk; first | (simp only [At, No] at hS; omega) | (have := hGc k hS; omega)))
                  replace hW := hW.upd hu6 (by intro k hl hk; first | exact hk.elim | (simp only [At, No] at hk ⊢; omega) | (have := hGc k hk; omega))
                  replace hbf := hbf.upd hu6 (by first | exact (fun h => h) | (simp only [At, No]; omega) | (exact fun h => by have := hGc _ h; omega) | (exact fun h => by have := hG _ h; omega))
                  replace hc := hc.upd hu6 (by first | exact (fun _ _ _ h => h) | (intro k hk hl hS; have := hGc k hk; simp only [At, No] at hS; omega))
                  first | refine WL.val rfl rfl rfl rfl (r_convN rfl (ev_t rfl) some_3 int_5 (by simp only [inK]; omega)) ?_ | refine WL.val rfl rfl rfl rfl (r_conv rfl (ev_t rfl) some_3 int_5) ?_
                  refine WL.val rfl rfl rfl rfl (r_build (cs := #[_, _, _, _]) (vs := [(0, _)]) rfl ⟨⟨rfl, (ev_t rfl)⟩, trivial⟩ plc_55 zero_55 rfl) ?_
                  refine WL.cons (SO.alloc rfl rfl rfl rfl (r_alloc rfl zero_55) ?_)
                  intro w7 hu7 hB7 hz7
                  have hs7 := hu7.size
                  replace hU := hU.trans hu7 (by first | exact (fun _ _ h => h) | exact (fun _ _ h => h.elim) | (intro k hl hk; (try simp only [At, New, Grow, From, No] at hk ⊢); omega) | (intro k hl hk; first | (simp only [At, No] at hk ⊢; omega) | (have := hGc k hk; omega) | (have := hG k hk; omega)))
                  replace h := h.upd hu7 (by first | exact (fun h => h) | (simp only [At, No]; omega) | (exact fun h => by have := hGc _ h; omega) | (exact fun h => by have := hG _ h; omega)) (by first | exact (fun _ _ _ h => h) | (intro k hk hl hS; have := hFl k hk; first | (simp only [At, No] at hS; omega) | (have := hGc k hS; omega) | (have := hG k hS; omega)))
                  replace hO := hO.upd hu7 (by first | exact (fun _ _ _ h => h) | (intro k hk hl hS; have := hG k hk; first | (simp only [At, No] at hS; omega) | (have := hGc k hS; omega)))
                  replace hW := hW.upd hu7 (by intro k hl hk; first | exact hk.elim | (simp only [At, No] at hk ⊢; omega) | (have := hGc k hk; omega))
                  replace hbf := hbf.upd hu7 (by first | exact (fun h => h) | (simp only [At, No]; omega) | (exact fun h => by have := hGc _ h; omega) | (exact fun h => by have := hG _ h; omega))
                  replace hc := hc.upd hu7 (by first | exact (fun _ _ _ h => h) | (intro k hk hl hS; have := hGc k hk; simp only [At, No] at hS; omega))
                  refine WL.cons (SO.storeAll (us := [_, _, _, _]) rfl (ev_t rfl) (ev_t rfl) size_55 hB7 rfl rfl rfl rfl rfl ?_)
                  intro w8 hu8 hB7 hz8
                  have hs8 := hu8.size
                  replace hU := hU.trans hu8 (by first | exact (fun _ _ h => h) | exact (fun _ _ h => h.elim) | (intro k hl hk; (try simp only [At, New, Grow, From, No] at hk ⊢); omega) | (intro k hl hk; first | (simp only [At, No] at hk ⊢; omega) | (have := hGc k hk; omega) | (have := hG k hk; omega)))
                  replace h := h.upd hu8 (by first | exact (fun h => h) | (simp only [At, No]; omega) | (exact fun h => by have := hGc _ h; omega) | (exact fun h => by have := hG _ h; omega)) (by first | exact (fun _ _ _ h => h) | (intro k hk hl hS; have := hFl k hk; first | (simp only [At, No] at hS; omega) | (have := hGc k hS; omega) | (have := hG k hS; omega)))
                  replace hO := hO.upd hu8 (by first | exact (fun _ _ _ h => h) | (intro k hk hl hS; have := hG k hk; first | (simp only [At, No] at hS; omega) | (have := hGc k hS; omega)))
                  replace hW := hW.upd hu8 (by intro k hl hk; first | exact hk.elim | (simp only [At, No] at hk ⊢; omega) | (have := hGc k hk; omega))
                  replace hbf := hbf.upd hu8 (by first | exact (fun h => h) | (simp only [At, No]; omega) | (exact fun h => by have := hGc _ h; omega) | (exact fun h => by have := hG _ h; omega))
                  replace hc := hc.upd hu8 (by first | exact (fun _ _ _ h => h) | (intro k hk hl hS; have := hGc k hk; simp only [At, No] at hS; omega))
                  refine WL.nil ?_
                  refine WX.keep [(0, _), (3, _), (4, _), (5, _), (6, _), (7, _), (8, _), (9, _)] ⟨rfl, rfl, rfl, rfl, rfl, rfl, rfl, rfl, trivial⟩ ?_
                  have hbi : Blk w8 _ #[.int .u8 (o : Int), .int .i64 0, .int .i64 0, .string ⟨#[]⟩] 55 := hB7
                  refine WX.next ?_
                  refine WC.seq ?_
                  refine WC.region ?_
                  refine WL.val rfl rfl rfl rfl (r_move rfl (ev_t rfl)) ?_
                  refine WL.cons (SO.call (mInt_ok h hFg hx) rfl body_26 ⟨(ev_t rfl), trivial⟩ rfl rfl rfl rfl ?_)
                  rintro v w9 ⟨rfl, h, hu9⟩
                  have hs9 := hu9.size
                  replace hU := hU.trans hu9 (by first | exact (fun _ _ h => h) | exact (fun _ _ h => h.elim) | (intro k hl hk; (try simp only [At, New, Grow, From, No] at hk ⊢); omega) | (intro k hl hk; first | (simp only [At, No] at hk ⊢; omega) | (have := hGc k hk; omega) | (have := hG k hk; omega)))
                  replace hO := hO.upd hu9 (by first | exact (fun _ _ _ h => h) | (intro k hk hl hS; have := hG k hk; first | (simp only [At, No] at hS; omega) | (have := hGc k hS; omega)))
                  replace hW := hW.upd hu9 (by intro k hl hk; first | exact hk.elim | (simp only [At, No] at hk ⊢; omega) | (have := hGc k hk; omega))
                  replace hbf := hbf.upd hu9 (by first | exact (fun h => h) | (simp only [At, No]; omega) | (exact fun h => by have := hGc _ h; omega) | (exact fun h => by have := hG _ h; omega))
                  replace hc := hc.upd hu9 (by first | exact (fun _ _ _ h => h) | (intro k hk hl hS; have := hGc k hk; simp only [At, No] at hS; omega))
                  replace hbi := hbi.upd hu9 (by first | exact (fun h => h) | (simp only [At, No]; omega) | (exact fun h => by have := hGc _ h; omega) | (exact fun h => by have := hG _ h; omega))
                  first | refine WL.val rfl rfl rfl rfl (r_field0 rfl (ev_t rfl) fld_55_1) ?_ | refine WL.val rfl rfl rfl rfl (r_fieldAt rfl (ev_t rfl) fld_55_1) ?_
                  refine WL.cons (SO.store rfl (ev_t rfl) (ev_t rfl) size_2 hbi rfl rfl rfl rfl rfl ?_)
                  intro w10 hu10 hbi hz10
                  have hs10 := hu10.size
                  replace hU := hU.trans hu10 (by first | exact (fun _ _ h => h) | exact (fun _ _ h => h.elim) | (intro k hl hk; (try simp only [At, New, Grow, From, No] at hk ⊢); omega) | (intro k hl hk; first | (simp only [At, No] at hk ⊢; omega) | (have := hGc k hk; omega) | (have := hG k hk; omega)))
                  replace h := h.upd hu10 (by first | exact (fun h => h) | (simp only [At, No]; omega) | (exact fun h => by have := hGc _ h; omega) | (exact fun h => by have := hG _ h; omega)) (by first | exact (fun _ _ _ h => h) | (intro k hk hl hS; have := hFl k hk; first | (simp only [At, No] at hS; omega) | (have := hGc k hS; omega) | (have := hG k hS; omega)))
                  replace hO := hO.upd hu10 (by first | exact (fun _ _ _ h => h) | (intro k hk hl hS; have := hG k hk; first | (simp only [At, No] at hS; omega) | (have := hGc k hS; omega)))
                  replace hW := hW.upd hu10 (by intro k hl hk; first | exact hk.elim | (simp only [At, No] at hk ⊢; omega) | (have := hGc k hk; omega))
                  replace hbf := hbf.upd hu10 (by first | exact (fun h => h) | (simp only [At, No]; omega) | (exact fun h => by have := hGc _ h; omega) | (exact fun h => by have := hG _ h; omega))
                  replace hc := hc.upd hu10 (by first | exact (fun _ _ _ h => h) | (intro k hk hl hS; have := hGc k hk; simp only [At, No] at hS; omega))
                  refine WL.nil ?_
                  refine WX.keep [(0, _), (3, _), (4, _), (5, _), (6, _), (7, _), (8, _), (9, _)] ⟨rfl, rfl, rfl, rfl, rfl, rfl, rfl, rfl, trivial⟩ ?_
                  refine WX.next ?_
                  refine WC.seq ?_
                  refine WC.region ?_
                  refine WL.val rfl rfl rfl rfl (r_move rfl (ev_t rfl)) ?_
                  refine WL.cons (SO.call (mUpto_ok h hFg (by simp only [inK]; omega) ha) rfl body_25 ⟨(ev_t rfl), ev_c, trivial⟩ rfl rfl rfl rfl ?_)
                  rintro v w11 ⟨rfl, h, hu11⟩
                  have hs11 := hu11.size
                  replace hU := hU.trans hu11 (by first | exact (fun _ _ h => h) | exact (fun _ _ h => h.elim) | (intro k hl hk; (try simp only [At, New, Grow, From, No] at hk ⊢); omega) | (intro k hl hk; first | (simp only [At, No] at hk ⊢; omega) | (have := hGc k hk; omega) | (have := hG k hk; omega)))
                  replace hO := hO.upd hu11 (by first | exact (fun _ _ _ h => h) | (intro k hk hl hS; have := hG k hk; first | (simp only [At, No] at hS; omega) | (have := hGc k hS; omega)))
                  replace hW := hW.upd hu11 (by intro k hl hk; first | exact hk.elim | (simp only [At, No] at hk ⊢; omega) | (have := hGc k hk; omega))
                  replace hbf := hbf.upd hu11 (by first | exact (fun h => h) | (simp only [At, No]; omega) | (exact fun h => by have := hGc _ h; omega) | (exact fun h => by have := hG _ h; omega))
                  replace hc := hc.upd hu11 (by first | exact (fun _ _ _ h => h) | (intro k hk hl hS; have := hGc k hk; simp only [At, No] at hS; omega))
                  replace hbi := hbi.upd hu11 (by first | exact (fun h => h) | (simp only [At, No]; omega) | (exact fun h => by have := hGc _ h; omega) | (exact fun h => by have := hG _ h; omega))
                  first | refine WL.val rfl rfl rfl rfl (r_field0 rfl (ev_t rfl) fld_55_2) ?_ | refine WL.val rfl rfl rfl rfl (r_fieldAt rfl (ev_t rfl) fld_55_2) ?_
                  refine WL.cons (SO.store rfl (ev_t rfl) (ev_t rfl) size_3 hbi rfl rfl rfl rfl rfl ?_)
                  intro w12 hu12 hbi hz12
                  have hs12 := hu12.size
                  replace hU := hU.trans hu12 (by first | exact (fun _ _ h => h) | exact (fun _ _ h => h.elim) | (intro k hl hk; (try simp only [At, New, Grow, From, No] at hk ⊢); omega) | (intro k hl hk; first | (simp only [At, No] at hk ⊢; omega) | (have := hGc k hk; omega) | (have := hG k hk; omega)))
                  replace h := h.upd hu12 (by first | exact (fun h => h) | (simp only [At, No]; omega) | (exact fun h => by have := hGc _ h; omega) | (exact fun h => by have := hG _ h; omega)) (by first | exact (fun _ _ _ h => h) | (intro k hk hl hS; have := hFl k hk; first | (simp only [At, No] at hS; omega) | (have := hGc k hS; omega) | (have := hG k hS; omega)))
                  replace hO := hO.upd hu12 (by first | exact (fun _ _ _ h => h) | (intro k hk hl hS; have := hG k hk; first | (simp only [At, No] at hS; omega) | (have := hGc k hS; omega)))
                  replace hW := hW.upd hu12 (by intro k hl hk; first | exact hk.elim | (simp only [At, No] at hk ⊢; omega) | (have := hGc k hk; omega))
                  replace hbf := hbf.upd hu12 (by first | exact (fun h => h) | (simp only [At, No]; omega) | (exact fun h => by have := hGc _ h; omega) | (exact fun h => by have := hG _ h; omega))
                  replace hc := hc.upd hu12 (by first | exact (fun _ _ _ h => h) | (intro k hk hl hS; have := hGc k hk; simp only [At, No] at hS; omega))
                  refine WL.nil ?_
                  refine WX.keep [(0, _), (3, _), (4, _), (5, _), (6, _), (7, _), (8, _), (9, _)] ⟨rfl, rfl, rfl, rfl, rfl, rfl, rfl, rfl, trivial⟩ ?_
                  refine WX.next ?_
                  refine WC.seq ?_
                  refine WC.region ?_
                  refine WL.val rfl rfl rfl rfl (r_move rfl (ev_t rfl)) ?_
                  refine WL.cons (SO.call (mBytes_ok h hFg (by simp only [inK]; omega) ht) rfl body_27 ⟨(ev_t rfl), ev_c, trivial⟩ rfl rfl rfl rfl ?_)
                  rintro v w13 ⟨hcl, h, hu13⟩
                  obtain ⟨Ad, cd, rfl, hcd⟩ := hcl.slice_form
                  have hs13 := hu13.size
                  replace hU := hU.trans hu13 (by first | exact (fun _ _ h => h) | exact (fun _ _ h => h.elim) | (intro k hl hk; (try simp only [At, New, Grow, From, No] at hk ⊢); omega) | (intro k hl hk; first | (simp only [At, No] at hk ⊢; omega) | (have := hGc k hk; omega) | (have := hG k hk; omega)))
                  replace hO := hO.upd hu13 (by first | exact (fun _ _ _ h => h) | (intro k hk hl hS; have := hG k hk; first | (simp only [At, No] at hS; omega) | (have := hGc k hS; omega)))
                  replace hW := hW.upd hu13 (by intro k hl hk; first | exact hk.elim | (simp only [At, No] at hk ⊢; omega) | (have := hGc k hk; omega))
                  replace hbf := hbf.upd hu13 (by first | exact (fun h => h) | (simp only [At, No]; omega) | (exact fun h => by have := hGc _ h; omega) | (exact fun h => by have := hG _ h; omega))
                  replace hc := hc.upd hu13 (by first | exact (fun _ _ _ h => h) | (intro k hk hl hS; have := hGc k hk; simp only [At, No] at hS; omega))
                  replace hbi := hbi.upd hu13 (by first | exact (fun h => h) | (simp only [At, No]; omega) | (exact fun h => by have := hGc _ h; omega) | (exact fun h => by have := hG _ h; omega))
                  refine WL.val rfl rfl rfl rfl (r_toStr rfl (ev_t rfl) hcl elem_30 int_5 str_9) ?_
                  first | refine WL.val rfl rfl rfl rfl (r_field0 rfl (ev_t rfl) fld_55_3) ?_ | refine WL.val rfl rfl rfl rfl (r_fieldAt rfl (ev_t rfl) fld_55_3) ?_
                  refine WL.cons (SO.store rfl (ev_t rfl) (ev_t rfl) size_9 hbi rfl rfl rfl rfl rfl ?_)
                  intro w14 hu14 hbi hz14
                  have hs14 := hu14.size
                  replace hU := hU.trans hu14 (by first | exact (fun _ _ h => h) | exact (fun _ _ h => h.elim) | (intro k hl hk; (try simp only [At, New, Grow, From, No] at hk ⊢); omega) | (intro k hl hk; first | (simp only [At, No] at hk ⊢; omega) | (have := hGc k hk; omega) | (have := hG k hk; omega)))
                  replace h := h.upd hu14 (by first | exact (fun h => h) | (simp only [At, No]; omega) | (exact fun h => by have := hGc _ h; omega) | (exact fun h => by have := hG _ h; omega)) (by first | exact (fun _ _ _ h => h) | (intro k hk hl hS; have := hFl k hk; first | (simp only [At, No] at hS; omega) | (have := hGc k hS; omega) | (have := hG k hS; omega)))
                  replace hO := hO.upd hu14 (by first | exact (fun _ _ _ h => h) | (intro k hk hl hS; have := hG k hk; first | (simp only [At, No] at hS; omega) | (have := hGc k hS; omega)))
                  replace hW := hW.upd hu14 (by intro k hl hk; first | exact hk.elim | (simp only [At, No] at hk ⊢; omega) | (have := hGc k hk; omega))
                  replace hbf := hbf.upd hu14 (by first | exact (fun h => h) | (simp only [At, No]; omega) | (exact fun h => by have := hGc _ h; omega) | (exact fun h => by have := hG _ h; omega))
                  replace hc := hc.upd hu14 (by first | exact (fun _ _ _ h => h) | (intro k hk hl hS; have := hGc k hk; simp only [At, No] at hS; omega))
                  refine WL.nil ?_
                  refine WX.keep [(0, _), (3, _), (4, _), (5, _), (6, _), (7, _), (8, _), (9, _)] ⟨rfl, rfl, rfl, rfl, rfl, rfl, rfl, rfl, trivial⟩ ?_
                  refine WX.next ?_
                  refine WC.region ?_
                  first | refine WL.val rfl rfl rfl rfl (r_field0 rfl (ev_t rfl) fld_54_1) ?_ | refine WL.val rfl rfl rfl rfl (r_fieldAt rfl (ev_t rfl) fld_54_1) ?_
                  refine WL.val rfl rfl rfl rfl (r_load rfl (ev_t rfl) flat_52 (Blk.cell hbf rfl)) ?_
                  refine WL.val rfl rfl rfl rfl (r_loadAgg (vs := [_, _, _, _]) rfl (ev_t rfl) agg_55 size_55 (Blk.cellsL (us := [.int .u8 (o : Int), .int .i64 (zag x), .int .i64 (a : Int), .string ⟨t.toArray⟩]) hbi)) ?_
                  refine WL.cons (SO.alloc rfl rfl rfl rfl (r_buildSlice (cs := #[_, _, _, _]) (vs := [(0, _)]) rfl ⟨⟨rfl, (ev_t rfl)⟩, trivial⟩ row_52 rfl rfl) ?_)
                  intro w15 hu15 hB15 hz15
                  have hs15 := hu15.size
                  replace hU := hU.trans hu15 (by first | exact (fun _ _ h => h) | exact (fun _ _ h => h.elim) | (intro k hl hk; (try simp only [At, New, Grow, From, No] at hk ⊢); omega) | (intro k hl hk; first | (simp only [At, No] at hk ⊢; omega) | (have := hGc k hk; omega) | (have := hG k hk; omega)))
                  replace h := h.upd hu15 (by first | exact (fun h => h) | (simp only [At, No]; omega) | (exact fun h => by have := hGc _ h; omega) | (exact fun h => by have := hG _ h; omega)) (by first | exact (fun _ _ _ h => h) | (intro k hk hl hS; have := hFl k hk; first | (simp only [At, No] at hS; omega) | (have := hGc k hS; omega) | (have := hG k hS; omega)))
                  replace hO := hO.upd hu15 (by first | exact (fun _ _ _ h => h) | (intro k hk hl hS; have := hG k hk; first | (simp only [At, No] at hS; omega) | (have := hGc k hS; omega)))
                  replace hW := hW.upd hu15 (by intro k hl hk; first | exact hk.elim | (simp only [At, No] at hk ⊢; omega) | (have := hGc k hk; omega))
                  replace hbf := hbf.upd hu15 (by first | exact (fun h => h) | (simp only [At, No]; omega) | (exact fun h => by have := hGc _ h; omega) | (exact fun h => by have := hG _ h; omega))
                  replace hc := hc.upd hu15 (by first | exact (fun _ _ _ h => h) | (intro k hk hl hS; have := hGc k hk; simp only [At, No] at hS; omega))
                  replace hbi := hbi.upd hu15 (by first | exact (fun h => h) | (simp only [At, No]; omega) | (exact fun h => by have := hGc _ h; omega) | (exact fun h => by have := hG _ h; omega))
                  refine WL.cons (SO.append hc (Rd.of_blk (F := At _) (n := 1) (sz := 4) hB15 rfl rfl (by omega)) row_52 (by intro u hu; simp only [List.mem_cons, List.not_mem_nil, or_false, Array.toList] at hu; rcases hu with rfl | rfl | rfl | rfl <;> rfl) (le_maxLen (by omega)) (by omega) rfl (ev_t rfl) (ev_t rfl) rfl rfl rfl rfl ?_)
                  intro v16 w16 hc2 hu16
                  have hs16 := hu16.size
                  replace hU := hU.trans hu16 (by first | exact (fun _ _ h => h) | exact (fun _ _ h => h.elim) | (intro k hl hk; (try simp only [At, New, Grow, From, No] at hk ⊢); omega) | (intro k hl hk; first | (simp only [At, No] at hk ⊢; omega) | (have := hGc k hk; omega) | (have := hG k hk; omega)))
                  replace h := h.upd hu16 (by first | exact (fun h => h) | (simp only [At, No]; omega) | (exact fun h => by have := hGc _ h; omega) | (exact fun h => by have := hG _ h; omega)) (by first | exact (fun _ _ _ h => h) | (intro k hk hl hS; have := hFl k hk; first | (simp only [At, No] at hS; omega) | (have := hGc k hS; omega) | (have := hG k hS; omega)))
                  replace hO := hO.upd hu16 (by first | exact (fun _ _ _ h => h) | (intro k hk hl hS; have := hG k hk; first | (simp only [At, No] at hS; omega) | (have := hGc k hS; omega)))
                  replace hW := hW.upd hu16 (by intro k hl hk; first | exact hk.elim | (simp only [At, No] at hk ⊢; omega) | (have := hGc k hk; omega))
                  replace hbf := hbf.upd hu16 (by first | exact (fun h => h) | (simp only [At, No]; omega) | (exact fun h => by have := hGc _ h; omega) | (exact fun h => by have := hG _ h; omega))
                  replace hbi := hbi.upd hu16 (by first | exact (fun h => h) | (simp only [At, No]; omega) | (exact fun h => by have := hGc _ h; omega) | (exact fun h => by have := hG _ h; omega))
                  obtain ⟨A16, c16, rfl, hc16⟩ := Own.form hc2
                  first | refine WL.val rfl rfl rfl rfl (r_field0 rfl (ev_t rfl) fld_54_1) ?_ | refine WL.val rfl rfl rfl rfl (r_fieldAt rfl (ev_t rfl) fld_54_1) ?_
                  refine WL.cons (SO.store rfl (ev_t rfl) (ev_t rfl) size_52 hbf rfl rfl rfl rfl rfl ?_)
                  intro w17 hu17 hbf hz17
                  have hs17 := hu17.size
                  replace hU := hU.trans hu17 (by first | exact (fun _ _ h => h) | exact (fun _ _ h => h.elim) | (intro k hl hk; (try simp only [At, New, Grow, From, No] at hk ⊢); omega) | (intro k hl hk; first | (simp only [At, No] at hk ⊢; omega) | (have := hGc k hk; omega) | (have := hG k hk; omega)))
                  replace h := h.upd hu17 (by first | exact (fun h => h) | (simp only [At, No]; omega) | (exact fun h => by have := hGc _ h; omega) | (exact fun h => by have := hG _ h; omega)) (by first | exact (fun _ _ _ h => h) | (intro k hk hl hS; have := hFl k hk; first | (simp only [At, No] at hS; omega) | (have := hGc k hS; omega) | (have := hG k hS; omega)))
                  replace hO := hO.upd hu17 (by first | exact (fun _ _ _ h => h) | (intro k hk hl hS; have := hG k hk; first | (simp only [At, No] at hS; omega) | (have := hGc k hS; omega)))
                  replace hW := hW.upd hu17 (by intro k hl hk; first | exact hk.elim | (simp only [At, No] at hk ⊢; omega) | (have := hGc k hk; omega))
                  replace hbi := hbi.upd hu17 (by first | exact (fun h => h) | (simp only [At, No]; omega) | (exact fun h => by have := hGc _ h; omega) | (exact fun h => by have := hG _ h; omega))
                  replace hc2 := hc2.upd hu17 (by first | exact (fun _ _ _ h => h) | (intro k hk hl hS; simp only [At, No] at hS; rcases hk with hk | hk; (have := hGc k hk; omega); omega))
                  refine WL.nil ?_
                  refine WX.keep [(0, _), (3, _), (4, _), (5, _), (6, _), (7, _), (8, _)] ⟨rfl, rfl, rfl, rfl, rfl, rfl, rfl, trivial⟩ ?_
                  refine WX.blockNormal ?_
                  refine WX.next ?_
                  refine WC.region ?_
                  refine WL.val rfl rfl rfl rfl (r_move rfl (ev_t rfl)) ?_
                  first | refine WL.val rfl rfl rfl rfl (r_addN rfl (ev_t rfl) ev_c (by simp only [inK]; omega)) ?_ | refine WL.val rfl rfl rfl rfl (r_add rfl (ev_t rfl) ev_c) ?_
                  refine WL.val rfl rfl rfl rfl (r_assign rfl (ev_t rfl)) ?_
                  refine WL.nil ?_
                  refine WX.keep [(0, _), (3, _), (4, _), (5, _), (6, _), (7, _), (8, _)] ⟨rfl, rfl, rfl, rfl, rfl, rfl, rfl, trivial⟩ ?_
                  refine WX.meet [(0, _), (3, _), (4, _), (5, _), (6, _), (7, _), (8, _)] ⟨rfl, rfl, rfl, rfl, rfl, rfl, rfl, trivial⟩ ?_
                  refine ⟨k1, by omega, j + 1, e4, I ++ [⟨o, zag x, (a : Int), t⟩], _, _, _, by omega, by rw [List.length_append]; simp; omega, hU, hW, by omega, h, hlc, by rw [List.length_append]; exact hbf, by rw [List.length_append]; exact Own.cast hc2 (show I.flatMap insC ++ insC ⟨o, zag x, (a : Int), t⟩ = _ from decL_push), fun k hk => ?_, hO, rfl⟩
                  rcases hk with hk | hk
                  · have := hGc k hk; exact ⟨by omega, by omega, this.2.2⟩
                  · exact ⟨by omega, by omega, by omega⟩
               · try (exfalso; first | (simp at hc9; done) | (simp only [decide_eq_true_eq, decide_eq_false_iff_not, Bool.not_eq_true', Bool.not_eq_false', Bool.not_eq_true, Bool.not_eq_false] at hc9; omega) | omega)
                 all_goals
                  try simp only [decide_eq_true_eq, decide_eq_false_iff_not, Bool.not_eq_true', Bool.not_eq_false', Bool.not_eq_true, Bool.not_eq_false, Option.isNone_none, Option.isNone_some, Option.isSome_none, Option.isSome_some, ne_eq, Decidable.not_not] at hc9
                  have hs0 : s = none := hneg.1 (by omega)
                  have he2 : I = I9 ∧ s = s4 := by rw [hs0, loadC_none] at hlc; rw [hs0]; simpa using hlc
                  obtain ⟨rfl, rfl⟩ := he2
                  refine WC.exit ?_
                  refine WX.thenExit ?_
                  refine WX.thenExit ?_
                  refine WX.blockHere ?_
                  refine WX.next ?_
                  refine WC.region ?_
                  refine WL.val rfl rfl rfl rfl (r_move rfl (ev_t rfl)) ?_
                  refine WL.val rfl rfl rfl rfl (r_loadAgg (vs := [_, _]) rfl (ev_t rfl) agg_54 size_54 (Blk.cellsL hbf)) ?_
                  refine WL.cons (SO.alloc rfl rfl rfl rfl (r_buildSlice (cs := #[_, _]) (vs := [(0, _)]) rfl ⟨⟨rfl, (ev_t rfl)⟩, trivial⟩ row_27 rfl rfl) ?_)
                  intro w18 hu18 hB18 hz18
                  have hs18 := hu18.size
                  replace hU := hU.trans hu18 (by first | exact (fun _ _ h => h) | exact (fun _ _ h => h.elim) | (intro k hl hk; (try simp only [At, New, Grow, From, No] at hk ⊢); omega) | (intro k hl hk; first | (simp only [At, No] at hk ⊢; omega) | (have := hGc k hk; omega) | (have := hG k hk; omega)))
                  replace h := h.upd hu18 (by first | exact (fun h => h) | (simp only [At, No]; omega) | (exact fun h => by have := hGc _ h; omega) | (exact fun h => by have := hG _ h; omega)) (by first | exact (fun _ _ _ h => h) | (intro k hk hl hS; have := hFl k hk; first | (simp only [At, No] at hS; omega) | (have := hGc k hS; omega) | (have := hG k hS; omega)))
                  replace hO := hO.upd hu18 (by first | exact (fun _ _ _ h => h) | (intro k hk hl hS; have := hG k hk; first | (simp only [At, No] at hS; omega) | (have := hGc k hS; omega)))
                  replace hW := hW.upd hu18 (by intro k hl hk; first | exact hk.elim | (simp only [At, No] at hk ⊢; omega) | (have := hGc k hk; omega))
                  replace hbf := hbf.upd hu18 (by first | exact (fun h => h) | (simp only [At, No]; omega) | (exact fun h => by have := hGc _ h; omega) | (exact fun h => by have := hG _ h; omega))
                  replace hc := hc.upd hu18 (by first | exact (fun _ _ _ h => h) | (intro k hk hl hS; have := hGc k hk; simp only [At, No] at hS; omega))
                  replace hb := hb.upd hu18 (by first | exact (fun h => h) | (simp only [At, No]; omega) | (exact fun h => by have := hGc _ h; omega) | (exact fun h => by have := hG _ h; omega))
                  have hcr := hc.rd (by omega)
                  have hW8 := hW
                  have hs8 := hW8.size
                  refine WL.cons (SO.append hO (Rd.of_blk (F := At _) (n := 1) (sz := 2) hB18 rfl rfl (by omega)) row_27 (by intro u hu; simp only [List.mem_cons, List.not_mem_nil, or_false, Array.toList] at hu; rcases hu with rfl | rfl <;> rfl) (le_maxLen (by omega)) (by omega) rfl (ev_t rfl) (ev_t rfl) rfl rfl rfl rfl ?_)
                  intro v19 w19 hO2 hu19
                  have hs19 := hu19.size
                  replace hU := hU.trans hu19 (by first | exact (fun _ _ h => h) | exact (fun _ _ h => h.elim) | (intro k hl hk; (try simp only [At, New, Grow, From, No] at hk ⊢); omega) | (intro k hl hk; first | (simp only [At, No] at hk ⊢; omega) | (have := hGc k hk; omega) | (have := hG k hk; omega)))
                  replace h := h.upd hu19 (by first | exact (fun h => h) | (simp only [At, No]; omega) | (exact fun h => by have := hGc _ h; omega) | (exact fun h => by have := hG _ h; omega)) (by first | exact (fun _ _ _ h => h) | (intro k hk hl hS; have := hFl k hk; first | (simp only [At, No] at hS; omega) | (have := hGc k hS; omega) | (have := hG k hS; omega)))
                  replace hbf := hbf.upd hu19 (by first | exact (fun h => h) | (simp only [At, No]; omega) | (exact fun h => by have := hGc _ h; omega) | (exact fun h => by have := hG _ h; omega))
                  replace hb := hb.upd hu19 (by first | exact (fun h => h) | (simp only [At, No]; omega) | (exact fun h => by have := hGc _ h; omega) | (exact fun h => by have := hG _ h; omega))
                  replace hcr := hcr.upd hu19 (by first | exact (fun _ _ _ h => h) | (intro k hk hl hS; have := hGc k hk; have := hG k hS; omega))
                  obtain ⟨A19, c19, rfl, hc19⟩ := Own.form hO2
                  have hap := hu19
                  refine WL.val rfl rfl rfl rfl (r_assign rfl (ev_t rfl)) ?_
                  refine WL.nil ?_
                  refine WX.keep [(0, _), (3, _), (4, _), (5, _)] ⟨rfl, rfl, rfl, rfl, trivial⟩ ?_
                  refine WX.blockNormal ?_
                  refine WX.next ?_
                  refine WC.region ?_
                  refine WL.val rfl rfl rfl rfl (r_move rfl (ev_t rfl)) ?_
                  first | refine WL.val rfl rfl rfl rfl (r_addN rfl (ev_t rfl) ev_c (by simp only [inK]; omega)) ?_ | refine WL.val rfl rfl rfl rfl (r_add rfl (ev_t rfl) ev_c) ?_
                  refine WL.val rfl rfl rfl rfl (r_assign rfl (ev_t rfl)) ?_
                  refine WL.nil ?_
                  refine WX.keep [(0, _), (3, _), (4, _), (5, _)] ⟨rfl, rfl, rfl, rfl, trivial⟩ ?_
                  refine WX.meet [(0, _), (3, _), (4, _), (5, _)] ⟨rfl, rfl, rfl, rfl, trivial⟩ ?_
                  have hs9 := hap.size
                  obtain ⟨nx, hnx⟩ : ∃ nx : FnV, nx = ⟨⟨(cp : Int), I⟩, .slice Ac I.length cc⟩ := ⟨_, rfl⟩
                  have hml : (V2 ++ [nx]).map FnV.f = V2.map FnV.f ++ [⟨(cp : Int), I⟩] := by rw [List.map_append, hnx]; rfl
                  have hO3 := Own.cast hO2 (show V2.flatMap FnV.cells ++ FnV.cells ⟨⟨(cp : Int), I⟩, .slice Ac I.length cc⟩ = (V2 ++ [nx]).flatMap FnV.cells from by rw [← hnx, List.flatMap_append, List.flatMap_singleton])
                  refine ⟨q1, by omega, i + 1, s, V2 ++ [nx], _, _, _, fun k => C k ∨ Gc k, by omega, by rw [List.length_append]; simp; omega, hU, h, by rw [hml]; exact hl, by rw [List.length_append]; exact hO3, fun x hx => ?_, fun k hk => ?_, fun k hk => ?_, by rw [List.length_append]; rfl⟩
                  · rcases List.mem_append.1 hx with hx | hx
                    · exact (((hD x hx).upd hW8 (fun k hk _ hS => by have := hC k hk; simp only [At] at hS; omega)).upd hap (fun k hk _ hS => (hC k hk).2.2 hS)).mono fun k hk => .inl hk
                    · rw [List.mem_singleton] at hx
                      subst hx
                      rw [hnx]
                      exact hcr.mono fun k hk => .inr hk
                  · rcases hk with hk | hk
                    · have := hG k hk; omega
                    · omega
                  · rcases hk with hk | hk
                    · have := hC k hk
                      exact ⟨by omega, by omega, fun h => h.elim this.2.2 (fun h => by omega)⟩
                    · have := hGc k hk
                      exact ⟨by omega, by omega, fun h => h.elim (fun h => by have := hG k h; omega) (fun h => by omega)⟩
            · try (exfalso; first | (simp at hb9_3; done) | (simp only [decide_eq_true_eq, decide_eq_false_iff_not, Bool.not_eq_true', Bool.not_eq_false', Bool.not_eq_true, Bool.not_eq_false] at hb9_3; omega) | omega)
              all_goals
               try simp only [decide_eq_true_eq, decide_eq_false_iff_not, Bool.not_eq_true', Bool.not_eq_false', Bool.not_eq_true, Bool.not_eq_false, Option.isNone_none, Option.isNone_some, Option.isSome_none, Option.isSome_some, ne_eq, Decidable.not_not] at hb9_3
               refine WL.skip rfl rfl rfl ?_
               refine WL.skip rfl rfl rfl ?_
               refine WL.skip rfl rfl rfl ?_
               refine WL.skip rfl rfl rfl ?_
               refine WL.skip rfl rfl rfl ?_
               refine WL.val rfl rfl rfl rfl (r_pickF rfl (ev_t rfl) ev_c) ?_
               refine WL.nil ?_
               refine WX.keep [(0, _), (3, _), (4, _), (5, _), (6, _), (7, _), (8, _), (38, _)] ⟨rfl, rfl, rfl, rfl, rfl, rfl, rfl, rfl, trivial⟩ ?_
               refine WX.next ?_
               refine WC.cond_false rfl (ev_t rfl) ?_
               obtain rfl : q = 0 := by omega
               have he2 : I = I9 ∧ s = s4 := by rw [loadC_zero] at hlc; simpa using hlc
               obtain ⟨rfl, rfl⟩ := he2
               refine WC.exit ?_
               refine WX.thenExit ?_
               refine WX.thenExit ?_
               refine WX.blockHere ?_
               refine WX.next ?_
               refine WC.region ?_
               refine WL.val rfl rfl rfl rfl (r_move rfl (ev_t rfl)) ?_
               refine WL.val rfl rfl rfl rfl (r_loadAgg (vs := [_, _]) rfl (ev_t rfl) agg_54 size_54 (Blk.cellsL hbf)) ?_
               refine WL.cons (SO.alloc rfl rfl rfl rfl (r_buildSlice (cs := #[_, _]) (vs := [(0, _)]) rfl ⟨⟨rfl, (ev_t rfl)⟩, trivial⟩ row_27 rfl rfl) ?_)
               intro w20 hu20 hB20 hz20
               have hs20 := hu20.size
               replace hU := hU.trans hu20 (by first | exact (fun _ _ h => h) | exact (fun _ _ h => h.elim) | (intro k hl hk; (try simp only [At, New, Grow, From, No] at hk ⊢); omega) | (intro k hl hk; first | (simp only [At, No] at hk ⊢; omega) | (have := hGc k hk; omega) | (have := hG k hk; omega)))
               replace h := h.upd hu20 (by first | exact (fun h => h) | (simp only [At, No]; omega) | (exact fun h => by have := hGc _ h; omega) | (exact fun h => by have := hG _ h; omega)) (by first | exact (fun _ _ _ h => h) | (intro k hk hl hS; have := hFl k hk; first | (simp only [At, No] at hS; omega) | (have := hGc k hS; omega) | (have := hG k hS; omega)))
               replace hO := hO.upd hu20 (by first | exact (fun _ _ _ h => h) | (intro k hk hl hS; have := hG k hk; first | (simp only [At, No] at hS; omega) | (have := hGc k hS; omega)))
               replace hW := hW.upd hu20 (by intro k hl hk; first | exact hk.elim | (simp only [At, No] at hk ⊢; omega) | (have := hGc k hk; omega))
               replace hbf := hbf.upd hu20 (by first | exact (fun h => h) | (simp only [At, No]; omega) | (exact fun h => by have := hGc _ h; omega) | (exact fun h => by have := hG _ h; omega))
               replace hc := hc.upd hu20 (by first | exact (fun _ _ _ h => h) | (intro k hk hl hS; have := hGc k hk; simp only [At, No] at hS; omega))
               replace hb := hb.upd hu20 (by first | exact (fun h => h) | (simp only [At, No]; omega) | (exact fun h => by have := hGc _ h; omega) | (exact fun h => by have := hG _ h; omega))
               have hcr := hc.rd (by omega)
               have hW8 := hW
               have hs8 := hW8.size
               refine WL.cons (SO.append hO (Rd.of_blk (F := At _) (n := 1) (sz := 2) hB20 rfl rfl (by omega)) row_27 (by intro u hu; simp only [List.mem_cons, List.not_mem_nil, or_false, Array.toList] at hu; rcases hu with rfl | rfl <;> rfl) (le_maxLen (by omega)) (by omega) rfl (ev_t rfl) (ev_t rfl) rfl rfl rfl rfl ?_)
               intro v21 w21 hO2 hu21
               have hs21 := hu21.size
               replace hU := hU.trans hu21 (by first | exact (fun _ _ h => h) | exact (fun _ _ h => h.elim) | (intro k hl hk; (try simp only [At, New, Grow, From, No] at hk ⊢); omega) | (intro k hl hk; first | (simp only [At, No] at hk ⊢; omega) | (have := hGc k hk; omega) | (have := hG k hk; omega)))
               replace h := h.upd hu21 (by first | exact (fun h => h) | (simp only [At, No]; omega) | (exact fun h => by have := hGc _ h; omega) | (exact fun h => by have := hG _ h; omega)) (by first | exact (fun _ _ _ h => h) | (intro k hk hl hS; have := hFl k hk; first | (simp only [At, No] at hS; omega) | (have := hGc k hS; omega) | (have := hG k hS; omega)))
               replace hbf := hbf.upd hu21 (by first | exact (fun h => h) | (simp only [At, No]; omega) | (exact fun h => by have := hGc _ h; omega) | (exact fun h => by have := hG _ h; omega))
               replace hb := hb.upd hu21 (by first | exact (fun h => h) | (simp only [At, No]; omega) | (exact fun h => by have := hGc _ h; omega) | (exact fun h => by have := hG _ h; omega))
               replace hcr := hcr.upd hu21 (by first | exact (fun _ _ _ h => h) | (intro k hk hl hS; have := hGc k hk; have := hG k hS; omega))
               obtain ⟨A21, c21, rfl, hc21⟩ := Own.form hO2
               have hap := hu21
               refine WL.val rfl rfl rfl rfl (r_assign rfl (ev_t rfl)) ?_
               refine WL.nil ?_
               refine WX.keep [(0, _), (3, _), (4, _), (5, _)] ⟨rfl, rfl, rfl, rfl, trivial⟩ ?_
               refine WX.blockNormal ?_
               refine WX.next ?_
               refine WC.region ?_
               refine WL.val rfl rfl rfl rfl (r_move rfl (ev_t rfl)) ?_
               first | refine WL.val rfl rfl rfl rfl (r_addN rfl (ev_t rfl) ev_c (by simp only [inK]; omega)) ?_ | refine WL.val rfl rfl rfl rfl (r_add rfl (ev_t rfl) ev_c) ?_
               refine WL.val rfl rfl rfl rfl (r_assign rfl (ev_t rfl)) ?_
               refine WL.nil ?_
               refine WX.keep [(0, _), (3, _), (4, _), (5, _)] ⟨rfl, rfl, rfl, rfl, trivial⟩ ?_
               refine WX.meet [(0, _), (3, _), (4, _), (5, _)] ⟨rfl, rfl, rfl, rfl, trivial⟩ ?_
               have hs9 := hap.size
               obtain ⟨nx, hnx⟩ : ∃ nx : FnV, nx = ⟨⟨(cp : Int), I⟩, .slice Ac I.length cc⟩ := ⟨_, rfl⟩
               have hml : (V2 ++ [nx]).map FnV.f = V2.map FnV.f ++ [⟨(cp : Int), I⟩] := by rw [List.map_append, hnx]; rfl
               have hO3 := Own.cast hO2 (show V2.flatMap FnV.cells ++ FnV.cells ⟨⟨(cp : Int), I⟩, .slice Ac I.length cc⟩ = (V2 ++ [nx]).flatMap FnV.cells from by rw [← hnx, List.flatMap_append, List.flatMap_singleton])
               refine ⟨q1, by omega, i + 1, s, V2 ++ [nx], _, _, _, fun k => C k ∨ Gc k, by omega, by rw [List.length_append]; simp; omega, hU, h, by rw [hml]; exact hl, by rw [List.length_append]; exact hO3, fun x hx => ?_, fun k hk => ?_, fun k hk => ?_, by rw [List.length_append]; rfl⟩
               · rcases List.mem_append.1 hx with hx | hx
                 · exact (((hD x hx).upd hW8 (fun k hk _ hS => by have := hC k hk; simp only [At] at hS; omega)).upd hap (fun k hk _ hS => (hC k hk).2.2 hS)).mono fun k hk => .inl hk
                 · rw [List.mem_singleton] at hx
                   subst hx
                   rw [hnx]
                   exact hcr.mono fun k hk => .inr hk
               · rcases hk with hk | hk
                 · have := hG k hk; omega
                 · omega
               · rcases hk with hk | hk
                 · have := hC k hk
                   exact ⟨by omega, by omega, fun h => h.elim this.2.2 (fun h => by omega)⟩
                 · have := hGc k hk
                   exact ⟨by omega, by omega, fun h => h.elim (fun h => by have := hG k h; omega) (fun h => by omega)⟩
       · try (exfalso; first | (simp at hc4; done) | (simp only [decide_eq_true_eq, decide_eq_false_iff_not, Bool.not_eq_true', Bool.not_eq_false', Bool.not_eq_true, Bool.not_eq_false] at hc4; omega) | omega)
         all_goals
          try simp only [decide_eq_true_eq, decide_eq_false_iff_not, Bool.not_eq_true', Bool.not_eq_false', Bool.not_eq_true, Bool.not_eq_false, Option.isNone_none, Option.isNone_some, Option.isSome_none, Option.isSome_some, ne_eq, Decidable.not_not] at hc4
          have hs0 : s = none := hneg.1 (by omega)
          have he2 : V2.map FnV.f = L9 ∧ s = s9 := by rw [hs0, loadF_none] at hl; rw [hs0]; simpa using hl
          obtain ⟨rfl, rfl⟩ := he2
          refine WC.exit ?_
          refine WX.thenExit ?_
          refine WX.thenExit ?_
          refine WX.blockHere ?_
          refine WX.next ?_
          refine WC.seq ?_
          refine WC.seq ?_
          refine WC.region ?_
          refine WL.val rfl rfl rfl rfl (r_move rfl (ev_t rfl)) ?_
          refine WL.val rfl rfl rfl rfl (r_nilCheck rfl (ev_t rfl)) ?_
          first | refine WL.val rfl rfl rfl rfl (r_field0 rfl (ev_t rfl) fld_35_1) ?_ | refine WL.val rfl rfl rfl rfl (r_fieldAt rfl (ev_t rfl) fld_35_1) ?_
          refine WL.val rfl rfl rfl rfl (r_load rfl (ev_t rfl) flat_3 (Blk.cell hb rfl)) ?_
          refine WL.val rfl rfl rfl rfl (r_lss rfl (ev_t rfl) ev_c) ?_
          refine WL.nil ?_
          refine WX.keep [(3, _), (69, _)] ⟨rfl, rfl, trivial⟩ ?_
          refine WX.next ?_
          refine WC.cond rfl (ev_t rfl) (fun hc17 => ?_) (fun hc17 => ?_)
          · try (exfalso; first | (simp at hc17; done) | (simp only [decide_eq_true_eq, decide_eq_false_iff_not, Bool.not_eq_true', Bool.not_eq_false', Bool.not_eq_true, Bool.not_eq_false] at hc17; omega) | omega)
            all_goals
             try simp only [decide_eq_true_eq, decide_eq_false_iff_not, Bool.not_eq_true', Bool.not_eq_false', Bool.not_eq_true, Bool.not_eq_false, Option.isNone_none, Option.isNone_some, Option.isSome_none, Option.isSome_some, ne_eq, Decidable.not_not] at hc17
             refine WC.seq ?_
             refine WC.region ?_
             refine WL.val rfl rfl rfl rfl (r_assign rfl ev_c) ?_
             refine WL.nil ?_
             refine WX.keep [(2, _)] ⟨rfl, trivial⟩ ?_
             refine WX.next ?_
             refine WC.ret ?_
             refine WX.thenRet ?_
             refine WX.retE1 rfl rfl ?_
             have hs0 : s = none := hneg.1 (by omega)
             rw [if_pos hs0]
             exact ⟨⟨[], Rd.nil _ _ _, (fun x hx => by cases hx), rfl⟩, h, hU⟩
          · try (exfalso; first | (simp at hc17; done) | (simp only [decide_eq_true_eq, decide_eq_false_iff_not, Bool.not_eq_true', Bool.not_eq_false', Bool.not_eq_true, Bool.not_eq_false] at hc17; omega) | omega)
            all_goals
             try simp only [decide_eq_true_eq, decide_eq_false_iff_not, Bool.not_eq_true', Bool.not_eq_false', Bool.not_eq_true, Bool.not_eq_false, Option.isNone_none, Option.isNone_some, Option.isSome_none, Option.isSome_some, ne_eq, Decidable.not_not] at hc17
             refine WC.skip ?_
             refine WX.next ?_
             refine WC.seq ?_
             refine WC.region ?_
             refine WL.val rfl rfl rfl rfl (r_move rfl (ev_t rfl)) ?_
             refine WL.val rfl rfl rfl rfl (r_assign rfl (ev_t rfl)) ?_
             refine WL.nil ?_
             refine WX.keep [(2, _)] ⟨rfl, trivial⟩ ?_
             refine WX.next ?_
             refine WC.ret ?_
             refine WX.retE1 rfl rfl ?_
             have hs0 : ¬ s = none := fun h => by have := hneg.2 h; omega
             rw [if_neg hs0]
             exact ⟨⟨V2, (hO.rd (by omega)).mono (fun k hk => by have := hG k hk; exact ⟨by omega, by omega⟩), fun x hx => (hD x hx).mono fun k hk => by have := hC k hk; exact ⟨by omega, by omega⟩, rfl⟩, h, hU⟩
    · try (exfalso; first | (simp at hb4_3; done) | (simp only [decide_eq_true_eq, decide_eq_false_iff_not, Bool.not_eq_true', Bool.not_eq_false', Bool.not_eq_true, Bool.not_eq_false] at hb4_3; omega) | omega)
      all_goals
       try simp only [decide_eq_true_eq, decide_eq_false_iff_not, Bool.not_eq_true', Bool.not_eq_false', Bool.not_eq_true, Bool.not_eq_false, Option.isNone_none, Option.isNone_some, Option.isSome_none, Option.isSome_some, ne_eq, Decidable.not_not] at hb4_3
       refine WL.skip rfl rfl rfl ?_
       refine WL.skip rfl rfl rfl ?_
       refine WL.skip rfl rfl rfl ?_
       refine WL.skip rfl rfl rfl ?_
       refine WL.skip rfl rfl rfl ?_
       refine WL.val rfl rfl rfl rfl (r_pickF rfl (ev_t rfl) ev_c) ?_
       refine WL.nil ?_
       refine WX.keep [(0, _), (3, _), (4, _), (5, _), (21, _)] ⟨rfl, rfl, rfl, rfl, rfl, trivial⟩ ?_
       refine WX.next ?_
       refine WC.cond_false rfl (ev_t rfl) ?_
       obtain rfl : q = 0 := by omega
       have he2 : V2.map FnV.f = L9 ∧ s = s9 := by rw [loadF_zero] at hl; simpa using hl
       obtain ⟨rfl, rfl⟩ := he2
       refine WC.exit ?_
       refine WX.thenExit ?_
       refine WX.thenExit ?_
       refine WX.blockHere ?_
       refine WX.next ?_
       refine WC.seq ?_
       refine WC.seq ?_
       refine WC.region ?_
       refine WL.val rfl rfl rfl rfl (r_move rfl (ev_t rfl)) ?_
       refine WL.val rfl rfl rfl rfl (r_nilCheck rfl (ev_t rfl)) ?_
       first | refine WL.val rfl rfl rfl rfl (r_field0 rfl (ev_t rfl) fld_35_1) ?_ | refine WL.val rfl rfl rfl rfl (r_fieldAt rfl (ev_t rfl) fld_35_1) ?_
       refine WL.val rfl rfl rfl rfl (r_load rfl (ev_t rfl) flat_3 (Blk.cell hb rfl)) ?_
       refine WL.val rfl rfl rfl rfl (r_lss rfl (ev_t rfl) ev_c) ?_
       refine WL.nil ?_
       refine WX.keep [(3, _), (69, _)] ⟨rfl, rfl, trivial⟩ ?_
       refine WX.next ?_
       refine WC.cond rfl (ev_t rfl) (fun hc17 => ?_) (fun hc17 => ?_)
       · try (exfalso; first | (simp at hc17; done) | (simp only [decide_eq_true_eq, decide_eq_false_iff_not, Bool.not_eq_true', Bool.not_eq_false', Bool.not_eq_true, Bool.not_eq_false] at hc17; omega) | omega)
         all_goals
          try simp only [decide_eq_true_eq, decide_eq_false_iff_not, Bool.not_eq_true', Bool.not_eq_false', Bool.not_eq_true, Bool.not_eq_false, Option.isNone_none, Option.isNone_some, Option.isSome_none, Option.isSome_some, ne_eq, Decidable.not_not] at hc17
          refine WC.seq ?_
          refine WC.region ?_
          refine WL.val rfl rfl rfl rfl (r_assign rfl ev_c) ?_
          refine WL.nil ?_
          refine WX.keep [(2, _)] ⟨rfl, trivial⟩ ?_
          refine WX.next ?_
          refine WC.ret ?_
          refine WX.thenRet ?_
          refine WX.retE1 rfl rfl ?_
          have hs0 : s = none := hneg.1 (by omega)
          rw [if_pos hs0]
          exact ⟨⟨[], Rd.nil _ _ _, (fun x hx => by cases hx), rfl⟩, h, hU⟩
       · try (exfalso; first | (simp at hc17; done) | (simp only [decide_eq_true_eq, decide_eq_false_iff_not, Bool.not_eq_true', Bool.not_eq_false', Bool.not_eq_true, Bool.not_eq_false] at hc17; omega) | omega)
         all_goals
          try simp only [decide_eq_true_eq, decide_eq_false_iff_not, Bool.not_eq_true', Bool.not_eq_false', Bool.not_eq_true, Bool.not_eq_false, Option.isNone_none, Option.isNone_some, Option.isSome_none, Option.isSome_some, ne_eq, Decidable.not_not] at hc17
          refine WC.skip ?_
          refine WX.next ?_
          refine WC.seq ?_
          refine WC.region ?_
          refine WL.val rfl rfl rfl rfl (r_move rfl (ev_t rfl)) ?_
          refine WL.val rfl rfl rfl rfl (r_assign rfl (ev_t rfl)) ?_
          refine WL.nil ?_
          refine WX.keep [(2, _)] ⟨rfl, trivial⟩ ?_
          refine WX.next ?_
          refine WC.ret ?_
          refine WX.retE1 rfl rfl ?_
          have hs0 : ¬ s = none := fun h => by have := hneg.2 h; omega
          rw [if_neg hs0]
          exact ⟨⟨V2, (hO.rd (by omega)).mono (fun k hk => by have := hG k hk; exact ⟨by omega, by omega⟩), fun x hx => (hD x hx).mono fun k hk => by have := hC k hk; exact ⟨by omega, by omega⟩, rfl⟩, h, hU⟩
end Go.Proofs.YtipabhbnljadfaaDoor

/-
  Structs of numbers and strings, held against one another.
-/
namespace Go.Proofs.YtipabhbnljadfaaDoor
open Go
set_option linter.unusedSimpArgs false
set_option linter.unusedVariables false

/-- the kinds of a struct's fields (none: a string), one cell each, one behind the other -/
def kindK (P : Program) (t : TypeId) : Option IntKind → Bool
  | some k => match P.underlying t with | some (.int k') => decide (k = k') | _ => false
  | none => match P.underlying t with | some .string => true | _ => false
def fieldsK (P : Program) : List Field → Nat → List (Option IntKind) → Bool
  | [], _, [] => true
  | f :: fs, i, k :: ks => f.name != "_" && f.offset == i && kindK P f.type k && fieldsK P fs (i + 1) ks
  | _, _, _ => false
/-- values of these kinds -/
def ofK : Option IntKind → Value → Prop
  | some k, v => ∃ n, v = .int k n
  | none, v => ∃ s : List UInt8, v = .string ⟨s.toArray⟩
def confK : List (Option IntKind) → List Value → Prop
  | [], [] => True
  | k :: ks, v :: vs => ofK k v ∧ confK ks vs
  | _, _ => False
def sameV : Value → Value → Bool
  | .int _ a, .int _ b => decide (a = b)
  | .string a, .string b => decide (a.toList = b.toList)
  | _, _ => false
def sameL : List Value → List Value → Bool
  | [], [] => true
  | a :: l1, b :: l2 => sameV a b && sameL l1 l2
  | _, _ => false

section
variable {P : Program}
theorem kindK_some {t : TypeId} {k : IntKind} (h : kindK P t (some k) = true) : P.underlying t = some (.int k) := by
  unfold kindK at h
  simp only at h
  split at h
  · rename_i k' hu
    rw [hu, of_decide_eq_true h]
  · cases h
theorem kindK_none {t : TypeId} (h : kindK P t none = true) : P.underlying t = some .string := by
  unfold kindK at h
  simp only at h
  split at h
  · rename_i hu; exact hu
  · cases h
theorem kindK_flat {t : TypeId} {k : Option IntKind} (h : kindK P t k = true) : flatB P t = true := by
  unfold flatB
  cases k with
  | some k => rw [kindK_some h]
  | none => rw [kindK_none h]
theorem run_equalIn_K (d : Nat) {t : TypeId} {k : Option IntKind} {a b : Value} (h : kindK P t k = true) (ha : ofK k a) (hb : ofK k b) (w : World) : (Op.equalIn (d + 1) t a b).run P w = .ok (sameV a b) w := by
  cases k with
  | some k =>
    obtain ⟨n, rfl⟩ := ha
    obtain ⟨m, rfl⟩ := hb
    rw [run_equalIn_int (P := P) w d t k k n m (kindK_some h)]
    congr 1
  | none =>
    obtain ⟨s, rfl⟩ := ha
    obtain ⟨r, rfl⟩ := hb
    rw [run_equalIn_string (P := P) w d t _ _ (kindK_none h)]
    congr 1
    simp only [sameV]
    rw [Bool.eq_iff_iff]
    simp
theorem run_part_flat {t : TypeId} {cs : Array Value} {off : Nat} {v : Value} (h : flatB P t = true) (hv : cs[off]? = some v) (w : World) : (part t cs off).run P w = .ok v w := by
  simp [part, run_isAgg_flat h, hv]
theorem run_eqFields_K (d : Nat) (w : World) : ∀ (fs : List Field) (i : Nat) (ks : List (Option IntKind)) (xs ys px py : List Value), fieldsK P fs i ks = true → confK ks xs → confK ks ys → px.length = i → py.length = i →
    (Op.eqFields (d + 1) (px ++ xs).toArray (py ++ ys).toArray fs).run P w = .ok (sameL xs ys) w
  | [], i, [], [], [], px, py, _, _, _, _, _ => by simp [Op.eqFields, sameL]
  | f :: fs, i, k :: ks, a :: xs, b :: ys, px, py, hf, hx, hy, hpx, hpy => by
    simp only [fieldsK, Bool.and_eq_true, bne_iff_ne, ne_eq, beq_iff_eq] at hf
    obtain ⟨⟨⟨h1, h2⟩, h3⟩, h4⟩ := hf
    have hfl := kindK_flat h3
    have ga : (px ++ a :: xs).toArray[f.offset]? = some a := by
      rw [h2, List.getElem?_toArray, List.getElem?_append_right (by omega), hpx, Nat.sub_self]; rfl
    have gb : (py ++ b :: ys).toArray[f.offset]? = some b := by
      rw [h2, List.getElem?_toArray, List.getElem?_append_right (by omega), hpy, Nat.sub_self]; rfl
    have e1 := run_part_flat (w := w) hfl ga
    have e2 := run_part_flat (w := w) hfl gb
    have e3 := run_equalIn_K d h3 hx.1 hy.1 w
    have ih := run_eqFields_K d w fs (i + 1) ks xs ys (px ++ [a]) (py ++ [b]) h4 hx.2 hy.2 (by simp [hpx]) (by simp [hpy])
    simp only [List.append_assoc, List.singleton_append] at ih
    simp only [Op.eqFields, ne_eq, h1, not_false_eq_true, if_true, Sem.run_bind, e1, e2, e3, Result.andThen_ok, sameL]
    cases hs : sameV a b
    · simp
    · simp [ih]
  | [], _, _ :: _, _, _, _, _, h, _, _, _, _ => by simp [fieldsK] at h
  | _ :: _, _, [], _, _, _, _, h, _, _, _, _ => by simp [fieldsK] at h
  | [], _, [], _ :: _, _, _, _, _, h, _, _, _ => h.elim
  | [], _, [], [], _ :: _, _, _, _, _, h, _, _ => h.elim
  | _ :: _, _, _ :: _, [], _, _, _, _, h, _, _, _ => h.elim
  | _ :: _, _, _ :: _, _ :: _, [], _, _, _, _, h, _, _ => h.elim

/-- a struct type of these kinds -/
structure StructK (P : Program) (t : TypeId) (ks : List (Option IntKind)) : Prop where
  und : P.underlying t = some (.struct (P.fieldsOf t))
  held : P.stoodInHeld t = false
  guard : P.eqGuardType P.depth t = false
  fields : fieldsK P (P.fieldsOf t).toList 0 ks = true

variable {ρ : Operand → Value} {o : Oper} {w : World} {x y : Operand} {t u : TypeId} {ks : List (Option IntKind)} {xs ys : List Value}
theorem r_neqStruct (ho : o.op = .binOp .neq t x y u) (hx : ρ x = .agg xs.toArray) (hy : ρ y = .agg ys.toArray) (hk : StructK P t ks) (h1 : confK ks xs) (h2 : confK ks ys) : (execOp ρ o).run P w = .ok (.value (.bool (!sameL xs ys))) w := by
  have e1 := run_eqFields_K (P := P) 9998 w (P.fieldsOf t).toList 0 ks xs ys [] [] hk.fields h1 h2 rfl rfl
  simp only [List.nil_append] at e1
  have e2 := run_equalIn_agg (P := P) w 9999 t xs.toArray ys.toArray hk.und hk.held
  rw [e1] at e2
  have e3 := run_neq_struct (P := P) w t xs.toArray ys.toArray
  rw [e2] at e3
  have e4 := run_eqGuard_agg (P := P) w .neq t x y xs.toArray ys.toArray hk.guard
  simp only [execOp, ho, hx, hy, Sem.run_bind, e4, e3, Result.andThen_ok, Sem.run_pure]
theorem r_eqlStruct (ho : o.op = .binOp .eql t x y u) (hx : ρ x = .agg xs.toArray) (hy : ρ y = .agg ys.toArray) (hk : StructK P t ks) (h1 : confK ks xs) (h2 : confK ks ys) : (execOp ρ o).run P w = .ok (.value (.bool (sameL xs ys))) w := by
  have e1 := run_eqFields_K (P := P) 9998 w (P.fieldsOf t).toList 0 ks xs ys [] [] hk.fields h1 h2 rfl rfl
  simp only [List.nil_append] at e1
  have e2 := run_equalIn_agg (P := P) w 9999 t xs.toArray ys.toArray hk.und hk.held
  rw [e1] at e2
  have e3 := run_eql_struct (P := P) w t xs.toArray ys.toArray
  rw [e2] at e3
  have e4 := run_eqGuard_agg (P := P) w .eql t x y xs.toArray ys.toArray hk.guard
  simp only [execOp, ho, hx, hy, Sem.run_bind, e4, e3, Result.andThen_ok, Sem.run_pure]
end
end Go.Proofs.YtipabhbnljadfaaDoor

/-
  The reference: are two lists of functions one? Where they are, it says so.
-/
namespace Go.Proofs.YtipabhbnljadfaaDoor
open Go
set_option linter.unusedSimpArgs false
set_option linter.unusedVariables false

theorem insK : StructK Tryd.prog 55 [some .u8, some .i64, some .i64, none] := ⟨by kernel_rfl, by kernel_rfl, by kernel_rfl, by kernel_rfl⟩
theorem confI {i : In} : confK [some .u8, some .i64, some .i64, none] [.int .u8 (i.op : Int), .int .i64 i.n, .int .i64 i.a, .string ⟨i.s.toArray⟩] := ⟨⟨_, rfl⟩, ⟨_, rfl⟩, ⟨_, rfl⟩, ⟨_, rfl⟩, trivial⟩
theorem sameI {i : In} : sameL [.int .u8 (i.op : Int), .int .i64 i.n, .int .i64 i.a, .string ⟨i.s.toArray⟩] [.int .u8 (i.op : Int), .int .i64 i.n, .int .i64 i.a, .string ⟨i.s.toArray⟩] = true := by simp [sameL, sameV]

set_option maxHeartbeats 4000000 in
theorem same_ok {w : World} {H1 H2 : Nat → Prop} {a b : Value} {l : List Fn} (ha : IsFs w H1 a l) (hb : IsFs w H2 b l) :
    Ret Tryd.prog 15 #[a, b] w fun u w' => u = .bool true ∧ Upd No w w' := by
  obtain ⟨V, hV, hVc, hVl⟩ := ha
  obtain ⟨Aa, ca, rfl, hca⟩ := hV.slice_form
  obtain ⟨X, hX, hXc, hXl⟩ := hb
  obtain ⟨Ab, cb, rfl, hcb⟩ := hX.slice_form
  have hVm := hV.le
  have hXm := hX.le
  have hVn : V.length = l.length := by rw [← hVl, List.length_map]
  have hXn : X.length = l.length := by rw [← hXl, List.length_map]
  refine enterRet (vs := [_, _]) (N := 71) Tryd.func15 rfl rfl rfl ?_
  have hU := Upd.refl No w
  refine WC.keep [(0, _), (1, _)] ⟨rfl, rfl, trivial⟩ ?_
  refine WC.seq ?_
  refine WC.region ?_
  refine WL.val rfl rfl rfl rfl (r_assign rfl ev_c) ?_
  refine WL.nil ?_
  refine WX.keep [(0, _), (1, _)] ⟨rfl, rfl, trivial⟩ ?_
  refine WX.next ?_
  refine WC.seq ?_
  refine WC.seq ?_
  refine WC.region ?_
  refine WL.val rfl rfl rfl rfl (r_move rfl (ev_t rfl)) ?_
  refine WL.val rfl rfl rfl rfl (r_lenSlice (ts := #[]) rfl (ev_t rfl) elem_27) ?_
  refine WL.val rfl rfl rfl rfl (r_move rfl (ev_t rfl)) ?_
  refine WL.val rfl rfl rfl rfl (r_lenSlice (ts := #[]) rfl (ev_t rfl) elem_27) ?_
  refine WL.val rfl rfl rfl rfl (r_neq rfl (ev_t rfl) (ev_t rfl)) ?_
  refine WL.nil ?_
  refine WX.keep [(0, _), (1, _), (11, _)] ⟨rfl, rfl, rfl, trivial⟩ ?_
  refine WX.next ?_
  refine WC.cond rfl (ev_t rfl) (fun hc1 => ?_) (fun hc1 => ?_)
  · try (exfalso; first | (simp at hc1; done) | (simp only [decide_eq_true_eq, decide_eq_false_iff_not, Bool.not_eq_true', Bool.not_eq_false', Bool.not_eq_true, Bool.not_eq_false] at hc1; omega) | omega)
    all_goals
     try simp only [decide_eq_true_eq, decide_eq_false_iff_not, Bool.not_eq_true', Bool.not_eq_false', Bool.not_eq_true, Bool.not_eq_false, Option.isNone_none, Option.isNone_some, Option.isSome_none, Option.isSome_some, ne_eq, Decidable.not_not] at hc1
     refine WC.seq ?_
     refine WC.region ?_
     refine WL.val rfl rfl rfl rfl (r_assign rfl ev_c) ?_
     refine WL.nil ?_
     refine WX.keep [(4, _)] ⟨rfl, trivial⟩ ?_
     refine WX.next ?_
     refine WC.ret ?_
     refine WX.thenRet ?_
     refine WX.retE1 rfl rfl ?_
     exact ⟨rfl, hU⟩
  · try (exfalso; first | (simp at hc1; done) | (simp only [decide_eq_true_eq, decide_eq_false_iff_not, Bool.not_eq_true', Bool.not_eq_false', Bool.not_eq_true, Bool.not_eq_false] at hc1; omega) | omega)
    all_goals
     try simp only [decide_eq_true_eq, decide_eq_false_iff_not, Bool.not_eq_true', Bool.not_eq_false', Bool.not_eq_true, Bool.not_eq_false, Option.isNone_none, Option.isNone_some, Option.isSome_none, Option.isSome_some, ne_eq, Decidable.not_not] at hc1
     refine WC.skip ?_
     refine WX.next ?_
     refine WC.seq ?_
     refine WC.seq ?_
     refine WC.region ?_
     refine WL.val rfl rfl rfl rfl (r_assign rfl ev_c) ?_
     refine WL.nil ?_
     refine WX.keep [(0, _), (1, _), (5, _)] ⟨rfl, rfl, rfl, trivial⟩ ?_
     refine WX.next ?_
     refine WC.block ?_
     -- loop 1: live [0, 1, 5]
     refine WC.keep [(0, _), (1, _), (5, _)] ⟨rfl, rfl, rfl, trivial⟩ ?_
     refine WC.loop (fun q E w' => ∃ i : Nat, i ≤ V.length ∧ q = V.length - i ∧ Upd No w w' ∧   E = [(0, .slice Aa V.length ca), (1, .slice Ab X.length cb), (5, .int .i64 (i : Int))]) (V.length) ?_ ?_
     · exact ⟨0, by omega, by omega, hU, rfl⟩
     · clear hU
       rintro q E wA ⟨i, hi, rfl, hU, rfl⟩
       refine WC.seq ?_
       refine WC.seq ?_
       refine WC.region ?_
       refine WL.val rfl rfl rfl rfl (r_move rfl (ev_t rfl)) ?_
       refine WL.val rfl rfl rfl rfl (r_move rfl (ev_t rfl)) ?_
       refine WL.val rfl rfl rfl rfl (r_lenSlice (ts := #[]) rfl (ev_t rfl) elem_27) ?_
       refine WL.val rfl rfl rfl rfl (r_lss rfl (ev_t rfl) (ev_t rfl)) ?_
       refine WL.nil ?_
       refine WX.keep [(0, _), (1, _), (5, _), (15, _)] ⟨rfl, rfl, rfl, rfl, trivial⟩ ?_
       refine WX.next ?_
       refine WC.cond rfl (ev_t rfl) (fun hc4 => ?_) (fun hc4 => ?_)
       · try (exfalso; first | (simp at hc4; done) | (simp only [decide_eq_true_eq, decide_eq_false_iff_not, Bool.not_eq_true', Bool.not_eq_false', Bool.not_eq_true, Bool.not_eq_false] at hc4; omega) | omega)
         all_goals
          try simp only [decide_eq_true_eq, decide_eq_false_iff_not, Bool.not_eq_true', Bool.not_eq_false', Bool.not_eq_true, Bool.not_eq_false, Option.isNone_none, Option.isNone_some, Option.isSome_none, Option.isSome_some, ne_eq, Decidable.not_not] at hc4
          obtain ⟨x, hx⟩ : ∃ x, V[i]? = some x := ⟨_, List.getElem?_eq_getElem (by omega)⟩
          obtain ⟨y, hy⟩ : ∃ y, X[i]? = some y := ⟨_, List.getElem?_eq_getElem (by omega)⟩
          have hcx := flatMap_get FnV.cells_len hx
          have hcy := flatMap_get FnV.cells_len hy
          have hxa : l[i]? = some x.f := by rw [← hVl, List.getElem?_map, hx]; rfl
          have hya : l[i]? = some y.f := by rw [← hXl, List.getElem?_map, hy]; rfl
          have hxc := hVc x (List.mem_of_getElem? hx)
          have hyc := hXc y (List.mem_of_getElem? hy)
          obtain ⟨ba, oa, rfl, _⟩ := hV.open (by omega)
          obtain ⟨bb, ob, rfl, _⟩ := hX.open (by omega)
          rcases x with ⟨f, fv⟩
          rcases y with ⟨f2, gv⟩
          rw [hxa] at hya
          obtain rfl := Option.some.inj hya
          simp only [FnV.cells] at hcx hcy hxc hyc
          obtain ⟨Af, cf, rfl, hcf⟩ := hxc.slice_form
          obtain ⟨Ag, cg, rfl, hcg⟩ := hyc.slice_form
          have hfm := hxc.le
          refine WC.skip ?_
          refine WX.next ?_
          refine WC.seq ?_
          refine WC.block ?_
          refine WC.seq ?_
          refine WC.seq ?_
          refine WC.draws' (fun u0_ u1_ => Upd No u0_ u1_) (fun j => [0, 0, 0, 0, 0, 0, 0, 0, 0, 1, 0, 0, 0, 0, 0, 0, 0, 0, 0, 0, 0, 0, 1, 0, 0, 0].getD j 0) (.calm 0 (.calm 1 (.calm 2 (.calm 3 (.calm 5 (.calm 6 (.calm 7 (.calm 8 (.held 4 (.one 9 (.calm 10 (.calm 11 (.calm 12 (.calm 13 (.calm 14 (.calm 15 (.calm 18 (.calm 19 (.calm 20 (.calm 21 (.held 16 (.calm 17 (.one 22 (.calm 23 (.calm 24 (.calm 25 (.done))))))))))))))))))))))))))) mixed (by kernel_rfl) (by repeat (first | with_reducible exact Deaf.body | with_reducible apply Deaf.then | with_reducible apply Deaf.block)) ?_
          intro w1 hu1
          have hz1 := congrArg Array.size hu1.2.2.2
          replace hu1 := Upd.of_draw hu1
          have hs1 := hu1.size
          replace hU := hU.transA hu1
          have hS6 := Upd.refl No w1
          refine WN.calm _ rfl rfl rfl rfl rfl (fun _ => r_move rfl (ev_t rfl)) ?_
          refine WN.calm _ rfl rfl rfl rfl rfl (fun _ => r_move rfl (ev_t rfl)) ?_
          refine WN.calm _ rfl rfl rfl rfl rfl (fun _ => r_indexAddr rfl (ev_t rfl) (ev_t rfl) elem_27 size_54 (by omega) (by omega)) ?_
          first | refine WN.calm _ rfl rfl rfl rfl rfl (fun _ => r_field0 rfl (ev_t rfl) fld_54_0) ?_ | refine WN.calm _ rfl rfl rfl rfl rfl (fun _ => r_fieldAt rfl (ev_t rfl) fld_54_0) ?_
          refine WN.calm _ rfl rfl rfl rfl rfl (fun _ => r_move rfl (ev_t rfl)) ?_
          refine WN.calm _ rfl rfl rfl rfl rfl (fun _ => r_move rfl (ev_t rfl)) ?_
          refine WN.calm _ rfl rfl rfl rfl rfl (fun _ => r_indexAddr rfl (ev_t rfl) (ev_t rfl) elem_27 size_54 (by omega) (by omega)) ?_
          first | refine WN.calm _ rfl rfl rfl rfl rfl (fun _ => r_field0 rfl (ev_t rfl) fld_54_0) ?_ | refine WN.calm _ rfl rfl rfl rfl rfl (fun _ => r_fieldAt rfl (ev_t rfl) fld_54_0) ?_
          refine WN.held _ rfl rfl rfl rfl rfl hS6 (fun w' hS => r_load rfl (ev_t rfl) flat_3 (Rd.cell ((hV.upd hU (fun _ _ _ h => h)).upd hS (fun _ _ _ h => h)) (j := i * 2) (by omega) (hcx 0 _ rfl))) ?_
          refine WN.step _ rfl (SO.val rfl rfl rfl rfl (r_load rfl (ev_t rfl) flat_3 (Rd.cell (hX.upd hU (fun _ _ _ h => h)) (j := i * 2) (by omega) (hcy 0 _ rfl))) ?_)
          refine ⟨hS6, ?_⟩
          refine WN.calm _ rfl rfl rfl rfl rfl (fun _ => r_neq rfl (ev_t rfl) (ev_t rfl)) ?_
          refine WN.calm _ rfl rfl rfl rfl rfl (fun _ => r_move rfl (ev_t rfl)) ?_
          refine WN.cases 29 rfl (fun hb6_11 => ?_) (fun hb6_11 => ?_)
          · try (exfalso; first | (simp at hb6_11; done) | (simp only [decide_eq_true_eq, decide_eq_false_iff_not, Bool.not_eq_true', Bool.not_eq_false', Bool.not_eq_true, Bool.not_eq_false] at hb6_11; omega) | omega)
            all_goals
             try simp only [decide_eq_true_eq, decide_eq_false_iff_not, Bool.not_eq_true', Bool.not_eq_false', Bool.not_eq_true, Bool.not_eq_false, Option.isNone_none, Option.isNone_some, Option.isSome_none, Option.isSome_some, ne_eq, Decidable.not_not] at hb6_11
             refine WN.skip _ rfl rfl rfl rfl ?_
             refine WN.skip _ rfl rfl rfl rfl ?_
             refine WN.skip _ rfl rfl rfl rfl ?_
             refine WN.skip _ rfl rfl rfl rfl ?_
             refine WN.skip _ rfl rfl rfl rfl ?_
             refine WN.skip _ rfl rfl rfl rfl ?_
             refine WN.skip _ rfl rfl rfl rfl ?_
             refine WN.skip _ rfl rfl rfl rfl ?_
             refine WN.heldSkip _ rfl rfl rfl rfl hS6 ?_
             refine WN.skip _ rfl rfl rfl rfl ?_
             refine WN.step _ rfl (SO.skip rfl rfl rfl ?_)
             refine ⟨hS6, ?_⟩
             refine WN.skip _ rfl rfl rfl rfl ?_
             refine WN.skip _ rfl rfl rfl rfl ?_
             refine WN.calm _ rfl rfl rfl rfl rfl (fun _ => r_pickT rfl (ev_t rfl) ev_c) ?_
             refine WN.done ?_
             refine WX.keep [(0, _), (1, _), (5, _), (43, _)] ⟨rfl, rfl, rfl, rfl, trivial⟩ ?_
             refine WX.next ?_
             refine WC.cond_true rfl (ev_t rfl) ?_
             refine WC.seq ?_
             refine WC.region ?_
             refine WL.val rfl rfl rfl rfl (r_assign rfl ev_c) ?_
             refine WL.nil ?_
             refine WX.keep [(4, _)] ⟨rfl, trivial⟩ ?_
             refine WX.next ?_
             refine WC.ret ?_
             refine WX.thenRet ?_
             refine WX.blockRet ?_
             refine WX.thenRet ?_
             refine WX.thenRet ?_
             refine WX.blockRet ?_
             refine WX.thenRet ?_
             refine WX.retE1 rfl rfl ?_
             exact ⟨rfl, hU⟩
          · try (exfalso; first | (simp at hb6_11; done) | (simp only [decide_eq_true_eq, decide_eq_false_iff_not, Bool.not_eq_true', Bool.not_eq_false', Bool.not_eq_true, Bool.not_eq_false] at hb6_11; omega) | omega)
            all_goals
             try simp only [decide_eq_true_eq, decide_eq_false_iff_not, Bool.not_eq_true', Bool.not_eq_false', Bool.not_eq_true, Bool.not_eq_false, Option.isNone_none, Option.isNone_some, Option.isSome_none, Option.isSome_some, ne_eq, Decidable.not_not] at hb6_11
             refine WN.calm _ rfl rfl rfl rfl rfl (fun _ => r_move rfl (ev_t rfl)) ?_
             refine WN.calm _ rfl rfl rfl rfl rfl (fun _ => r_move rfl (ev_t rfl)) ?_
             refine WN.calm _ rfl rfl rfl rfl rfl (fun _ => r_indexAddr rfl (ev_t rfl) (ev_t rfl) elem_27 size_54 (by omega) (by omega)) ?_
             first | refine WN.calm _ rfl rfl rfl rfl rfl (fun _ => r_field0 rfl (ev_t rfl) fld_54_1) ?_ | refine WN.calm _ rfl rfl rfl rfl rfl (fun _ => r_fieldAt rfl (ev_t rfl) fld_54_1) ?_
             refine WN.calm _ rfl rfl rfl rfl rfl (fun _ => r_move rfl (ev_t rfl)) ?_
             refine WN.calm _ rfl rfl rfl rfl rfl (fun _ => r_move rfl (ev_t rfl)) ?_
             refine WN.calm _ rfl rfl rfl rfl rfl (fun _ => r_indexAddr rfl (ev_t rfl) (ev_t rfl) elem_27 size_54 (by omega) (by omega)) ?_
             first | refine WN.calm _ rfl rfl rfl rfl rfl (fun _ => r_field0 rfl (ev_t rfl) fld_54_1) ?_ | refine WN.calm _ rfl rfl rfl rfl rfl (fun _ => r_fieldAt rfl (ev_t rfl) fld_54_1) ?_
             refine WN.held _ rfl rfl rfl rfl rfl hS6 (fun w' hS => r_load rfl (ev_t rfl) flat_52 (Rd.cell ((hV.upd hU (fun _ _ _ h => h)).upd hS (fun _ _ _ h => h)) (j := i * 2 + 1) (by omega) (hcx 1 _ rfl))) ?_
             refine WN.calm _ rfl rfl rfl rfl rfl (fun _ => r_lenSlice (ts := #[]) rfl (ev_t rfl) elem_52) ?_
             refine WN.step _ rfl (SO.val rfl rfl rfl rfl (r_load rfl (ev_t rfl) flat_52 (Rd.cell (hX.upd hU (fun _ _ _ h => h)) (j := i * 2 + 1) (by omega) (hcy 1 _ rfl))) ?_)
             refine ⟨hS6, ?_⟩
             refine WN.calm _ rfl rfl rfl rfl rfl (fun _ => r_lenSlice (ts := #[]) rfl (ev_t rfl) elem_52) ?_
             refine WN.calm _ rfl rfl rfl rfl rfl (fun _ => r_neq rfl (ev_t rfl) (ev_t rfl)) ?_
             refine WN.calm _ rfl rfl rfl rfl rfl (fun _ => r_pickF rfl (ev_t rfl) (ev_t rfl)) ?_
             refine WN.done ?_
             refine WX.keep [(0, _), (1, _), (5, _), (43, _)] ⟨rfl, rfl, rfl, rfl, trivial⟩ ?_
             refine WX.next ?_
             refine WC.cond rfl (ev_t rfl) (fun hc6 => ?_) (fun hc6 => ?_)
             · try (exfalso; first | (simp at hc6; done) | (simp only [decide_eq_true_eq, decide_eq_false_iff_not, Bool.not_eq_true', Bool.not_eq_false', Bool.not_eq_true, Bool.not_eq_false] at hc6; omega) | omega)
               all_goals
                try simp only [decide_eq_true_eq, decide_eq_false_iff_not, Bool.not_eq_true', Bool.not_eq_false', Bool.not_eq_true, Bool.not_eq_false, Option.isNone_none, Option.isNone_some, Option.isSome_none, Option.isSome_some, ne_eq, Decidable.not_not] at hc6
                refine WC.seq ?_
                refine WC.region ?_
                refine WL.val rfl rfl rfl rfl (r_assign rfl ev_c) ?_
                refine WL.nil ?_
                refine WX.keep [(4, _)] ⟨rfl, trivial⟩ ?_
                refine WX.next ?_
                refine WC.ret ?_
                refine WX.thenRet ?_
                refine WX.blockRet ?_
                refine WX.thenRet ?_
                refine WX.thenRet ?_
                refine WX.blockRet ?_
                refine WX.thenRet ?_
                refine WX.retE1 rfl rfl ?_
                exact ⟨rfl, hU⟩
             · try (exfalso; first | (simp at hc6; done) | (simp only [decide_eq_true_eq, decide_eq_false_iff_not, Bool.not_eq_true', Bool.not_eq_false', Bool.not_eq_true, Bool.not_eq_false] at hc6; omega) | omega)
               all_goals
                try simp only [decide_eq_true_eq, decide_eq_false_iff_not, Bool.not_eq_true', Bool.not_eq_false', Bool.not_eq_true, Bool.not_eq_false, Option.isNone_none, Option.isNone_some, Option.isSome_none, Option.isSome_some, ne_eq, Decidable.not_not] at hc6
                refine WC.skip ?_
                refine WX.next ?_
                refine WC.seq ?_
                refine WC.region ?_
                refine WL.val rfl rfl rfl rfl (r_assign rfl ev_c) ?_
                refine WL.nil ?_
                refine WX.keep [(0, _), (1, _), (5, _), (6, _)] ⟨rfl, rfl, rfl, rfl, trivial⟩ ?_
                refine WX.next ?_
                refine WC.block ?_
                -- loop 2: live [0, 1, 5, 6]
                refine WC.keep [(0, _), (1, _), (5, _), (6, _)] ⟨rfl, rfl, rfl, rfl, trivial⟩ ?_
                refine WC.loop (fun q E w' => ∃ j : Nat, j ≤ f.code.length ∧ q = f.code.length - j ∧ Upd No w w' ∧   E = [(0, .slice (some ⟨ba, oa, none⟩) V.length ca), (1, .slice (some ⟨bb, ob, none⟩) X.length cb), (5, .int .i64 (i : Int)), (6, .int .i64 (j : Int))]) (f.code.length) ?_ ?_
                · exact ⟨0, by omega, by omega, hU, rfl⟩
                · clear hU
                  rintro q E wB ⟨j, hj, rfl, hU, rfl⟩
                  refine WC.seq ?_
                  refine WC.seq ?_
                  refine WC.region ?_
                  refine WL.val rfl rfl rfl rfl (r_move rfl (ev_t rfl)) ?_
                  refine WL.val rfl rfl rfl rfl (r_move rfl (ev_t rfl)) ?_
                  refine WL.val rfl rfl rfl rfl (r_move rfl (ev_t rfl)) ?_
                  refine WL.val rfl rfl rfl rfl (r_indexAddr rfl (ev_t rfl) (ev_t rfl) elem_27 size_54 (by omega) (by omega)) ?_
                  first | refine WL.val rfl rfl rfl rfl (r_field0 rfl (ev_t rfl) fld_54_1) ?_ | refine WL.val rfl rfl rfl rfl (r_fieldAt rfl (ev_t rfl) fld_54_1) ?_
                  refine WL.val rfl rfl rfl rfl (r_load rfl (ev_t rfl) flat_52 (Rd.cell (hV.upd hU (fun _ _ _ h => h)) (j := i * 2 + 1) (by omega) (hcx 1 _ rfl))) ?_
                  refine WL.val rfl rfl rfl rfl (r_lenSlice (ts := #[]) rfl (ev_t rfl) elem_52) ?_
                  refine WL.val rfl rfl rfl rfl (r_lss rfl (ev_t rfl) (ev_t rfl)) ?_
                  refine WL.nil ?_
                  refine WX.keep [(0, _), (1, _), (5, _), (6, _), (51, _)] ⟨rfl, rfl, rfl, rfl, rfl, trivial⟩ ?_
                  refine WX.next ?_
                  refine WC.cond rfl (ev_t rfl) (fun hc9 => ?_) (fun hc9 => ?_)
                  · try (exfalso; first | (simp at hc9; done) | (simp only [decide_eq_true_eq, decide_eq_false_iff_not, Bool.not_eq_true', Bool.not_eq_false', Bool.not_eq_true, Bool.not_eq_false] at hc9; omega) | omega)
                    all_goals
                     try simp only [decide_eq_true_eq, decide_eq_false_iff_not, Bool.not_eq_true', Bool.not_eq_false', Bool.not_eq_true, Bool.not_eq_false, Option.isNone_none, Option.isNone_some, Option.isSome_none, Option.isSome_some, ne_eq, Decidable.not_not] at hc9
                     obtain ⟨e, he⟩ : ∃ e, f.code[j]? = some e := ⟨_, List.getElem?_eq_getElem (by omega)⟩
                     have hec := flatMap_get insC_len he
                     obtain ⟨bc, oc, rfl, _⟩ := hxc.open (by omega)
                     obtain ⟨bd, od, rfl, _⟩ := hyc.open (by omega)
                     refine WC.skip ?_
                     refine WX.next ?_
                     refine WC.seq ?_
                     refine WC.block ?_
                     refine WC.seq ?_
                     refine WC.draws' (fun u0_ u1_ => Upd No u0_ u1_) (fun j => [0, 0, 0, 0, 0, 0, 0, 0, 0, 0, 0, 0, 1, 0, 0, 1, 0].getD j 0) (.calm 0 (.calm 1 (.calm 2 (.calm 3 (.calm 5 (.calm 8 (.calm 9 (.calm 10 (.calm 11 (.calm 13 (.held 4 (.calm 6 (.held 7 (.one 12 (.calm 14 (.one 15 (.calm 16 (.done)))))))))))))))))) mixed (by kernel_rfl) (by repeat (first | with_reducible exact Deaf.body | with_reducible apply Deaf.then | with_reducible apply Deaf.block)) ?_
                     intro w2 hu2
                     have hz2 := congrArg Array.size hu2.2.2.2
                     replace hu2 := Upd.of_draw hu2
                     have hs2 := hu2.size
                     replace hU := hU.transA hu2
                     have hS11 := Upd.refl No w2
                     refine WN.calm _ rfl rfl rfl rfl rfl (fun _ => r_move rfl (ev_t rfl)) ?_
                     refine WN.calm _ rfl rfl rfl rfl rfl (fun _ => r_move rfl (ev_t rfl)) ?_
                     refine WN.calm _ rfl rfl rfl rfl rfl (fun _ => r_indexAddr rfl (ev_t rfl) (ev_t rfl) elem_27 size_54 (by omega) (by omega)) ?_
                     first | refine WN.calm _ rfl rfl rfl rfl rfl (fun _ => r_field0 rfl (ev_t rfl) fld_54_1) ?_ | refine WN.calm _ rfl rfl rfl rfl rfl (fun _ => r_fieldAt rfl (ev_t rfl) fld_54_1) ?_
                     refine WN.calm _ rfl rfl rfl rfl rfl (fun _ => r_move rfl (ev_t rfl)) ?_
                     refine WN.calm _ rfl rfl rfl rfl rfl (fun _ => r_move rfl (ev_t rfl)) ?_
                     refine WN.calm _ rfl rfl rfl rfl rfl (fun _ => r_move rfl (ev_t rfl)) ?_
                     refine WN.calm _ rfl rfl rfl rfl rfl (fun _ => r_indexAddr rfl (ev_t rfl) (ev_t rfl) elem_27 size_54 (by omega) (by omega)) ?_
                     first | refine WN.calm _ rfl rfl rfl rfl rfl (fun _ => r_field0 rfl (ev_t rfl) fld_54_1) ?_ | refine WN.calm _ rfl rfl rfl rfl rfl (fun _ => r_fieldAt rfl (ev_t rfl) fld_54_1) ?_
                     refine WN.calm _ rfl rfl rfl rfl rfl (fun _ => r_move rfl (ev_t rfl)) ?_
                     refine WN.held _ rfl rfl rfl rfl rfl hS11 (fun w' hS => r_load rfl (ev_t rfl) flat_52 (Rd.cell ((hV.upd hU (fun _ _ _ h => h)).upd hS (fun _ _ _ h => h)) (j := i * 2 + 1) (by omega) (hcx 1 _ rfl))) ?_
                     refine WN.calm _ rfl rfl rfl rfl rfl (fun _ => r_indexAddr rfl (ev_t rfl) (ev_t rfl) elem_52 size_55 (by omega) (by omega)) ?_
                     refine WN.held _ rfl rfl rfl rfl rfl hS11 (fun w' hS => r_loadAgg (vs := [_, _, _, _]) rfl (ev_t rfl) agg_55 size_55 (Rd.cellsL (us := [.int .u8 (e.op : Int), .int .i64 e.n, .int .i64 e.a, .string ⟨e.s.toArray⟩]) ((hxc.upd hU (fun _ _ _ h => h)).upd hS (fun _ _ _ h => h)) (i := j * 4) (by omega) hec)) ?_
                     refine WN.step _ rfl (SO.val rfl rfl rfl rfl (r_load rfl (ev_t rfl) flat_52 (Rd.cell (hX.upd hU (fun _ _ _ h => h)) (j := i * 2 + 1) (by omega) (hcy 1 _ rfl))) ?_)
                     refine ⟨hS11, ?_⟩
                     refine WN.calm _ rfl rfl rfl rfl rfl (fun _ => r_indexAddr rfl (ev_t rfl) (ev_t rfl) elem_52 size_55 (by omega) (by omega)) ?_
                     refine WN.step _ rfl (SO.val rfl rfl rfl rfl (r_loadAgg (vs := [_, _, _, _]) rfl (ev_t rfl) agg_55 size_55 (Rd.cellsL (us := [.int .u8 (e.op : Int), .int .i64 e.n, .int .i64 e.a, .string ⟨e.s.toArray⟩]) (hyc.upd hU (fun _ _ _ h => h)) (i := j * 4) (by omega) hec)) ?_)
                     refine ⟨hS11, ?_⟩
                     refine WN.calm _ rfl rfl rfl rfl rfl (fun _ => r_neqStruct rfl (ev_t rfl) (ev_t rfl) insK confI confI) ?_
                     refine WN.done ?_
                     refine WX.keep [(0, _), (1, _), (5, _), (6, _), (70, _)] ⟨rfl, rfl, rfl, rfl, rfl, trivial⟩ ?_
                     refine WX.next ?_
                     refine WC.cond rfl (ev_t rfl) (fun hc11 => ?_) (fun hc11 => ?_)
                     · try simp only [decide_eq_true_eq, decide_eq_false_iff_not, Bool.not_eq_true', Bool.not_eq_false', Bool.not_eq_true, Bool.not_eq_false, Option.isNone_none, Option.isNone_some, Option.isSome_none, Option.isSome_some, ne_eq, Decidable.not_not] at hc11
                       exfalso
                       rw [sameI] at hc11
                       simp at hc11
                     · try (exfalso; first | (simp at hc11; done) | (simp only [decide_eq_true_eq, decide_eq_false_iff_not, Bool.not_eq_true', Bool.not_eq_false', Bool.not_eq_true, Bool.not_eq_false] at hc11; omega) | omega)
                       all_goals
                        try simp only [decide_eq_true_eq, decide_eq_false_iff_not, Bool.not_eq_true', Bool.not_eq_false', Bool.not_eq_true, Bool.not_eq_false, Option.isNone_none, Option.isNone_some, Option.isSome_none, Option.isSome_some, ne_eq, Decidable.not_not] at hc11
                        refine WC.skip ?_
                        refine WX.blockNormal ?_
                        refine WX.next ?_
                        refine WC.region ?_
                        refine WL.val rfl rfl rfl rfl (r_move rfl (ev_t rfl)) ?_
                        first | refine WL.val rfl rfl rfl rfl (r_addN rfl (ev_t rfl) ev_c (by simp only [inK]; omega)) ?_ | refine WL.val rfl rfl rfl rfl (r_add rfl (ev_t rfl) ev_c) ?_
                        refine WL.val rfl rfl rfl rfl (r_assign rfl (ev_t rfl)) ?_
                        refine WL.nil ?_
                        refine WX.keep [(0, _), (1, _), (5, _), (6, _)] ⟨rfl, rfl, rfl, rfl, trivial⟩ ?_
                        refine WX.meet [(0, _), (1, _), (5, _), (6, _)] ⟨rfl, rfl, rfl, rfl, trivial⟩ ?_
                        exact ⟨f.code.length - (j + 1), by omega, j + 1, by omega, rfl, hU, rfl⟩
                  · try (exfalso; first | (simp at hc9; done) | (simp only [decide_eq_true_eq, decide_eq_false_iff_not, Bool.not_eq_true', Bool.not_eq_false', Bool.not_eq_true, Bool.not_eq_false] at hc9; omega) | omega)
                    all_goals
                     try simp only [decide_eq_true_eq, decide_eq_false_iff_not, Bool.not_eq_true', Bool.not_eq_false', Bool.not_eq_true, Bool.not_eq_false, Option.isNone_none, Option.isNone_some, Option.isSome_none, Option.isSome_some, ne_eq, Decidable.not_not] at hc9
                     refine WC.exit ?_
                     refine WX.thenExit ?_
                     refine WX.thenExit ?_
                     refine WX.blockHere ?_
                     refine WX.blockNormal ?_
                     refine WX.next ?_
                     refine WC.region ?_
                     refine WL.val rfl rfl rfl rfl (r_move rfl (ev_t rfl)) ?_
                     first | refine WL.val rfl rfl rfl rfl (r_addN rfl (ev_t rfl) ev_c (by simp only [inK]; omega)) ?_ | refine WL.val rfl rfl rfl rfl (r_add rfl (ev_t rfl) ev_c) ?_
                     refine WL.val rfl rfl rfl rfl (r_assign rfl (ev_t rfl)) ?_
                     refine WL.nil ?_
                     refine WX.keep [(0, _), (1, _), (5, _)] ⟨rfl, rfl, rfl, trivial⟩ ?_
                     refine WX.meet [(0, _), (1, _), (5, _)] ⟨rfl, rfl, rfl, trivial⟩ ?_
                     exact ⟨V.length - (i + 1), by omega, i + 1, by omega, rfl, hU, rfl⟩
       · try (exfalso; first | (simp at hc4; done) | (simp only [decide_eq_true_eq, decide_eq_false_iff_not, Bool.not_eq_true', Bool.not_eq_false', Bool.not_eq_true, Bool.not_eq_false] at hc4; omega) | omega)
         all_goals
          try simp only [decide_eq_true_eq, decide_eq_false_iff_not, Bool.not_eq_true', Bool.not_eq_false', Bool.not_eq_true, Bool.not_eq_false, Option.isNone_none, Option.isNone_some, Option.isSome_none, Option.isSome_some, ne_eq, Decidable.not_not] at hc4
          refine WC.exit ?_
          refine WX.thenExit ?_
          refine WX.thenExit ?_
          refine WX.blockHere ?_
          refine WX.next ?_
          refine WC.seq ?_
          refine WC.region ?_
          refine WL.val rfl rfl rfl rfl (r_assign rfl ev_c) ?_
          refine WL.nil ?_
          refine WX.keep [(4, _)] ⟨rfl, trivial⟩ ?_
          refine WX.next ?_
          refine WC.ret ?_
          refine WX.retE1 rfl rfl ?_
          exact ⟨rfl, hU⟩
end Go.Proofs.YtipabhbnljadfaaDoor

/-
  Law 08: any bytes as functions.
-/
namespace Go.Proofs.YtipabhbnljadfaaDoor
open Go
set_option linter.unusedSimpArgs false
set_option linter.unusedVariables false

theorem IsR.ltC {w : World} {F : Nat → Prop} {g : Nat} {s : RSt} (h : IsR w F g s) : g < w.heap.size := by
  cases s with
  | none => obtain ⟨_, _, _, hb⟩ := h; exact hb.lt
  | some l => obtain ⟨_, _, hb, _⟩ := h; exact hb.lt

set_option maxHeartbeats 4000000 in
theorem codeReads.walk {w : World} {F : Nat → Prop} {pv : Value} {p : List UInt8} (hTk : Tk w) (hp : Rd w F pv p.length 1 (p.map U8)) :
    Ret Tryd.prog 4 #[pv] w fun u w' => u = .bool true ∧ Upd No w w' := by
  obtain ⟨F', hp, hFl⟩ : ∃ F' : Nat → Prop, Rd w F' pv p.length 1 (p.map U8) ∧ ∀ k, F' k → k < w.heap.size := ⟨_, hp.bound, fun k hk => hk.2⟩
  obtain ⟨Ap, cp, rfl, hcp⟩ := hp.slice_form
  obtain ⟨fin, hfin⟩ : ∃ fin, decF (some p) = fin := ⟨_, rfl⟩
  have hlen := decF_len (some p)
  rw [hfin] at hlen
  refine enterRet (vs := [_]) (N := 50) Tryd.func4 rfl rfl rfl ?_
  have hU := Upd.refl No w
  refine WC.keep [(0, _)] ⟨rfl, trivial⟩ ?_
  refine WC.seq ?_
  refine WC.region ?_
  refine WL.val rfl rfl rfl rfl (r_assign rfl ev_c) ?_
  refine WL.nil ?_
  refine WX.keep [(0, _)] ⟨rfl, trivial⟩ ?_
  refine WX.next ?_
  refine WC.seq ?_
  refine WC.seq ?_
  refine WC.region ?_
  refine WL.cons (SO.call (awake08_ok (hTk.upd hU)) rfl body_6 trivial rfl rfl rfl rfl ?_)
  rintro v w1 ⟨rfl, hu1⟩
  have hs1 := hu1.size
  replace hU := hU.transA hu1
  refine WL.val rfl rfl rfl rfl (r_not rfl (ev_t rfl)) ?_
  refine WL.val rfl rfl rfl rfl (r_move rfl (ev_t rfl)) ?_
  refine WL.cases 9 rfl (fun hb1_2 => ?_) (fun hb1_2 => ?_)
  · try (exfalso; first | (simp at hb1_2; done) | (simp only [decide_eq_true_eq, decide_eq_false_iff_not, Bool.not_eq_true', Bool.not_eq_false', Bool.not_eq_true, Bool.not_eq_false] at hb1_2; omega) | omega)
    all_goals
     try simp only [decide_eq_true_eq, decide_eq_false_iff_not, Bool.not_eq_true', Bool.not_eq_false', Bool.not_eq_true, Bool.not_eq_false, Option.isNone_none, Option.isNone_some, Option.isSome_none, Option.isSome_some, ne_eq, Decidable.not_not] at hb1_2
     refine WL.skip rfl rfl rfl ?_
     refine WL.skip rfl rfl rfl ?_
     refine WL.skip rfl rfl rfl ?_
     refine WL.val rfl rfl rfl rfl (r_pickT rfl (ev_t rfl) ev_c) ?_
     refine WL.nil ?_
     refine WX.keep [(0, _), (13, _)] ⟨rfl, rfl, trivial⟩ ?_
     refine WX.next ?_
     refine WC.cond_true rfl (ev_t rfl) ?_
     refine WC.seq ?_
     refine WC.region ?_
     refine WL.cons (SO.call (awake08_ok (hTk.upd hU)) rfl body_6 trivial rfl rfl rfl rfl ?_)
     rintro v w2 ⟨rfl, hu2⟩
     have hs2 := hu2.size
     replace hU := hU.transA hu2
     refine WL.val rfl rfl rfl rfl (r_assign rfl (ev_t rfl)) ?_
     refine WL.nil ?_
     refine WX.keep [(2, _)] ⟨rfl, trivial⟩ ?_
     refine WX.next ?_
     refine WC.ret ?_
     refine WX.thenRet ?_
     refine WX.retE1 rfl rfl ?_
     exact ⟨rfl, hU⟩
  · try (exfalso; first | (simp at hb1_2; done) | (simp only [decide_eq_true_eq, decide_eq_false_iff_not, Bool.not_eq_true', Bool.not_eq_false', Bool.not_eq_true, Bool.not_eq_false] at hb1_2; omega) | omega)
    all_goals
     try simp only [decide_eq_true_eq, decide_eq_false_iff_not, Bool.not_eq_true', Bool.not_eq_false', Bool.not_eq_true, Bool.not_eq_false, Option.isNone_none, Option.isNone_some, Option.isSome_none, Option.isSome_some, ne_eq, Decidable.not_not] at hb1_2
     refine WL.val rfl rfl rfl rfl (r_move rfl (ev_t rfl)) ?_
     refine WL.val rfl rfl rfl rfl (r_lenSlice (ts := #[]) rfl (ev_t rfl) elem_30) ?_
     refine WL.val rfl rfl rfl rfl (r_gtr rfl (ev_t rfl) ev_c) ?_
     refine WL.val rfl rfl rfl rfl (r_pickF rfl (ev_t rfl) (ev_t rfl)) ?_
     refine WL.nil ?_
     refine WX.keep [(0, _), (13, _)] ⟨rfl, rfl, trivial⟩ ?_
     refine WX.next ?_
     refine WC.cond rfl (ev_t rfl) (fun hc1 => ?_) (fun hc1 => ?_)
     · try (exfalso; first | (simp at hc1; done) | (simp only [decide_eq_true_eq, decide_eq_false_iff_not, Bool.not_eq_true', Bool.not_eq_false', Bool.not_eq_true, Bool.not_eq_false] at hc1; omega) | omega)
       all_goals
        try simp only [decide_eq_true_eq, decide_eq_false_iff_not, Bool.not_eq_true', Bool.not_eq_false', Bool.not_eq_true, Bool.not_eq_false, Option.isNone_none, Option.isNone_some, Option.isSome_none, Option.isSome_some, ne_eq, Decidable.not_not] at hc1
        refine WC.seq ?_
        refine WC.region ?_
        refine WL.cons (SO.call (awake08_ok (hTk.upd hU)) rfl body_6 trivial rfl rfl rfl rfl ?_)
        rintro v w3 ⟨rfl, hu3⟩
        have hs3 := hu3.size
        replace hU := hU.transA hu3
        refine WL.val rfl rfl rfl rfl (r_assign rfl (ev_t rfl)) ?_
        refine WL.nil ?_
        refine WX.keep [(2, _)] ⟨rfl, trivial⟩ ?_
        refine WX.next ?_
        refine WC.ret ?_
        refine WX.thenRet ?_
        refine WX.retE1 rfl rfl ?_
        exact ⟨rfl, hU⟩
     · try (exfalso; first | (simp at hc1; done) | (simp only [decide_eq_true_eq, decide_eq_false_iff_not, Bool.not_eq_true', Bool.not_eq_false', Bool.not_eq_true, Bool.not_eq_false] at hc1; omega) | omega)
       all_goals
        try simp only [decide_eq_true_eq, decide_eq_false_iff_not, Bool.not_eq_true', Bool.not_eq_false', Bool.not_eq_true, Bool.not_eq_false, Option.isNone_none, Option.isNone_some, Option.isSome_none, Option.isSome_some, ne_eq, Decidable.not_not] at hc1
        refine WC.skip ?_
        refine WX.next ?_
        refine WC.seq ?_
        refine WC.region ?_
        refine WL.val rfl rfl rfl rfl (r_move rfl (ev_t rfl)) ?_
        refine WL.cons (SO.call (newReader_ok (hp.upd hU (fun _ _ _ h => h))) rfl body_11 ⟨(ev_t rfl), trivial⟩ rfl rfl rfl rfl ?_)
        rintro v w4 ⟨rfl, hR, hu4⟩
        have hs3 := hU.size
        obtain ⟨g1, hg1⟩ : ∃ g1, g1 = w1.heap.size := ⟨_, rfl⟩
        rw [← hg1] at hR ⊢
        have hR1 := hR.ltC
        have hs4 := hu4.size
        replace hU := hU.transA hu4
        refine WL.val rfl rfl rfl rfl (r_assign rfl (ev_t rfl)) ?_
        refine WL.nil ?_
        refine WX.keep [(0, _), (3, _)] ⟨rfl, rfl, trivial⟩ ?_
        refine WX.next ?_
        refine WC.seq ?_
        refine WC.region ?_
        refine WL.val rfl rfl rfl rfl (r_move rfl (ev_t rfl)) ?_
        refine WL.val rfl rfl rfl rfl (r_build (cs := #[_, _]) (vs := [(0, _)]) rfl ⟨⟨rfl, (ev_t rfl)⟩, trivial⟩ plc_35 zero_35 rfl) ?_
        refine WL.cons (SO.alloc rfl rfl rfl rfl (r_boxAgg rfl (ev_t rfl)) ?_)
        intro w5 hu5 hB5 hz5
        have hs5 := hu5.size
        replace hU := hU.transA hu5
        replace hR := hR.upd hu5 (by first | exact (fun h => h) | (simp only [At, No]; omega)) (by first | exact (fun _ _ _ h => h) | (intro k hk hl hS; have := hFl k hk; simp only [At, No] at hS; omega))
        refine WL.val rfl rfl rfl rfl (r_assign rfl (ev_t rfl)) ?_
        refine WL.nil ?_
        refine WX.keep [(0, _), (3, _), (4, _)] ⟨rfl, rfl, rfl, trivial⟩ ?_
        obtain ⟨g2, hg2⟩ : ∃ g2, g2 = w4.heap.size := ⟨_, rfl⟩
        have hM : IsM w5 F' g2 p (some p) := by rw [hg2]; exact ⟨Ap, cp, 0, hB5, hp.upd hU (fun _ _ _ h => h), 0, rfl, Nat.zero_le _, rfl⟩
        rw [← hg2]
        have hM1 : g2 < w5.heap.size := by obtain ⟨_, _, _, hb, _⟩ := hM; exact hb.lt
        have hg12 : g1 < g2 := by omega
        refine WX.next ?_
        refine WC.seq ?_
        refine WC.region ?_
        refine WL.val rfl rfl rfl rfl (r_move rfl (ev_t rfl)) ?_
        refine WL.cons (SO.call (decode_ok hR (fun k hk => by have := hFl k hk; omega) hR.ltC hfin) rfl body_12 ⟨(ev_t rfl), trivial⟩ rfl rfl rfl rfl ?_)
        rintro v5 w6 ⟨hfa, hR, hu6⟩
        have hs5 := hu6.size
        obtain ⟨Ha, hHa, hHa2⟩ : ∃ Ha : Nat → Prop, IsFs w6 Ha v5 fin.1 ∧ ∀ k, Ha k → g2 < k := ⟨_, hfa, fun k hk => by have := hk.1; omega⟩
        have hs6 := hu6.size
        replace hU := hU.transA hu6
        replace hM := hM.upd hu6 (by first | exact (fun h => h) | (simp only [At, No]; omega)) (by first | exact (fun _ _ _ h => h) | (intro k hk hl hS; have := hFl k hk; simp only [At, No] at hS; omega))
        refine WL.val rfl rfl rfl rfl (r_assign rfl (ev_t rfl)) ?_
        refine WL.nil ?_
        refine WX.keep [(0, _), (3, _), (4, _), (5, _)] ⟨rfl, rfl, rfl, rfl, trivial⟩ ?_
        refine WX.next ?_
        refine WC.seq ?_
        refine WC.region ?_
        refine WL.val rfl rfl rfl rfl (r_move rfl (ev_t rfl)) ?_
        refine WL.cons (SO.call (rDecode_ok hM (fun k hk => by have := hFl k hk; omega) (by omega) hfin) rfl body_13 ⟨(ev_t rfl), trivial⟩ rfl rfl rfl rfl ?_)
        rintro v6 w7 ⟨hfb, hM, hu7⟩
        obtain ⟨Hb, hHb, hHb2⟩ : ∃ Hb : Nat → Prop, IsFs w7 Hb v6 fin.1 ∧ ∀ k, Hb k → g2 < k := ⟨_, hfb, fun k hk => by have := hk.1; omega⟩
        have hs7 := hu7.size
        replace hU := hU.transA hu7
        replace hR := hR.upd hu7 (by first | exact (fun h => h) | (simp only [At, No]; omega)) (by first | exact (fun _ _ _ h => h) | (intro k hk hl hS; have := hFl k hk; simp only [At, No] at hS; omega))
        replace hHa := hHa.upd hu7 (by first | exact (fun _ _ _ h => h) | (intro k hk hl hS; have := hHa2 k hk; simp only [At, No] at hS; omega))
        refine WL.val rfl rfl rfl rfl (r_assign rfl (ev_t rfl)) ?_
        refine WL.nil ?_
        refine WX.keep [(0, _), (3, _), (4, _), (5, _), (6, _)] ⟨rfl, rfl, rfl, rfl, rfl, trivial⟩ ?_
        refine WX.next ?_
        refine WC.seq ?_
        obtain ⟨Am, cm, at_, hb, _, hst⟩ := id hM
        have hneg := hst.negC
        have hall := hst.allC
        have he1 : fin.2.isNone = decide (at_ < 0) := by rw [Bool.eq_iff_iff]; simp [hneg]
        have he2 : decide (fin.2 = some []) = decide (at_ = (p.length : Int)) := by rw [Bool.eq_iff_iff]; simp [hall]
        refine WC.draws' (fun u0_ u1_ => Upd No u0_ u1_) (fun j => [0, 1, 0, 0, 0, 0, 0, 0, 0, 0, 1, 0, 1, 0, 0, 0, 1, 0, 0, 0, 0, 0, 0, 0, 0, 0, 0].getD j 0) (.calm 0 (.calm 2 (.calm 3 (.calm 4 (.held 5 (.calm 6 (.one 1 (.calm 7 (.calm 8 (.calm 9 (.calm 11 (.one 10 (.one 12 (.calm 13 (.calm 14 (.calm 15 (.calm 17 (.calm 18 (.calm 19 (.calm 21 (.calm 22 (.held 20 (.calm 23 (.one 16 (.calm 24 (.calm 25 (.calm 26 (.done)))))))))))))))))))))))))))) mixed (by kernel_rfl) (by repeat (first | with_reducible exact Deaf.body | with_reducible apply Deaf.then | with_reducible apply Deaf.block)) ?_
        intro w8 hu8
        have hz8 := congrArg Array.size hu8.2.2.2
        replace hu8 := Upd.of_draw hu8
        have hs8 := hu8.size
        replace hU := hU.transA hu8
        replace hR := hR.upd hu8 (by first | exact (fun h => h) | (simp only [At, No]; omega)) (by first | exact (fun _ _ _ h => h) | (intro k hk hl hS; have := hFl k hk; simp only [At, No] at hS; omega))
        replace hHa := hHa.upd hu8 (by first | exact (fun _ _ _ h => h) | (intro k hk hl hS; have := hHa2 k hk; simp only [At, No] at hS; omega))
        replace hHb := hHb.upd hu8 (by first | exact (fun _ _ _ h => h) | (intro k hk hl hS; have := hHb2 k hk; simp only [At, No] at hS; omega))
        replace hb := hb.upd hu8 (fun h => h)
        have hS7 := Upd.refl No w8
        have hb0 := hb
        refine WN.calm _ rfl rfl rfl rfl rfl (fun _ => r_move rfl (ev_t rfl)) ?_
        refine WN.calm _ rfl rfl rfl rfl rfl (fun _ => r_move rfl (ev_t rfl)) ?_
        refine WN.calm _ rfl rfl rfl rfl rfl (fun _ => r_nilCheck rfl (ev_t rfl)) ?_
        first | refine WN.calm _ rfl rfl rfl rfl rfl (fun _ => r_field0 rfl (ev_t rfl) fld_35_1) ?_ | refine WN.calm _ rfl rfl rfl rfl rfl (fun _ => r_fieldAt rfl (ev_t rfl) fld_35_1) ?_
        refine WN.held _ rfl rfl rfl rfl rfl hS7 (fun w' hS => r_load rfl (ev_t rfl) flat_3 (Blk.cell (hb.upd hS (fun h => h)) rfl)) ?_
        refine WN.calm _ rfl rfl rfl rfl rfl (fun _ => r_lss rfl (ev_t rfl) ev_c) ?_
        refine WN.step _ rfl (SO.call (bad_ok hR) rfl body_14 ⟨(ev_t rfl), trivial⟩ rfl rfl rfl rfl ?_)
        rintro v w9 ⟨rfl, he⟩
        obtain rfl := he.symm
        rw [he1]
        refine ⟨hS7, ?_⟩
        refine WN.calm _ rfl rfl rfl rfl rfl (fun _ => r_eqlBool rfl (ev_t rfl) (ev_t rfl) bool_4) ?_
        refine WN.calm _ rfl rfl rfl rfl rfl (fun _ => r_move rfl (ev_t rfl)) ?_
        refine WN.cases 32 rfl (fun hb7_8 => ?_) (fun hb7_8 => ?_)
        · try (exfalso; first | (simp at hb7_8; done) | (simp only [decide_eq_true_eq, decide_eq_false_iff_not, Bool.not_eq_true', Bool.not_eq_false', Bool.not_eq_true, Bool.not_eq_false] at hb7_8; omega) | omega)
          all_goals
           try simp only [decide_eq_true_eq, decide_eq_false_iff_not, Bool.not_eq_true', Bool.not_eq_false', Bool.not_eq_true, Bool.not_eq_false, Option.isNone_none, Option.isNone_some, Option.isSome_none, Option.isSome_some, ne_eq, Decidable.not_not] at hb7_8
           refine WN.calm _ rfl rfl rfl rfl rfl (fun _ => r_move rfl (ev_t rfl)) ?_
           refine WN.calm _ rfl rfl rfl rfl rfl (fun _ => r_move rfl (ev_t rfl)) ?_
           refine WN.step _ rfl (SO.call (funs_ok hHa hlen.1 hlen.2) rfl body_10 ⟨(ev_t rfl), trivial⟩ rfl rfl rfl rfl ?_)
           rintro v w10 ⟨hf2, hu10⟩
           have hs10 := hu10.size
           replace hS7 := Upd.transA hS7 hu10
           replace hU := hU.transA hu10
           replace hR := hR.upd hu10 (by first | exact (fun h => h) | (simp only [At, No]; omega)) (by first | exact (fun _ _ _ h => h) | (intro k hk hl hS; have := hFl k hk; simp only [At, No] at hS; omega))
           replace hHa := hHa.upd hu10 (by first | exact (fun _ _ _ h => h) | (intro k hk hl hS; have := hHa2 k hk; simp only [At, No] at hS; omega))
           replace hHb := hHb.upd hu10 (by first | exact (fun _ _ _ h => h) | (intro k hk hl hS; have := hHb2 k hk; simp only [At, No] at hS; omega))
           replace hb := hb.upd hu10 (fun h => h)
           refine ⟨hS7, ?_⟩
           refine WN.step _ rfl (SO.call (same_ok hf2 hHb) rfl body_15 ⟨(ev_t rfl), (ev_t rfl), trivial⟩ rfl rfl rfl rfl ?_)
           rintro v w11 ⟨rfl, hu11⟩
           have hs11 := hu11.size
           replace hS7 := Upd.transA hS7 hu11
           replace hU := hU.transA hu11
           replace hR := hR.upd hu11 (by first | exact (fun h => h) | (simp only [At, No]; omega)) (by first | exact (fun _ _ _ h => h) | (intro k hk hl hS; have := hFl k hk; simp only [At, No] at hS; omega))
           replace hHa := hHa.upd hu11 (by first | exact (fun _ _ _ h => h) | (intro k hk hl hS; have := hHa2 k hk; simp only [At, No] at hS; omega))
           replace hHb := hHb.upd hu11 (by first | exact (fun _ _ _ h => h) | (intro k hk hl hS; have := hHb2 k hk; simp only [At, No] at hS; omega))
           replace hb := hb.upd hu11 (fun h => h)
           replace hf2 := hf2.upd hu11 (fun _ _ _ h => h.elim)
           refine ⟨hS7, ?_⟩
           refine WN.calm _ rfl rfl rfl rfl rfl (fun _ => r_pickT rfl (ev_t rfl) (ev_t rfl)) ?_
           refine WN.calm _ rfl rfl rfl rfl rfl (fun _ => r_move rfl (ev_t rfl)) ?_
           refine WN.cases 38 rfl (fun hb7_14 => ?_) (fun hb7_14 => ?_)
           · try (exfalso; first | (simp at hb7_14; done) | (simp only [decide_eq_true_eq, decide_eq_false_iff_not, Bool.not_eq_true', Bool.not_eq_false', Bool.not_eq_true, Bool.not_eq_false] at hb7_14; omega) | omega)
             all_goals
              try simp only [decide_eq_true_eq, decide_eq_false_iff_not, Bool.not_eq_true', Bool.not_eq_false', Bool.not_eq_true, Bool.not_eq_false, Option.isNone_none, Option.isNone_some, Option.isSome_none, Option.isSome_some, ne_eq, Decidable.not_not] at hb7_14
              refine WN.calm _ rfl rfl rfl rfl rfl (fun _ => r_move rfl (ev_t rfl)) ?_
              refine WN.calm _ rfl rfl rfl rfl rfl (fun _ => r_move rfl (ev_t rfl)) ?_
              refine WN.calm _ rfl rfl rfl rfl rfl (fun _ => r_nilCheck rfl (ev_t rfl)) ?_
              first | refine WN.calm _ rfl rfl rfl rfl rfl (fun _ => r_field0 rfl (ev_t rfl) fld_35_1) ?_ | refine WN.calm _ rfl rfl rfl rfl rfl (fun _ => r_fieldAt rfl (ev_t rfl) fld_35_1) ?_
              refine WN.calm _ rfl rfl rfl rfl rfl (fun _ => r_move rfl (ev_t rfl)) ?_
              refine WN.calm _ rfl rfl rfl rfl rfl (fun _ => r_lenSlice (ts := #[]) rfl (ev_t rfl) elem_30) ?_
              refine WN.held _ rfl rfl rfl rfl rfl hS7 (fun w' hS => r_load rfl (ev_t rfl) flat_3 (Blk.cell (hb0.upd hS (fun h => h)) rfl)) ?_
              refine WN.calm _ rfl rfl rfl rfl rfl (fun _ => r_eql rfl (ev_t rfl) (ev_t rfl)) ?_
              refine WN.step _ rfl (SO.call (end_ok hR) rfl body_16 ⟨(ev_t rfl), trivial⟩ rfl rfl rfl rfl ?_)
              rintro v w12 ⟨rfl, he⟩
              obtain rfl := he.symm
              rw [he2]
              refine ⟨hS7, ?_⟩
              refine WN.calm _ rfl rfl rfl rfl rfl (fun _ => r_eqlBool rfl (ev_t rfl) (ev_t rfl) bool_4) ?_
              refine WN.calm _ rfl rfl rfl rfl rfl (fun _ => r_pickT rfl (ev_t rfl) (ev_t rfl)) ?_
              refine WN.calm _ rfl rfl rfl rfl rfl (fun _ => r_assign rfl (ev_t rfl)) ?_
              refine WN.done ?_
              refine WX.keep [(2, _)] ⟨rfl, trivial⟩ ?_
              refine WX.next ?_
              refine WC.ret ?_
              refine WX.retE1 rfl rfl ?_
              refine ⟨?_, hU⟩
              first
                | simp
                | (simp_all; done)
           · try (exfalso; first | (simp at hb7_14; done) | (simp only [decide_eq_true_eq, decide_eq_false_iff_not, Bool.not_eq_true', Bool.not_eq_false', Bool.not_eq_true, Bool.not_eq_false] at hb7_14; omega) | omega)
             all_goals
              try simp only [decide_eq_true_eq, decide_eq_false_iff_not, Bool.not_eq_true', Bool.not_eq_false', Bool.not_eq_true, Bool.not_eq_false, Option.isNone_none, Option.isNone_some, Option.isSome_none, Option.isSome_some, ne_eq, Decidable.not_not] at hb7_14
              refine WN.skip _ rfl rfl rfl rfl ?_
              refine WN.skip _ rfl rfl rfl rfl ?_
              refine WN.skip _ rfl rfl rfl rfl ?_
              refine WN.skip _ rfl rfl rfl rfl ?_
              refine WN.skip _ rfl rfl rfl rfl ?_
              refine WN.skip _ rfl rfl rfl rfl ?_
              refine WN.heldSkip _ rfl rfl rfl rfl hS7 ?_
              refine WN.skip _ rfl rfl rfl rfl ?_
              refine WN.step _ rfl (SO.skip rfl rfl rfl ?_)
              refine ⟨hS7, ?_⟩
              refine WN.skip _ rfl rfl rfl rfl ?_
              refine WN.calm _ rfl rfl rfl rfl rfl (fun _ => r_pickF rfl (ev_t rfl) ev_c) ?_
              refine WN.calm _ rfl rfl rfl rfl rfl (fun _ => r_assign rfl (ev_t rfl)) ?_
              refine WN.done ?_
              refine WX.keep [(2, _)] ⟨rfl, trivial⟩ ?_
              refine WX.next ?_
              refine WC.ret ?_
              refine WX.retE1 rfl rfl ?_
              refine ⟨?_, hU⟩
              first
                | simp
                | (simp_all; done)
        · try (exfalso; first | (simp at hb7_8; done) | (simp only [decide_eq_true_eq, decide_eq_false_iff_not, Bool.not_eq_true', Bool.not_eq_false', Bool.not_eq_true, Bool.not_eq_false] at hb7_8; omega) | omega)
          all_goals
           try simp only [decide_eq_true_eq, decide_eq_false_iff_not, Bool.not_eq_true', Bool.not_eq_false', Bool.not_eq_true, Bool.not_eq_false, Option.isNone_none, Option.isNone_some, Option.isSome_none, Option.isSome_some, ne_eq, Decidable.not_not] at hb7_8
           refine WN.skip _ rfl rfl rfl rfl ?_
           refine WN.skip _ rfl rfl rfl rfl ?_
           refine WN.step _ rfl (SO.skip rfl rfl rfl ?_)
           refine ⟨hS7, ?_⟩
           refine WN.step _ rfl (SO.skip rfl rfl rfl ?_)
           refine ⟨hS7, ?_⟩
           refine WN.calm _ rfl rfl rfl rfl rfl (fun _ => r_pickF rfl (ev_t rfl) ev_c) ?_
           refine WN.calm _ rfl rfl rfl rfl rfl (fun _ => r_move rfl (ev_t rfl)) ?_
           refine WN.skip _ rfl rfl rfl rfl ?_
           refine WN.skip _ rfl rfl rfl rfl ?_
           refine WN.skip _ rfl rfl rfl rfl ?_
           refine WN.skip _ rfl rfl rfl rfl ?_
           refine WN.skip _ rfl rfl rfl rfl ?_
           refine WN.skip _ rfl rfl rfl rfl ?_
           refine WN.heldSkip _ rfl rfl rfl rfl hS7 ?_
           refine WN.skip _ rfl rfl rfl rfl ?_
           refine WN.step _ rfl (SO.skip rfl rfl rfl ?_)
           refine ⟨hS7, ?_⟩
           refine WN.skip _ rfl rfl rfl rfl ?_
           refine WN.calm _ rfl rfl rfl rfl rfl (fun _ => r_pickF rfl (ev_t rfl) ev_c) ?_
           refine WN.calm _ rfl rfl rfl rfl rfl (fun _ => r_assign rfl (ev_t rfl)) ?_
           refine WN.done ?_
           refine WX.keep [(2, _)] ⟨rfl, trivial⟩ ?_
           refine WX.next ?_
           refine WC.ret ?_
           refine WX.retE1 rfl rfl ?_
           refine ⟨?_, hU⟩
           first
             | simp
             | (simp_all; done)
end Go.Proofs.YtipabhbnljadfaaDoor

/-
  code: functions into bytes.
-/
namespace Go.Proofs.YtipabhbnljadfaaDoor
open Go
set_option linter.unusedSimpArgs false
set_option linter.unusedVariables false

theorem encU_len9c {n : Nat} (h : n < 18446744073709551616) : (encU n).length ≤ 9 := by
  rw [encU_length]
  have := blen_le (n := n) (k := 8) (by simpa using h)
  omega
theorem encI_len {i : In} (h : i.small) : (encI i).length ≤ 2040 := by
  obtain ⟨⟨h1, h2, h3, h4⟩, a0, a1, s2⟩ := h
  simp only [inK] at h2 h3
  have e1 := encU_len9c (n := i.op) (by omega)
  have e2 := encU_len9c (zig_lt h2.1 h2.2)
  have e3 := encU_len9c (n := i.a.toNat) (by omega)
  have e4 := encU_len9c (n := i.s.length) (by omega)
  simp only [encI, List.length_append]
  omega
theorem encC_len : ∀ {l : List In}, (∀ i ∈ l, i.small) → (encC l).length ≤ l.length * 2040
  | [], _ => by simp [encC]
  | i :: l, h => by
    have h1 := encC_len (l := l) fun y hy => h y (List.mem_cons_of_mem _ hy)
    have h2 := encI_len (h i List.mem_cons_self)
    unfold encC at h1 ⊢
    rw [List.flatMap_cons, List.length_append, List.length_cons, Nat.add_mul]
    omega
theorem encF1_len {f : Fn} (h : f.small) : (encF1 f).length ≤ 204100 := by
  obtain ⟨c0, c1, l1, is⟩ := h
  have e1 := encU_len9c (n := f.caps.toNat) (by omega)
  have e2 := encU_len9c (n := f.code.length) (by omega)
  have e3 := encC_len is
  simp only [encF1, List.length_append]
  omega
theorem encFs_len : ∀ {l : List Fn}, (∀ f ∈ l, f.small) → (l.flatMap encF1).length ≤ l.length * 204100
  | [], _ => by simp
  | i :: l, h => by
    have h1 := encFs_len (l := l) fun y hy => h y (List.mem_cons_of_mem _ hy)
    have h2 := encF1_len (h i List.mem_cons_self)
    rw [List.flatMap_cons, List.length_append, List.length_cons, Nat.add_mul]
    omega
theorem takeF_len {l : List Fn} (h : ∀ f ∈ l, f.small) (h20 : l.length ≤ 20) (i : Nat) : ((l.take i).flatMap encF1).length ≤ 4082000 := by
  have h1 := encFs_len (l := l.take i) fun x hx => h x (List.mem_of_mem_take hx)
  rw [List.length_take] at h1
  omega
theorem takeC_len {l : List In} (h : ∀ f ∈ l, f.small) (h100 : l.length ≤ 100) (i : Nat) : ((l.take i).flatMap encI).length ≤ 204000 := by
  have h1 := encC_len (l := l.take i) fun x hx => h x (List.mem_of_mem_take hx)
  rw [List.length_take] at h1
  unfold encC at h1
  omega
theorem takeF_flat {α : Type} {e : α → List UInt8} {l : List α} {i : Nat} {x : α} (h : l[i]? = some x) : (l.take (i + 1)).flatMap e = (l.take i).flatMap e ++ e x := by
  rw [List.take_add_one, h]
  simp

set_option maxHeartbeats 4000000 in
theorem encode_ok {w : World} {M H : Nat → Prop} {g b0 : Nat} {v : Value} {l : List Fn} (hI : IsW w M g []) (hMk : ∀ k, M k → b0 ≤ k ∧ k < w.heap.size) (hall : IsFs w H v l) (hH : ∀ k, H k → k < b0) (hb0 : b0 ≤ w.heap.size) (hs : ∀ f ∈ l, f.small) (h20 : l.length ≤ 20) :
    Ret Tryd.prog 17 #[.pointer (some ⟨g, 0, none⟩), v] w fun _ w' => (∃ M' : Nat → Prop, IsW w' M' g (encF l) ∧ ∀ k, M' k → b0 ≤ k ∧ k < w'.heap.size) ∧ Upd (From b0) w w' := by
  obtain ⟨V, hV, hVc, hVl⟩ := hall
  obtain ⟨Aa, ca, rfl, hca⟩ := hV.slice_form
  have hVn : V.length = l.length := by rw [← hVl, List.length_map]
  have hHb : ∀ k, H k → k < w.heap.size → ¬ From b0 k := fun k hk _ h => by have := hH k hk; simp only [From] at h; omega
  have hL0 := encU_len9c (n := l.length) (by omega)
  refine enterRet (vs := [_, _]) (N := 53) Tryd.func17 rfl rfl rfl ?_
  have hU := Upd.refl (From b0) w
  refine WC.keep [(0, _), (1, _)] ⟨rfl, rfl, trivial⟩ ?_
  refine WC.seq ?_
  refine WC.region ?_
  refine WL.val rfl rfl rfl rfl (r_move rfl (ev_t rfl)) ?_
  refine WL.val rfl rfl rfl rfl (r_move rfl (ev_t rfl)) ?_
  refine WL.val rfl rfl rfl rfl (r_lenSlice (ts := #[]) rfl (ev_t rfl) elem_22) ?_
  first | refine WL.val rfl rfl rfl rfl (r_convN rfl (ev_t rfl) some_3 int_63 (by simp only [inK]; omega)) ?_ | refine WL.val rfl rfl rfl rfl (r_conv rfl (ev_t rfl) some_3 int_63) ?_
  refine WL.cons (SO.call (wuint_ok (n := V.length) hI (by omega) (by simp)) rfl body_28 ⟨(ev_t rfl), (ev_t rfl), trivial⟩ rfl rfl rfl rfl ?_)
  rintro v w1 ⟨rfl, hI, hu1⟩
  rw [List.nil_append, hVn] at hI
  have hs1 := hu1.size
  replace hU := hU.trans hu1 (by first | exact (fun _ _ h => h) | exact (fun _ _ h => h.elim) | (intro k hl hk; (try simp only [At, New, Grow, From, No] at hk ⊢); omega) | (intro k hl hk; first | (have := hMk k hk; simp only [From]; omega) | ((try simp only [At, New, Grow, From, No] at *); omega)))
  obtain ⟨M1, hI, hMk⟩ : ∃ M1 : Nat → Prop, IsW w1 M1 g (encU l.length) ∧ ∀ k, M1 k → b0 ≤ k ∧ k < w1.heap.size := ⟨_, hI, fun k hk => by have := hu1.size; rcases hk with hk | hk; (have := hMk k hk; omega); omega⟩
  refine WL.nil ?_
  refine WX.keep [(0, _), (1, _)] ⟨rfl, rfl, trivial⟩ ?_
  refine WX.next ?_
  refine WC.seq ?_
  refine WC.region ?_
  refine WL.val rfl rfl rfl rfl (r_move rfl (ev_t rfl)) ?_
  refine WL.val rfl rfl rfl rfl (r_lenSlice (ts := #[]) rfl (ev_t rfl) elem_22) ?_
  refine WL.val rfl rfl rfl rfl (r_move rfl ev_c) ?_
  refine WL.nil ?_
  refine WX.keep [(0, _), (13, _), (14, _), (15, _)] ⟨rfl, rfl, rfl, rfl, trivial⟩ ?_
  refine WX.next ?_
  refine WC.block ?_
  -- loop 1: live [0, 13, 14, 15]
  refine WC.keep [(0, _), (13, _), (14, _), (15, _)] ⟨rfl, rfl, rfl, rfl, trivial⟩ ?_
  refine WC.loop (fun q E w' => ∃ (i : Nat) (M : Nat → Prop), i ≤ V.length ∧ q = V.length - i ∧ Upd (From b0) w w' ∧ IsW w' M g (encU l.length ++ (l.take i).flatMap encF1) ∧ (∀ k, M k → b0 ≤ k ∧ k < w'.heap.size) ∧   E = [(0, .pointer (some ⟨g, 0, none⟩)), (13, .slice Aa V.length ca), (14, .int .i64 (V.length : Int)), (15, .int .i64 (i : Int))]) (V.length) ?_ ?_
  · exact ⟨0, M1, by omega, by omega, hU, by simpa using hI, hMk, rfl⟩
  · clear hU hI hMk
    rintro q E wA ⟨i, M, hi, rfl, hU, hI, hMk, rfl⟩
    have hw0 := hU.size
    refine WC.seq ?_
    refine WC.region ?_
    refine WL.val rfl rfl rfl rfl (r_lss rfl (ev_t rfl) (ev_t rfl)) ?_
    refine WL.nil ?_
    refine WX.keep [(0, _), (13, _), (14, _), (15, _), (16, _)] ⟨rfl, rfl, rfl, rfl, rfl, trivial⟩ ?_
    refine WX.next ?_
    refine WC.seq ?_
    refine WC.cond rfl (ev_t rfl) (fun hc2 => ?_) (fun hc2 => ?_)
    · try (exfalso; first | (simp at hc2; done) | (simp only [decide_eq_true_eq, decide_eq_false_iff_not, Bool.not_eq_true', Bool.not_eq_false', Bool.not_eq_true, Bool.not_eq_false] at hc2; omega) | omega)
      all_goals
       try simp only [decide_eq_true_eq, decide_eq_false_iff_not, Bool.not_eq_true', Bool.not_eq_false', Bool.not_eq_true, Bool.not_eq_false, Option.isNone_none, Option.isNone_some, Option.isSome_none, Option.isSome_some, ne_eq, Decidable.not_not] at hc2
       obtain ⟨x, hx⟩ : ∃ x, V[i]? = some x := ⟨_, List.getElem?_eq_getElem (by omega)⟩
       have hcell := flatMap_get FnV.cells_len hx
       have hxa : l[i]? = some x.f := by rw [← hVl, List.getElem?_map, hx]; rfl
       have hxc := hVc x (List.mem_of_getElem? hx)
       have hxs := hs _ (List.mem_of_getElem? hxa)
       obtain ⟨ba, oa, rfl, _⟩ := hV.open (by omega)
       rcases x with ⟨⟨caps, code⟩, fv⟩
       simp only [FnV.cells] at hcell hxa hxc hxs
       obtain ⟨c0, c1, l1, is⟩ := hxs
       simp only at c0 c1 l1 is
       obtain ⟨cn, rfl⟩ : ∃ cn : Nat, caps = cn := ⟨caps.toNat, by omega⟩
       obtain ⟨Af, cf, rfl, hcf⟩ := hxc.slice_form
       have htk := takeF_len hs h20 i
       have he1 := encU_len9c (n := cn) (by omega)
       have he2 := encU_len9c (n := code.length) (by omega)
       obtain ⟨X, hX⟩ : ∃ X, encU l.length ++ (l.take i).flatMap encF1 = X := ⟨_, rfl⟩
       have hXl : X.length ≤ 4082009 := by rw [← hX, List.length_append]; omega
       rw [hX] at hI
       refine WC.skip ?_
       refine WX.next ?_
       refine WC.seq ?_
       refine WC.block ?_
       refine WC.seq ?_
       refine WC.region ?_
       refine WL.val rfl rfl rfl rfl (r_indexAddr rfl (ev_t rfl) (ev_t rfl) elem_22 size_42 (by omega) (by omega)) ?_
       refine WL.val rfl rfl rfl rfl (r_loadAgg (vs := [_, _]) rfl (ev_t rfl) agg_42 size_42 (Rd.cellsL (us := [.int .i64 (cn : Int), .slice Af code.length cf]) (hV.upd hU hHb) (i := i * 2) (by omega) hcell)) ?_
       refine WL.cons (SO.alloc rfl rfl rfl rfl (r_alloc rfl zero_42) ?_)
       intro w2 hu2 hB2 hz2
       have hs2 := hu2.size
       replace hU := hU.trans hu2 (by first | exact (fun _ _ h => h) | exact (fun _ _ h => h.elim) | (intro k hl hk; (try simp only [At, New, Grow, From, No] at hk ⊢); omega) | (intro k hl hk; first | (have := hMk k hk; simp only [From]; omega) | ((try simp only [At, New, Grow, From, No] at *); omega)))
       replace hI := hI.upd hu2 (by first | exact (fun _ _ _ h => h) | (intro k hk hl hS; have := hMk k hk; simp only [At, No] at hS; omega))
       refine WL.cons (SO.store2 rfl (ev_t rfl) (ev_t rfl) size_42 hB2 rfl rfl rfl rfl rfl rfl ?_)
       intro w3 hu3 hB2 hz3
       have hs3 := hu3.size
       replace hU := hU.trans hu3 (by first | exact (fun _ _ h => h) | exact (fun _ _ h => h.elim) | (intro k hl hk; (try simp only [At, New, Grow, From, No] at hk ⊢); omega) | (intro k hl hk; first | (have := hMk k hk; simp only [From]; omega) | ((try simp only [At, New, Grow, From, No] at *); omega)))
       replace hI := hI.upd hu3 (by first | exact (fun _ _ _ h => h) | (intro k hk hl hS; have := hMk k hk; simp only [At, No] at hS; omega))
       refine WL.nil ?_
       refine WX.keep [(0, _), (5, _), (13, _), (14, _), (15, _)] ⟨rfl, rfl, rfl, rfl, rfl, trivial⟩ ?_
       have hbf : Blk w3 wA.heap.size #[.int .i64 (cn : Int), .slice Af code.length cf] 42 := hB2
       obtain ⟨bf, hbfe⟩ : ∃ bf, bf = wA.heap.size := ⟨_, rfl⟩
       have hMf : ∀ k, M k → k ≠ bf := fun k hk => by have := hMk k hk; omega
       rw [← hbfe] at hbf ⊢
       have hbf1 := hbf.lt
       replace hMk : ∀ k, M k → b0 ≤ k ∧ k < w3.heap.size := fun k hk => by have := hMk k hk; omega
       refine WX.next ?_
       refine WC.seq ?_
       refine WC.draws' (fun u0_ u1_ => Upd (fun k => From b0 k ∧ k ≠ bf) u0_ u1_) (fun j => [0, 0, 0, 0, 1, 0, 0, 0, 0, 2].getD j 0) (.calm 0 (.calm 1 (.calm 5 (.held 2 (.calm 3 (.held 6 (.calm 7 (.calm 8 (.one 4 (.one 9 (.done))))))))))) mixed (by kernel_rfl) (by repeat (first | with_reducible exact Deaf.body | with_reducible apply Deaf.then | with_reducible apply Deaf.block)) ?_
       intro w4 hu4
       have hz4 := congrArg Array.size hu4.2.2.2
       replace hu4 := Upd.of_draw hu4
       have hs4 := hu4.size
       replace hU := hU.trans hu4 (by first | exact (fun _ _ h => h) | exact (fun _ _ h => h.elim) | (intro k hl hk; (try simp only [At, New, Grow, From, No] at hk ⊢); omega) | (intro k hl hk; first | (have := hMk k hk; simp only [From]; omega) | ((try simp only [At, New, Grow, From, No] at *); omega)))
       replace hI := hI.upd hu4 (by first | exact (fun _ _ _ h => h) | (intro k hk hl hS; have := hMk k hk; simp only [At, No] at hS; omega))
       replace hbf := hbf.upd hu4 (by first | exact (fun h => h) | (exact fun h => hMf _ h rfl) | (simp only [At, No]; omega))
       have hS4 := Upd.refl (fun k => From b0 k ∧ k ≠ bf) w4
       refine WN.calm _ rfl rfl rfl rfl rfl (fun _ => r_move rfl (ev_t rfl)) ?_
       first | refine WN.calm _ rfl rfl rfl rfl rfl (fun _ => r_field0 rfl (ev_t rfl) fld_42_0) ?_ | refine WN.calm _ rfl rfl rfl rfl rfl (fun _ => r_fieldAt rfl (ev_t rfl) fld_42_0) ?_
       first | refine WN.calm _ rfl rfl rfl rfl rfl (fun _ => r_field0 rfl (ev_t rfl) fld_42_1) ?_ | refine WN.calm _ rfl rfl rfl rfl rfl (fun _ => r_fieldAt rfl (ev_t rfl) fld_42_1) ?_
       refine WN.held _ rfl rfl rfl rfl rfl hS4 (fun w' hS => r_load rfl (ev_t rfl) flat_3 (Blk.cell (hbf.upd hS (by (try simp only [At, From, No, Grow, New]); omega)) rfl)) ?_
       first | refine WN.calm _ rfl rfl rfl rfl rfl (fun _ => r_convN rfl (ev_t rfl) some_3 int_63 (by simp only [inK]; omega)) ?_ | refine WN.calm _ rfl rfl rfl rfl rfl (fun _ => r_conv rfl (ev_t rfl) some_3 int_63) ?_
       refine WN.held _ rfl rfl rfl rfl rfl hS4 (fun w' hS => r_load rfl (ev_t rfl) flat_40 (Blk.cell (hbf.upd hS (by (try simp only [At, From, No, Grow, New]); omega)) rfl)) ?_
       refine WN.calm _ rfl rfl rfl rfl rfl (fun _ => r_lenSlice (ts := #[]) rfl (ev_t rfl) elem_40) ?_
       first | refine WN.calm _ rfl rfl rfl rfl rfl (fun _ => r_convN rfl (ev_t rfl) some_3 int_63 (by simp only [inK]; omega)) ?_ | refine WN.calm _ rfl rfl rfl rfl rfl (fun _ => r_conv rfl (ev_t rfl) some_3 int_63) ?_
       refine WN.step _ rfl (SO.call (wuint_ok (n := cn) hI (by omega) (by omega)) rfl body_28 ⟨(ev_t rfl), (ev_t rfl), trivial⟩ rfl rfl rfl rfl ?_)
       rintro v w5 ⟨rfl, hI, hu5⟩
       have hs5 := hu5.size
       replace hS4 := Upd.trans hS4 hu5 (by intro k hl hk; first | exact hk.elim | exact ⟨(hMk k hk).1, hMf k hk⟩)
       replace hU := hU.trans hu5 (by first | exact (fun _ _ h => h) | exact (fun _ _ h => h.elim) | (intro k hl hk; (try simp only [At, New, Grow, From, No] at hk ⊢); omega) | (intro k hl hk; first | (have := hMk k hk; simp only [From]; omega) | ((try simp only [At, New, Grow, From, No] at *); omega)))
       replace hbf := hbf.upd hu5 (by first | exact (fun h => h) | (exact fun h => hMf _ h rfl) | (simp only [At, No]; omega))
       obtain ⟨M, hI, hMk, hMf⟩ : ∃ M1 : Nat → Prop, IsW w5 M1 g (X ++ encU cn) ∧ (∀ k, M1 k → b0 ≤ k ∧ k < w5.heap.size) ∧ ∀ k, M1 k → k ≠ bf := ⟨_, hI, fun k hk => by have := hu5.size; rcases hk with hk | hk; (have := hMk k hk; omega); omega, fun k hk => by rcases hk with hk | hk; exact hMf k hk; omega⟩
       refine ⟨hS4, ?_⟩
       refine WN.step _ rfl (SO.call (wuint_ok (n := code.length) hI (by omega) (by rw [List.length_append]; omega)) rfl body_28 ⟨(ev_t rfl), (ev_t rfl), trivial⟩ rfl rfl rfl rfl ?_)
       rintro v w6 ⟨rfl, hI, hu6⟩
       have hs6 := hu6.size
       try replace hS4 := Upd.trans hS4 hu6 (by intro k hl hk; first | exact hk.elim | exact ⟨(hMk k hk).1, hMf k hk⟩)
       replace hU := hU.trans hu6 (by first | exact (fun _ _ h => h) | exact (fun _ _ h => h.elim) | (intro k hl hk; (try simp only [At, New, Grow, From, No] at hk ⊢); omega) | (intro k hl hk; first | (have := hMk k hk; simp only [From]; omega) | ((try simp only [At, New, Grow, From, No] at *); omega)))
       replace hbf := hbf.upd hu6 (by first | exact (fun h => h) | (exact fun h => hMf _ h rfl) | (simp only [At, No]; omega))
       obtain ⟨M, hI, hMk, hMf⟩ : ∃ M1 : Nat → Prop, IsW w6 M1 g (X ++ encU cn ++ encU code.length) ∧ (∀ k, M1 k → b0 ≤ k ∧ k < w6.heap.size) ∧ ∀ k, M1 k → k ≠ bf := ⟨_, hI, fun k hk => by have := hu6.size; rcases hk with hk | hk; (have := hMk k hk; omega); omega, fun k hk => by rcases hk with hk | hk; exact hMf k hk; omega⟩
       refine ⟨trivial, ?_⟩
       refine WN.done ?_
       refine WX.keep [(0, _), (5, _), (13, _), (14, _), (15, _)] ⟨rfl, rfl, rfl, rfl, rfl, trivial⟩ ?_
       refine WX.next ?_
       refine WC.seq ?_
       refine WC.region ?_
       first | refine WL.val rfl rfl rfl rfl (r_field0 rfl (ev_t rfl) fld_42_1) ?_ | refine WL.val rfl rfl rfl rfl (r_fieldAt rfl (ev_t rfl) fld_42_1) ?_
       refine WL.val rfl rfl rfl rfl (r_load rfl (ev_t rfl) flat_40 (Blk.cell hbf rfl)) ?_
       refine WL.val rfl rfl rfl rfl (r_lenSlice (ts := #[]) rfl (ev_t rfl) elem_40) ?_
       refine WL.val rfl rfl rfl rfl (r_move rfl ev_c) ?_
       refine WL.nil ?_
       refine WX.keep [(0, _), (13, _), (14, _), (15, _), (30, _), (31, _), (32, _)] ⟨rfl, rfl, rfl, rfl, rfl, rfl, rfl, trivial⟩ ?_
       refine WX.next ?_
       refine WC.block ?_
       -- loop 2: live [0, 13, 14, 15, 30, 31, 32]
       refine WC.keep [(0, _), (13, _), (14, _), (15, _), (30, _), (31, _), (32, _)] ⟨rfl, rfl, rfl, rfl, rfl, rfl, rfl, trivial⟩ ?_
       refine WC.loop (fun q E w' => ∃ (j : Nat) (M : Nat → Prop), j ≤ code.length ∧ q = code.length - j ∧ Upd (From b0) w w' ∧ IsW w' M g (X ++ encU cn ++ encU code.length ++ (code.take j).flatMap encI) ∧ (∀ k, M k → b0 ≤ k ∧ k < w'.heap.size) ∧   E = [(0, .pointer (some ⟨g, 0, none⟩)), (13, .slice (some ⟨ba, oa, none⟩) V.length ca), (14, .int .i64 (V.length : Int)), (15, .int .i64 (i : Int)), (30, .slice Af code.length cf), (31, .int .i64 (code.length : Int)), (32, .int .i64 (j : Int))]) (code.length) ?_ ?_
       · exact ⟨0, M, by omega, by omega, hU, by simpa using hI, hMk, rfl⟩
       · clear hU hI hMk hbf hMf
         rintro q E wB ⟨j, M, hj, rfl, hU, hI, hMk, rfl⟩
         have hwB := hU.size
         refine WC.seq ?_
         refine WC.region ?_
         refine WL.val rfl rfl rfl rfl (r_lss rfl (ev_t rfl) (ev_t rfl)) ?_
         refine WL.nil ?_
         refine WX.keep [(0, _), (13, _), (14, _), (15, _), (30, _), (31, _), (32, _), (33, _)] ⟨rfl, rfl, rfl, rfl, rfl, rfl, rfl, rfl, trivial⟩ ?_
         refine WX.next ?_
         refine WC.seq ?_
         refine WC.cond rfl (ev_t rfl) (fun hc6 => ?_) (fun hc6 => ?_)
         · try (exfalso; first | (simp at hc6; done) | (simp only [decide_eq_true_eq, decide_eq_false_iff_not, Bool.not_eq_true', Bool.not_eq_false', Bool.not_eq_true, Bool.not_eq_false] at hc6; omega) | omega)
           all_goals
            try simp only [decide_eq_true_eq, decide_eq_false_iff_not, Bool.not_eq_true', Bool.not_eq_false', Bool.not_eq_true, Bool.not_eq_false, Option.isNone_none, Option.isNone_some, Option.isSome_none, Option.isSome_some, ne_eq, Decidable.not_not] at hc6
            obtain ⟨e, he⟩ : ∃ e, code[j]? = some e := ⟨_, List.getElem?_eq_getElem (by omega)⟩
            have hec := flatMap_get insC_len he
            have hes := is e (List.mem_of_getElem? he)
            obtain ⟨bc, oc, rfl, _⟩ := hxc.open (by omega)
            have htc := takeC_len is l1 j
            rcases e with ⟨op, x, a, s⟩
            obtain ⟨⟨o1, o2, o3, o4⟩, a0, a1, s2⟩ := hes
            simp only [inK] at o1 o2 o3 o4 a0 a1 s2
            obtain ⟨an, rfl⟩ : ∃ an : Nat, a = an := ⟨a.toNat, by omega⟩
            have hf1 := encU_len9c (n := op) (by omega)
            have hf2 := encU_len9c (zig_lt o2.1 o2.2)
            have hf3 := encU_len9c (n := an) (by omega)
            obtain ⟨Y, hY⟩ : ∃ Y, X ++ encU cn ++ encU code.length ++ (code.take j).flatMap encI = Y := ⟨_, rfl⟩
            have hYl : Y.length ≤ 4500000 := by rw [← hY]; simp only [List.length_append]; omega
            rw [hY] at hI
            refine WC.skip ?_
            refine WX.next ?_
            refine WC.seq ?_
            refine WC.block ?_
            refine WC.seq ?_
            refine WC.region ?_
            refine WL.val rfl rfl rfl rfl (r_indexAddr rfl (ev_t rfl) (ev_t rfl) elem_40 size_44 (by omega) (by omega)) ?_
            refine WL.val rfl rfl rfl rfl (r_loadAgg (vs := [_, _, _, _]) rfl (ev_t rfl) agg_44 size_44 (Rd.cellsL (us := [.int .u8 (op : Int), .int .i64 x, .int .i64 (an : Int), .string ⟨s.toArray⟩]) (hxc.upd hU hHb) (i := j * 4) (by omega) hec)) ?_
            refine WL.cons (SO.alloc rfl rfl rfl rfl (r_alloc rfl zero_44) ?_)
            intro w7 hu7 hB7 hz7
            have hs7 := hu7.size
            replace hU := hU.trans hu7 (by first | exact (fun _ _ h => h) | exact (fun _ _ h => h.elim) | (intro k hl hk; (try simp only [At, New, Grow, From, No] at hk ⊢); omega) | (intro k hl hk; first | (have := hMk k hk; simp only [From]; omega) | ((try simp only [At, New, Grow, From, No] at *); omega)))
            replace hI := hI.upd hu7 (by first | exact (fun _ _ _ h => h) | (intro k hk hl hS; have := hMk k hk; simp only [At, No] at hS; omega))
            refine WL.cons (SO.storeAll (us := [_, _, _, _]) rfl (ev_t rfl) (ev_t rfl) size_44 hB7 rfl rfl rfl rfl rfl ?_)
            intro w8 hu8 hB7 hz8
            have hs8 := hu8.size
            replace hU := hU.trans hu8 (by first | exact (fun _ _ h => h) | exact (fun _ _ h => h.elim) | (intro k hl hk; (try simp only [At, New, Grow, From, No] at hk ⊢); omega) | (intro k hl hk; first | (have := hMk k hk; simp only [From]; omega) | ((try simp only [At, New, Grow, From, No] at *); omega)))
            replace hI := hI.upd hu8 (by first | exact (fun _ _ _ h => h) | (intro k hk hl hS; have := hMk k hk; simp only [At, No] at hS; omega))
            refine WL.nil ?_
            refine WX.keep [(0, _), (7, _), (13, _), (14, _), (15, _), (30, _), (31, _), (32, _)] ⟨rfl, rfl, rfl, rfl, rfl, rfl, rfl, rfl, trivial⟩ ?_
            have hbi : Blk w8 wB.heap.size #[.int .u8 (op : Int), .int .i64 x, .int .i64 (an : Int), .string ⟨s.toArray⟩] 44 := hB7
            obtain ⟨bi, hbie⟩ : ∃ bi, bi = wB.heap.size := ⟨_, rfl⟩
            have hMf : ∀ k, M k → k ≠ bi := fun k hk => by have := hMk k hk; omega
            rw [← hbie] at hbi ⊢
            have hbi1 := hbi.lt
            replace hMk : ∀ k, M k → b0 ≤ k ∧ k < w8.heap.size := fun k hk => by have := hMk k hk; omega
            refine WX.next ?_
            refine WC.draws' (fun u0_ u1_ => Upd (fun k => From b0 k ∧ k ≠ bi) u0_ u1_) (fun j => [0, 0, 0, 0, 1, 0, 0, 1, 0, 0, 0, 1, 0, 0, 2].getD j 0) (.calm 0 (.calm 1 (.calm 5 (.calm 8 (.calm 12 (.held 2 (.calm 3 (.held 6 (.held 9 (.calm 10 (.held 13 (.one 4 (.one 7 (.one 11 (.one 14 (.done)))))))))))))))) mixed (by kernel_rfl) (by repeat (first | with_reducible exact Deaf.body | with_reducible apply Deaf.then | with_reducible apply Deaf.block)) ?_
            intro w9 hu9
            have hz9 := congrArg Array.size hu9.2.2.2
            replace hu9 := Upd.of_draw hu9
            have hs9 := hu9.size
            replace hU := hU.trans hu9 (by first | exact (fun _ _ h => h) | exact (fun _ _ h => h.elim) | (intro k hl hk; (try simp only [At, New, Grow, From, No] at hk ⊢); omega) | (intro k hl hk; first | (have := hMk k hk; simp only [From]; omega) | ((try simp only [At, New, Grow, From, No] at *); omega)))
            replace hI := hI.upd hu9 (by first | exact (fun _ _ _ h => h) | (intro k hk hl hS; have := hMk k hk; simp only [At, No] at hS; omega))
            replace hbi := hbi.upd hu9 (by first | exact (fun h => h) | exact (fun h => hMf _ h rfl) | exact (fun h => h.2 rfl) | (simp only [At, No]; omega))
            have hS8 := Upd.refl (fun k => From b0 k ∧ k ≠ bi) w9
            refine WN.calm _ rfl rfl rfl rfl rfl (fun _ => r_move rfl (ev_t rfl)) ?_
            first | refine WN.calm _ rfl rfl rfl rfl rfl (fun _ => r_field0 rfl (ev_t rfl) fld_44_0) ?_ | refine WN.calm _ rfl rfl rfl rfl rfl (fun _ => r_fieldAt rfl (ev_t rfl) fld_44_0) ?_
            first | refine WN.calm _ rfl rfl rfl rfl rfl (fun _ => r_field0 rfl (ev_t rfl) fld_44_1) ?_ | refine WN.calm _ rfl rfl rfl rfl rfl (fun _ => r_fieldAt rfl (ev_t rfl) fld_44_1) ?_
            first | refine WN.calm _ rfl rfl rfl rfl rfl (fun _ => r_field0 rfl (ev_t rfl) fld_44_2) ?_ | refine WN.calm _ rfl rfl rfl rfl rfl (fun _ => r_fieldAt rfl (ev_t rfl) fld_44_2) ?_
            first | refine WN.calm _ rfl rfl rfl rfl rfl (fun _ => r_field0 rfl (ev_t rfl) fld_44_3) ?_ | refine WN.calm _ rfl rfl rfl rfl rfl (fun _ => r_fieldAt rfl (ev_t rfl) fld_44_3) ?_
            refine WN.held _ rfl rfl rfl rfl rfl hS8 (fun w' hS => r_load rfl (ev_t rfl) flat_5 (Blk.cell (hbi.upd hS (by (try simp only [At, From, No, Grow, New]); omega)) rfl)) ?_
            first | refine WN.calm _ rfl rfl rfl rfl rfl (fun _ => r_convN rfl (ev_t rfl) some_5 int_63 (by simp only [inK]; omega)) ?_ | refine WN.calm _ rfl rfl rfl rfl rfl (fun _ => r_conv rfl (ev_t rfl) some_5 int_63) ?_
            refine WN.held _ rfl rfl rfl rfl rfl hS8 (fun w' hS => r_load rfl (ev_t rfl) flat_2 (Blk.cell (hbi.upd hS (by (try simp only [At, From, No, Grow, New]); omega)) rfl)) ?_
            refine WN.held _ rfl rfl rfl rfl rfl hS8 (fun w' hS => r_load rfl (ev_t rfl) flat_3 (Blk.cell (hbi.upd hS (by (try simp only [At, From, No, Grow, New]); omega)) rfl)) ?_
            first | refine WN.calm _ rfl rfl rfl rfl rfl (fun _ => r_convN rfl (ev_t rfl) some_3 int_63 (by simp only [inK]; omega)) ?_ | refine WN.calm _ rfl rfl rfl rfl rfl (fun _ => r_conv rfl (ev_t rfl) some_3 int_63) ?_
            refine WN.held _ rfl rfl rfl rfl rfl hS8 (fun w' hS => r_load rfl (ev_t rfl) flat_9 (Blk.cell (hbi.upd hS (by (try simp only [At, From, No, Grow, New]); omega)) rfl)) ?_
            refine WN.step _ rfl (SO.call (wuint_ok (n := op) hI (by omega) (by omega)) rfl body_28 ⟨(ev_t rfl), (ev_t rfl), trivial⟩ rfl rfl rfl rfl ?_)
            rintro v w10 ⟨rfl, hI, hu10⟩
            have hs10 := hu10.size
            replace hS8 := Upd.trans hS8 hu10 (by intro k hl hk; first | exact hk.elim | exact ⟨(hMk k hk).1, hMf k hk⟩)
            replace hU := hU.trans hu10 (by first | exact (fun _ _ h => h) | exact (fun _ _ h => h.elim) | (intro k hl hk; (try simp only [At, New, Grow, From, No] at hk ⊢); omega) | (intro k hl hk; first | (have := hMk k hk; simp only [From]; omega) | ((try simp only [At, New, Grow, From, No] at *); omega)))
            replace hbi := hbi.upd hu10 (by first | exact (fun h => h) | exact (fun h => hMf _ h rfl) | exact (fun h => h.2 rfl) | (simp only [At, No]; omega))
            obtain ⟨M, hI, hMk, hMf⟩ : ∃ M1 : Nat → Prop, IsW w10 M1 g (Y ++ encU op) ∧ (∀ k, M1 k → b0 ≤ k ∧ k < w10.heap.size) ∧ ∀ k, M1 k → k ≠ bi := ⟨_, hI, fun k hk => by have := hu10.size; rcases hk with hk | hk; (have := hMk k hk; omega); omega, fun k hk => by rcases hk with hk | hk; exact hMf k hk; omega⟩
            refine ⟨hS8, ?_⟩
            refine WN.step _ rfl (SO.call (wint_ok hI o2.1 o2.2 (by rw [List.length_append]; omega)) rfl body_29 ⟨(ev_t rfl), (ev_t rfl), trivial⟩ rfl rfl rfl rfl ?_)
            rintro v w11 ⟨rfl, hI, hu11⟩
            have hs11 := hu11.size
            replace hS8 := Upd.trans hS8 hu11 (by intro k hl hk; first | exact hk.elim | exact ⟨(hMk k hk).1, hMf k hk⟩)
            replace hU := hU.trans hu11 (by first | exact (fun _ _ h => h) | exact (fun _ _ h => h.elim) | (intro k hl hk; (try simp only [At, New, Grow, From, No] at hk ⊢); omega) | (intro k hl hk; first | (have := hMk k hk; simp only [From]; omega) | ((try simp only [At, New, Grow, From, No] at *); omega)))
            replace hbi := hbi.upd hu11 (by first | exact (fun h => h) | exact (fun h => hMf _ h rfl) | exact (fun h => h.2 rfl) | (simp only [At, No]; omega))
            obtain ⟨M, hI, hMk, hMf⟩ : ∃ M1 : Nat → Prop, IsW w11 M1 g (Y ++ encU op ++ encU (zig x)) ∧ (∀ k, M1 k → b0 ≤ k ∧ k < w11.heap.size) ∧ ∀ k, M1 k → k ≠ bi := ⟨_, hI, fun k hk => by have := hu11.size; rcases hk with hk | hk; (have := hMk k hk; omega); omega, fun k hk => by rcases hk with hk | hk; exact hMf k hk; omega⟩
            refine ⟨hS8, ?_⟩
            refine WN.step _ rfl (SO.call (wuint_ok (n := an) hI (by omega) (by simp only [List.length_append]; omega)) rfl body_28 ⟨(ev_t rfl), (ev_t rfl), trivial⟩ rfl rfl rfl rfl ?_)
            rintro v w12 ⟨rfl, hI, hu12⟩
            have hs12 := hu12.size
            replace hS8 := Upd.trans hS8 hu12 (by intro k hl hk; first | exact hk.elim | exact ⟨(hMk k hk).1, hMf k hk⟩)
            replace hU := hU.trans hu12 (by first | exact (fun _ _ h => h) | exact (fun _ _ h => h.elim) | (intro k hl hk; (try simp only [At, New, Grow, From, No] at hk ⊢); omega) | (intro k hl hk; first | (have := hMk k hk; simp only [From]; omega) | ((try simp only [At, New, Grow, From, No] at *); omega)))
            replace hbi := hbi.upd hu12 (by first | exact (fun h => h) | exact (fun h => hMf _ h rfl) | exact (fun h => h.2 rfl) | (simp only [At, No]; omega))
            obtain ⟨M, hI, hMk, hMf⟩ : ∃ M1 : Nat → Prop, IsW w12 M1 g (Y ++ encU op ++ encU (zig x) ++ encU an) ∧ (∀ k, M1 k → b0 ≤ k ∧ k < w12.heap.size) ∧ ∀ k, M1 k → k ≠ bi := ⟨_, hI, fun k hk => by have := hu12.size; rcases hk with hk | hk; (have := hMk k hk; omega); omega, fun k hk => by rcases hk with hk | hk; exact hMf k hk; omega⟩
            refine ⟨hS8, ?_⟩
            refine WN.step _ rfl (SO.call (wtext_ok (s := ⟨s.toArray⟩) hI (by rw [show (⟨s.toArray⟩ : ByteArray).size = s.length from by simp [ByteArray.size]]; simp only [List.length_append]; omega)) rfl body_30 ⟨(ev_t rfl), (ev_t rfl), trivial⟩ rfl rfl rfl rfl ?_)
            rintro v w13 ⟨rfl, hI, hu13⟩
            have hs13 := hu13.size
            try replace hS8 := Upd.trans hS8 hu13 (by intro k hl hk; first | exact hk.elim | exact ⟨(hMk k hk).1, hMf k hk⟩)
            replace hU := hU.trans hu13 (by first | exact (fun _ _ h => h) | exact (fun _ _ h => h.elim) | (intro k hl hk; (try simp only [At, New, Grow, From, No] at hk ⊢); omega) | (intro k hl hk; first | (have := hMk k hk; simp only [From]; omega) | ((try simp only [At, New, Grow, From, No] at *); omega)))
            replace hbi := hbi.upd hu13 (by first | exact (fun h => h) | exact (fun h => hMf _ h rfl) | exact (fun h => h.2 rfl) | (simp only [At, No]; omega))
            obtain ⟨M, hI, hMk, hMf⟩ : ∃ M1 : Nat → Prop, IsW w13 M1 g (Y ++ encU op ++ encU (zig x) ++ encU an ++ (encU s.length ++ s)) ∧ (∀ k, M1 k → b0 ≤ k ∧ k < w13.heap.size) ∧ ∀ k, M1 k → k ≠ bi := ⟨_, by simpa [ByteArray.size, ByteArray.toList_eq] using hI, fun k hk => by have := hu13.size; rcases hk with hk | hk; (have := hMk k hk; omega); omega, fun k hk => by rcases hk with hk | hk; exact hMf k hk; omega⟩
            refine ⟨trivial, ?_⟩
            refine WN.done ?_
            refine WX.keep [(0, _), (13, _), (14, _), (15, _), (30, _), (31, _), (32, _)] ⟨rfl, rfl, rfl, rfl, rfl, rfl, rfl, trivial⟩ ?_
            refine WX.blockNormal ?_
            refine WX.next ?_
            refine WC.region ?_
            first | refine WL.val rfl rfl rfl rfl (r_addN rfl (ev_t rfl) ev_c (by simp only [inK]; omega)) ?_ | refine WL.val rfl rfl rfl rfl (r_add rfl (ev_t rfl) ev_c) ?_
            refine WL.val rfl rfl rfl rfl (r_move rfl (ev_t rfl)) ?_
            refine WL.nil ?_
            refine WX.keep [(0, _), (13, _), (14, _), (15, _), (30, _), (31, _), (32, _)] ⟨rfl, rfl, rfl, rfl, rfl, rfl, rfl, trivial⟩ ?_
            refine WX.meet [(0, _), (13, _), (14, _), (15, _), (30, _), (31, _), (32, _)] ⟨rfl, rfl, rfl, rfl, rfl, rfl, rfl, trivial⟩ ?_
            refine ⟨code.length - (j + 1), by omega, j + 1, M, by omega, rfl, hU, ?_, hMk, rfl⟩
            rw [takeF_flat he]
            have hY2 : X ++ encU cn ++ encU code.length ++ ((code.take j).flatMap encI ++ encI ⟨op, x, (an : Int), s⟩) = Y ++ encU op ++ encU (zig x) ++ encU an ++ (encU s.length ++ s) := by
              rw [← hY]
              simp only [encI, List.append_assoc, Int.toNat_natCast]
            rw [hY2]
            exact hI
         · try (exfalso; first | (simp at hc6; done) | (simp only [decide_eq_true_eq, decide_eq_false_iff_not, Bool.not_eq_true', Bool.not_eq_false', Bool.not_eq_true, Bool.not_eq_false] at hc6; omega) | omega)
           all_goals
            try simp only [decide_eq_true_eq, decide_eq_false_iff_not, Bool.not_eq_true', Bool.not_eq_false', Bool.not_eq_true, Bool.not_eq_false, Option.isNone_none, Option.isNone_some, Option.isSome_none, Option.isSome_some, ne_eq, Decidable.not_not] at hc6
            obtain rfl : j = code.length := by omega
            rw [List.take_length] at hI
            refine WC.exit ?_
            refine WX.thenExit ?_
            refine WX.thenExit ?_
            refine WX.blockHere ?_
            refine WX.blockNormal ?_
            refine WX.next ?_
            refine WC.region ?_
            first | refine WL.val rfl rfl rfl rfl (r_addN rfl (ev_t rfl) ev_c (by simp only [inK]; omega)) ?_ | refine WL.val rfl rfl rfl rfl (r_add rfl (ev_t rfl) ev_c) ?_
            refine WL.val rfl rfl rfl rfl (r_move rfl (ev_t rfl)) ?_
            refine WL.nil ?_
            refine WX.keep [(0, _), (13, _), (14, _), (15, _)] ⟨rfl, rfl, rfl, rfl, trivial⟩ ?_
            refine WX.meet [(0, _), (13, _), (14, _), (15, _)] ⟨rfl, rfl, rfl, rfl, trivial⟩ ?_
            refine ⟨V.length - (i + 1), by omega, i + 1, M, by omega, rfl, hU, ?_, hMk, rfl⟩
            rw [takeF_flat hxa]
            have hX2 : encU l.length ++ ((l.take i).flatMap encF1 ++ encF1 ⟨(cn : Int), code⟩) = X ++ encU cn ++ encU code.length ++ code.flatMap encI := by
              rw [← hX]
              simp only [encF1, encC, List.append_assoc, Int.toNat_natCast]
            rw [hX2]
            exact hI
    · try (exfalso; first | (simp at hc2; done) | (simp only [decide_eq_true_eq, decide_eq_false_iff_not, Bool.not_eq_true', Bool.not_eq_false', Bool.not_eq_true, Bool.not_eq_false] at hc2; omega) | omega)
      all_goals
       try simp only [decide_eq_true_eq, decide_eq_false_iff_not, Bool.not_eq_true', Bool.not_eq_false', Bool.not_eq_true, Bool.not_eq_false, Option.isNone_none, Option.isNone_some, Option.isSome_none, Option.isSome_some, ne_eq, Decidable.not_not] at hc2
       obtain rfl : i = V.length := by omega
       rw [hVn, List.take_length] at hI
       refine WC.exit ?_
       refine WX.thenExit ?_
       refine WX.thenExit ?_
       refine WX.blockHere ?_
       refine WX.endE (l := []) (vs := []) rfl trivial ?_
       exact ⟨⟨M, hI, hMk⟩, hU⟩
end Go.Proofs.YtipabhbnljadfaaDoor

/-
  The reference's Int, Bytes.
-/
namespace Go.Proofs.YtipabhbnljadfaaDoor
open Go
set_option linter.unusedSimpArgs false
set_option linter.unusedVariables false

theorem refInt_ok {w : World} {x : Int} (h1 : -9223372036854775808 ≤ x) (h2 : x ≤ 9223372036854775807) :
    Ret Tryd.prog 33 #[.int .i64 x] w fun v w' => Own w' (New w w') 5 1 v (encU (zig x)).length ((encU (zig x)).map U8) ∧ Upd No w w' := by
  have hz := zig_lt h1 h2
  refine enterRet (vs := [_]) (N := 16) Tryd.func33 rfl rfl rfl ?_
  refine WC.keep [(0, _)] ⟨rfl, trivial⟩ ?_
  refine WC.seq ?_
  refine WC.region ?_
  refine WL.val rfl rfl rfl rfl (r_assign rfl ev_c) ?_
  refine WL.nil ?_
  refine WX.keep [(0, _)] ⟨rfl, trivial⟩ ?_
  refine WX.next ?_
  refine WC.seq ?_
  refine WC.seq ?_
  refine WC.region ?_
  refine WL.val rfl rfl rfl rfl (r_move rfl (ev_t rfl)) ?_
  refine WL.val rfl rfl rfl rfl (r_lss rfl (ev_t rfl) ev_c) ?_
  refine WL.nil ?_
  refine WX.keep [(0, _), (4, _)] ⟨rfl, rfl, trivial⟩ ?_
  refine WX.next ?_
  refine WC.cond rfl (ev_t rfl) (fun hc1 => ?_) (fun hc1 => ?_)
  · try (exfalso; first | (simp at hc1; done) | (simp only [decide_eq_true_eq, decide_eq_false_iff_not, Bool.not_eq_true', Bool.not_eq_false', Bool.not_eq_true, Bool.not_eq_false] at hc1; omega) | omega)
    all_goals
     try simp only [decide_eq_true_eq, decide_eq_false_iff_not, Bool.not_eq_true', Bool.not_eq_false', Bool.not_eq_true, Bool.not_eq_false, Option.isNone_none, Option.isNone_some, Option.isSome_none, Option.isSome_some, ne_eq, Decidable.not_not] at hc1
     have hx0 : x < 0 := hc1
     have hzn : (-(x + 1)) * 2 + 1 = ((zig x : Nat) : Int) := by
       unfold zig
       rw [if_pos hx0]
       omega
     refine WC.seq ?_
     refine WC.region ?_
     refine WL.val rfl rfl rfl rfl (r_move rfl (ev_t rfl)) ?_
     first | refine WL.val rfl rfl rfl rfl (r_addN rfl (ev_t rfl) ev_c (by simp only [inK]; omega)) ?_ | refine WL.val rfl rfl rfl rfl (r_add rfl (ev_t rfl) ev_c) ?_
     first | refine WL.val rfl rfl rfl rfl (r_negN rfl (ev_t rfl) (by simp only [inK]; omega)) ?_ | refine WL.val rfl rfl rfl rfl (r_neg rfl (ev_t rfl)) ?_
     try rw [wrap_i64_in (by omega) (by omega)]
     first | refine WL.val rfl rfl rfl rfl (r_convN rfl (ev_t rfl) some_2 int_63 (by simp only [inK]; omega)) ?_ | refine WL.val rfl rfl rfl rfl (r_conv rfl (ev_t rfl) some_2 int_63) ?_
     first | refine WL.val rfl rfl rfl rfl (r_mulN rfl (ev_t rfl) ev_c (by simp only [inK]; omega)) ?_ | refine WL.val rfl rfl rfl rfl (r_mul rfl (ev_t rfl) ev_c) ?_
     first | refine WL.val rfl rfl rfl rfl (r_addN rfl (ev_t rfl) ev_c (by simp only [inK]; omega)) ?_ | refine WL.val rfl rfl rfl rfl (r_add rfl (ev_t rfl) ev_c) ?_
     rw [hzn]
     refine WL.cons (SO.call (refUint_ok hz) rfl body_32 ⟨(ev_t rfl), trivial⟩ rfl rfl rfl rfl ?_)
     rintro v w1 ⟨ho, hu1⟩
     refine WL.val rfl rfl rfl rfl (r_assign rfl (ev_t rfl)) ?_
     refine WL.nil ?_
     refine WX.keep [(2, _)] ⟨rfl, trivial⟩ ?_
     refine WX.next ?_
     refine WC.ret ?_
     refine WX.thenRet ?_
     refine WX.retE1 rfl rfl ?_
     exact ⟨ho, hu1⟩
  · try (exfalso; first | (simp at hc1; done) | (simp only [decide_eq_true_eq, decide_eq_false_iff_not, Bool.not_eq_true', Bool.not_eq_false', Bool.not_eq_true, Bool.not_eq_false] at hc1; omega) | omega)
    all_goals
     try simp only [decide_eq_true_eq, decide_eq_false_iff_not, Bool.not_eq_true', Bool.not_eq_false', Bool.not_eq_true, Bool.not_eq_false, Option.isNone_none, Option.isNone_some, Option.isSome_none, Option.isSome_some, ne_eq, Decidable.not_not] at hc1
     have hx0 : ¬ x < 0 := hc1
     have hzn : x * 2 = ((zig x : Nat) : Int) := by
       unfold zig
       rw [if_neg hx0]
       omega
     refine WC.skip ?_
     refine WX.next ?_
     refine WC.seq ?_
     refine WC.region ?_
     refine WL.val rfl rfl rfl rfl (r_move rfl (ev_t rfl)) ?_
     first | refine WL.val rfl rfl rfl rfl (r_convN rfl (ev_t rfl) some_2 int_63 (by simp only [inK]; omega)) ?_ | refine WL.val rfl rfl rfl rfl (r_conv rfl (ev_t rfl) some_2 int_63) ?_
     first | refine WL.val rfl rfl rfl rfl (r_mulN rfl (ev_t rfl) ev_c (by simp only [inK]; omega)) ?_ | refine WL.val rfl rfl rfl rfl (r_mul rfl (ev_t rfl) ev_c) ?_
     rw [hzn]
     refine WL.cons (SO.call (refUint_ok hz) rfl body_32 ⟨(ev_t rfl), trivial⟩ rfl rfl rfl rfl ?_)
     rintro v w2 ⟨ho, hu2⟩
     refine WL.val rfl rfl rfl rfl (r_assign rfl (ev_t rfl)) ?_
     refine WL.nil ?_
     refine WX.keep [(2, _)] ⟨rfl, trivial⟩ ?_
     refine WX.next ?_
     refine WC.ret ?_
     refine WX.retE1 rfl rfl ?_
     exact ⟨ho, hu2⟩

theorem refBytes_ok {w : World} {F : Nat → Prop} {v : Value} {n : Nat} {b : List UInt8} (hr : Rd w F v n 1 (b.map U8)) (hb : b.length ≤ 140737488354000) :
    Ret Tryd.prog 34 #[v] w fun v w' => Own w' (New w w') 5 1 v (encU b.length ++ b).length ((encU b.length ++ b).map U8) ∧ Upd No w w' := by
  obtain ⟨A, c, rfl, hle⟩ := hr.slice_form
  have hn := hr.lenB
  subst hn
  have hx := encU_length b.length
  have hy : blen b.length ≤ 8 := blen_le (by omega)
  replace hr := hr.bound
  refine enterRet (vs := [_]) (N := 11) Tryd.func34 rfl rfl rfl ?_
  have hU := Upd.refl No w
  refine WC.keep [(0, _)] ⟨rfl, trivial⟩ ?_
  refine WC.seq ?_
  refine WC.region ?_
  refine WL.val rfl rfl rfl rfl (r_assign rfl ev_c) ?_
  refine WL.nil ?_
  refine WX.keep [(0, _)] ⟨rfl, trivial⟩ ?_
  refine WX.next ?_
  refine WC.seq ?_
  refine WC.region ?_
  refine WL.val rfl rfl rfl rfl (r_move rfl (ev_t rfl)) ?_
  refine WL.val rfl rfl rfl rfl (r_lenSlice (ts := #[]) rfl (ev_t rfl) elem_30) ?_
  first | refine WL.val rfl rfl rfl rfl (r_convN rfl (ev_t rfl) some_3 int_63 (by simp only [inK]; omega)) ?_ | refine WL.val rfl rfl rfl rfl (r_conv rfl (ev_t rfl) some_3 int_63) ?_
  refine WL.cons (SO.call (refUint_ok (n := b.length) (by omega)) rfl body_32 ⟨(ev_t rfl), trivial⟩ rfl rfl rfl rfl ?_)
  rintro v w1 ⟨ho, hu1⟩
  have hs1 := hu1.size
  replace hU := hU.transA hu1
  replace hr := hr.updA hu1
  refine WL.val rfl rfl rfl rfl (r_assign rfl (ev_t rfl)) ?_
  refine WL.nil ?_
  refine WX.keep [(0, _), (3, _)] ⟨rfl, rfl, trivial⟩ ?_
  refine WX.next ?_
  refine WC.seq ?_
  refine WC.region ?_
  refine WL.val rfl rfl rfl rfl (r_move rfl (ev_t rfl)) ?_
  refine WL.val rfl rfl rfl rfl (r_move rfl (ev_t rfl)) ?_
  refine WL.cons (SO.append ho hr row_30 (U8_one b) (le_maxLen (by omega)) (by omega) rfl (ev_t rfl) (ev_t rfl) rfl rfl rfl rfl ?_)
  intro v2 w2 ho hu2
  have hs2 := hu2.size
  replace hU := hU.transA hu2
  replace hr := hr.updA hu2
  obtain ⟨A2, c2, rfl, hc2⟩ := Own.form ho
  refine WL.val rfl rfl rfl rfl (r_assign rfl (ev_t rfl)) ?_
  refine WL.nil ?_
  refine WX.keep [(2, _)] ⟨rfl, trivial⟩ ?_
  refine WX.next ?_
  refine WC.ret ?_
  refine WX.retE1 rfl rfl ?_
  rw [← List.map_append] at ho
  refine ⟨?_, hU⟩
  rw [List.length_append]
  exact ho.mono (fun k hk => New.of hk (by omega) (by omega))
end Go.Proofs.YtipabhbnljadfaaDoor

/-
  The reference: functions into bytes.
-/
namespace Go.Proofs.YtipabhbnljadfaaDoor
open Go
set_option linter.unusedSimpArgs false
set_option linter.unusedVariables false

set_option maxHeartbeats 4000000 in
theorem rEncode_ok {w : World} {H : Nat → Prop} {v : Value} {l : List Fn} (hall : IsFs w H v l) (hs : ∀ f ∈ l, f.small) (h20 : l.length ≤ 20) :
    Ret Tryd.prog 19 #[v] w fun u w' => Own w' (New w w') 5 1 u (encF l).length ((encF l).map U8) ∧ Upd No w w' := by
  obtain ⟨V, hV, hVc, hVl⟩ := hall
  obtain ⟨Aa, ca, rfl, hca⟩ := hV.slice_form
  have hVn : V.length = l.length := by rw [← hVl, List.length_map]
  have hL0 := encU_len9c (n := l.length) (by omega)
  refine enterRet (vs := [_]) (N := 78) Tryd.func19 rfl rfl rfl ?_
  have hU := Upd.refl No w
  refine WC.keep [(0, _)] ⟨rfl, trivial⟩ ?_
  refine WC.seq ?_
  refine WC.region ?_
  refine WL.val rfl rfl rfl rfl (r_assign rfl ev_c) ?_
  refine WL.nil ?_
  refine WX.keep [(0, _)] ⟨rfl, trivial⟩ ?_
  refine WX.next ?_
  refine WC.seq ?_
  refine WC.region ?_
  refine WL.val rfl rfl rfl rfl (r_move rfl (ev_t rfl)) ?_
  refine WL.val rfl rfl rfl rfl (r_lenSlice (ts := #[]) rfl (ev_t rfl) elem_27) ?_
  first | refine WL.val rfl rfl rfl rfl (r_convN rfl (ev_t rfl) some_3 int_63 (by simp only [inK]; omega)) ?_ | refine WL.val rfl rfl rfl rfl (r_conv rfl (ev_t rfl) some_3 int_63) ?_
  refine WL.cons (SO.call (refUint_ok (n := V.length) (by omega)) rfl body_32 ⟨(ev_t rfl), trivial⟩ rfl rfl rfl rfl ?_)
  rintro v w1 ⟨hq, hu1⟩
  rw [hVn] at hq
  obtain ⟨Aq, cq, rfl, hcq⟩ := Own.form hq
  have hGk : ∀ k, New w w1 k → w.heap.size ≤ k ∧ k < w1.heap.size := fun k hk => by have := hU.size; simp only [New] at hk; omega
  have hs1 := hu1.size
  replace hU := hU.trans hu1 (by first | exact (fun _ _ h => h) | exact (fun _ _ h => h.elim) | (intro k hl hk; (try simp only [At, New, Grow, From, No] at hk ⊢); omega) | (intro k hl hk; first | (have := hGk k hk; omega) | ((try simp only [At, New, Grow, From, No] at *); omega)))
  refine WL.val rfl rfl rfl rfl (r_assign rfl (ev_t rfl)) ?_
  refine WL.nil ?_
  refine WX.keep [(0, _), (3, _)] ⟨rfl, rfl, trivial⟩ ?_
  refine WX.next ?_
  refine WC.seq ?_
  refine WC.seq ?_
  refine WC.region ?_
  refine WL.val rfl rfl rfl rfl (r_assign rfl ev_c) ?_
  refine WL.nil ?_
  refine WX.keep [(0, _), (3, _), (4, _)] ⟨rfl, rfl, rfl, trivial⟩ ?_
  refine WX.next ?_
  refine WC.block ?_
  -- loop 1: live [0, 3, 4]
  refine WC.keep [(0, _), (3, _), (4, _)] ⟨rfl, rfl, rfl, trivial⟩ ?_
  refine WC.loop (fun q E w' => ∃ (i : Nat) (A1 : Option Addr) (c1 : Nat) (G : Nat → Prop), i ≤ V.length ∧ q = V.length - i ∧ Upd No w w' ∧ Own w' G 5 1 (.slice A1 (encU l.length ++ (l.take i).flatMap encF1).length c1) (encU l.length ++ (l.take i).flatMap encF1).length ((encU l.length ++ (l.take i).flatMap encF1).map U8) ∧ (∀ k, G k → w.heap.size ≤ k ∧ k < w'.heap.size) ∧   E = [(0, .slice Aa V.length ca), (3, .slice A1 (encU l.length ++ (l.take i).flatMap encF1).length c1), (4, .int .i64 (i : Int))]) (V.length) ?_ ?_
  · exact ⟨0, Aq, cq, _, by omega, by omega, hU, by simpa using hq, hGk, by simp⟩
  · clear hU hq hGk
    rintro q E wA ⟨i, A1, c1, G, hi, rfl, hU, hq, hGk, rfl⟩
    have hw0 := hU.size
    refine WC.seq ?_
    refine WC.seq ?_
    refine WC.region ?_
    refine WL.val rfl rfl rfl rfl (r_move rfl (ev_t rfl)) ?_
    refine WL.val rfl rfl rfl rfl (r_move rfl (ev_t rfl)) ?_
    refine WL.val rfl rfl rfl rfl (r_lenSlice (ts := #[]) rfl (ev_t rfl) elem_27) ?_
    refine WL.val rfl rfl rfl rfl (r_lss rfl (ev_t rfl) (ev_t rfl)) ?_
    refine WL.nil ?_
    refine WX.keep [(0, _), (3, _), (4, _), (14, _)] ⟨rfl, rfl, rfl, rfl, trivial⟩ ?_
    refine WX.next ?_
    refine WC.cond rfl (ev_t rfl) (fun hc3 => ?_) (fun hc3 => ?_)
    · try (exfalso; first | (simp at hc3; done) | (simp only [decide_eq_true_eq, decide_eq_false_iff_not, Bool.not_eq_true', Bool.not_eq_false', Bool.not_eq_true, Bool.not_eq_false] at hc3; omega) | omega)
      all_goals
       try simp only [decide_eq_true_eq, decide_eq_false_iff_not, Bool.not_eq_true', Bool.not_eq_false', Bool.not_eq_true, Bool.not_eq_false, Option.isNone_none, Option.isNone_some, Option.isSome_none, Option.isSome_some, ne_eq, Decidable.not_not] at hc3
       obtain ⟨x, hx⟩ : ∃ x, V[i]? = some x := ⟨_, List.getElem?_eq_getElem (by omega)⟩
       have hcell := flatMap_get FnV.cells_len hx
       have hxa : l[i]? = some x.f := by rw [← hVl, List.getElem?_map, hx]; rfl
       have hxc := hVc x (List.mem_of_getElem? hx)
       have hxs := hs _ (List.mem_of_getElem? hxa)
       obtain ⟨ba, oa, rfl, _⟩ := hV.open (by omega)
       rcases x with ⟨⟨caps, code⟩, fv⟩
       simp only [FnV.cells] at hcell hxa hxc hxs
       obtain ⟨c0, c1', l1, is⟩ := hxs
       simp only at c0 c1' l1 is
       obtain ⟨cn, rfl⟩ : ∃ cn : Nat, caps = cn := ⟨caps.toNat, by omega⟩
       obtain ⟨Af, cf, rfl, hcf⟩ := hxc.slice_form
       have htk := takeF_len hs h20 i
       have he1 := encU_len9c (n := cn) (by omega)
       have he2 := encU_len9c (n := code.length) (by omega)
       have hXl : (encU l.length ++ (l.take i).flatMap encF1).length ≤ 4082009 := by rw [List.length_append]; omega
       generalize hX : encU l.length ++ (l.take i).flatMap encF1 = X at *
       refine WC.skip ?_
       refine WX.next ?_
       refine WC.seq ?_
       refine WC.block ?_
       refine WC.seq ?_
       refine WC.region ?_
       refine WL.val rfl rfl rfl rfl (r_move rfl (ev_t rfl)) ?_
       refine WL.val rfl rfl rfl rfl (r_move rfl (ev_t rfl)) ?_
       refine WL.val rfl rfl rfl rfl (r_move rfl (ev_t rfl)) ?_
       refine WL.val rfl rfl rfl rfl (r_indexAddr rfl (ev_t rfl) (ev_t rfl) elem_27 size_54 (by omega) (by omega)) ?_
       first | refine WL.val rfl rfl rfl rfl (r_field0 rfl (ev_t rfl) fld_54_0) ?_ | refine WL.val rfl rfl rfl rfl (r_fieldAt rfl (ev_t rfl) fld_54_0) ?_
       refine WL.val rfl rfl rfl rfl (r_load rfl (ev_t rfl) flat_3 (Rd.cell (hV.upd hU (fun _ _ _ h => h)) (j := i * 2) (by omega) (hcell 0 _ rfl))) ?_
       first | refine WL.val rfl rfl rfl rfl (r_convN rfl (ev_t rfl) some_3 int_63 (by simp only [inK]; omega)) ?_ | refine WL.val rfl rfl rfl rfl (r_conv rfl (ev_t rfl) some_3 int_63) ?_
       refine WL.cons (SO.call (refUint_ok (n := cn) (by omega)) rfl body_32 ⟨(ev_t rfl), trivial⟩ rfl rfl rfl rfl ?_)
       rintro v w2 ⟨he, hu2⟩
       have hs2 := hu2.size
       replace hU := hU.trans hu2 (by first | exact (fun _ _ h => h) | exact (fun _ _ h => h.elim) | (intro k hl hk; (try simp only [At, New, Grow, From, No] at hk ⊢); omega) | (intro k hl hk; first | (have := hGk k hk; omega) | ((try simp only [At, New, Grow, From, No] at *); omega)))
       replace hq := hq.upd hu2 (by first | exact (fun _ _ _ h => h) | (intro k hk hl hS; have := hGk k hk; simp only [At, No] at hS; omega))
       replace hGk : ∀ k, G k → w.heap.size ≤ k ∧ k < w2.heap.size := fun k hk => by have := hGk k hk; have := hu2.size; omega
       refine WL.cons (SO.append hq (he.rd (by omega)) row_30 (U8_one _) (le_maxLen (by omega)) (by omega) rfl (ev_t rfl) (ev_t rfl) rfl rfl rfl rfl ?_)
       intro v3 w3 hq hu3
       have hs3 := hu3.size
       replace hU := hU.trans hu3 (by first | exact (fun _ _ h => h) | exact (fun _ _ h => h.elim) | (intro k hl hk; (try simp only [At, New, Grow, From, No] at hk ⊢); omega) | (intro k hl hk; first | (have := hGk k hk; omega) | ((try simp only [At, New, Grow, From, No] at *); omega)))
       obtain ⟨A3, c3, rfl, hc3⟩ := Own.form hq
       rw [← List.map_append] at hq
       obtain ⟨G, hq, hGk⟩ : ∃ G1 : Nat → Prop, Own w3 G1 5 1 _ _ _ ∧ ∀ k, G1 k → w.heap.size ≤ k ∧ k < w3.heap.size := ⟨_, hq, fun k hk => by have := hu3.size; rcases hk with hk | hk; (have := hGk k hk; omega); omega⟩
       refine WL.val rfl rfl rfl rfl (r_assign rfl (ev_t rfl)) ?_
       refine WL.nil ?_
       refine WX.keep [(0, _), (3, _), (4, _)] ⟨rfl, rfl, rfl, trivial⟩ ?_
       refine WX.next ?_
       refine WC.seq ?_
       refine WC.region ?_
       refine WL.val rfl rfl rfl rfl (r_move rfl (ev_t rfl)) ?_
       refine WL.val rfl rfl rfl rfl (r_move rfl (ev_t rfl)) ?_
       refine WL.val rfl rfl rfl rfl (r_move rfl (ev_t rfl)) ?_
       refine WL.val rfl rfl rfl rfl (r_indexAddr rfl (ev_t rfl) (ev_t rfl) elem_27 size_54 (by omega) (by omega)) ?_
       first | refine WL.val rfl rfl rfl rfl (r_field0 rfl (ev_t rfl) fld_54_1) ?_ | refine WL.val rfl rfl rfl rfl (r_fieldAt rfl (ev_t rfl) fld_54_1) ?_
       refine WL.val rfl rfl rfl rfl (r_load rfl (ev_t rfl) flat_52 (Rd.cell (hV.upd hU (fun _ _ _ h => h)) (j := i * 2 + 1) (by omega) (hcell 1 _ rfl))) ?_
       refine WL.val rfl rfl rfl rfl (r_lenSlice (ts := #[]) rfl (ev_t rfl) elem_52) ?_
       first | refine WL.val rfl rfl rfl rfl (r_convN rfl (ev_t rfl) some_3 int_63 (by simp only [inK]; omega)) ?_ | refine WL.val rfl rfl rfl rfl (r_conv rfl (ev_t rfl) some_3 int_63) ?_
       refine WL.cons (SO.call (refUint_ok (n := code.length) (by omega)) rfl body_32 ⟨(ev_t rfl), trivial⟩ rfl rfl rfl rfl ?_)
       rintro v w4 ⟨he, hu4⟩
       have hs4 := hu4.size
       replace hU := hU.trans hu4 (by first | exact (fun _ _ h => h) | exact (fun _ _ h => h.elim) | (intro k hl hk; (try simp only [At, New, Grow, From, No] at hk ⊢); omega) | (intro k hl hk; first | (have := hGk k hk; omega) | ((try simp only [At, New, Grow, From, No] at *); omega)))
       replace hq := hq.upd hu4 (by first | exact (fun _ _ _ h => h) | (intro k hk hl hS; have := hGk k hk; simp only [At, No] at hS; omega))
       replace hGk : ∀ k, G k → w.heap.size ≤ k ∧ k < w4.heap.size := fun k hk => by have := hGk k hk; have := hu4.size; omega
       refine WL.cons (SO.append hq (he.rd (by omega)) row_30 (U8_one _) (le_maxLen (by omega)) (by omega) rfl (ev_t rfl) (ev_t rfl) rfl rfl rfl rfl ?_)
       intro v5 w5 hq hu5
       have hs5 := hu5.size
       replace hU := hU.trans hu5 (by first | exact (fun _ _ h => h) | exact (fun _ _ h => h.elim) | (intro k hl hk; (try simp only [At, New, Grow, From, No] at hk ⊢); omega) | (intro k hl hk; first | (have := hGk k hk; omega) | ((try simp only [At, New, Grow, From, No] at *); omega)))
       obtain ⟨A5, c5, rfl, hc5⟩ := Own.form hq
       rw [← List.map_append] at hq
       obtain ⟨G, hq, hGk⟩ : ∃ G1 : Nat → Prop, Own w5 G1 5 1 _ _ _ ∧ ∀ k, G1 k → w.heap.size ≤ k ∧ k < w5.heap.size := ⟨_, hq, fun k hk => by have := hu5.size; rcases hk with hk | hk; (have := hGk k hk; omega); omega⟩
       refine WL.val rfl rfl rfl rfl (r_assign rfl (ev_t rfl)) ?_
       refine WL.nil ?_
       refine WX.keep [(0, _), (3, _), (4, _)] ⟨rfl, rfl, rfl, trivial⟩ ?_
       refine WX.next ?_
       refine WC.seq ?_
       refine WC.region ?_
       refine WL.val rfl rfl rfl rfl (r_assign rfl ev_c) ?_
       refine WL.nil ?_
       refine WX.keep [(0, _), (3, _), (4, _), (5, _)] ⟨rfl, rfl, rfl, rfl, trivial⟩ ?_
       refine WX.next ?_
       refine WC.block ?_
       -- loop 2: live [0, 3, 4, 5]
       refine WC.keep [(0, _), (3, _), (4, _), (5, _)] ⟨rfl, rfl, rfl, rfl, trivial⟩ ?_
       refine WC.loop (fun q E w' => ∃ (j : Nat) (A1 : Option Addr) (c1 : Nat) (G : Nat → Prop) (Y : List UInt8), j ≤ code.length ∧ q = code.length - j ∧ Upd No w w' ∧ Y = X ++ encU cn ++ encU code.length ++ (code.take j).flatMap encI ∧ Own w' G 5 1 (.slice A1 Y.length c1) Y.length (Y.map U8) ∧ (∀ k, G k → w.heap.size ≤ k ∧ k < w'.heap.size) ∧   E = [(0, .slice (some ⟨ba, oa, none⟩) V.length ca), (3, .slice A1 Y.length c1), (4, .int .i64 (i : Int)), (5, .int .i64 (j : Int))]) (code.length) ?_ ?_
       · refine ⟨0, A5, c5, G, X ++ encU cn ++ encU code.length, by omega, by omega, hU, by simp, ?_, hGk, ?_⟩
         · rw [List.length_append, List.length_append]; exact hq
         · rw [List.length_append, List.length_append]; rfl
       · clear hU hq hGk
         rintro q E wB ⟨j, A1, c1, G, Y, hj, rfl, hU, hY, hq, hGk, rfl⟩
         have hwB := hU.size
         refine WC.seq ?_
         refine WC.seq ?_
         refine WC.region ?_
         refine WL.val rfl rfl rfl rfl (r_move rfl (ev_t rfl)) ?_
         refine WL.val rfl rfl rfl rfl (r_move rfl (ev_t rfl)) ?_
         refine WL.val rfl rfl rfl rfl (r_move rfl (ev_t rfl)) ?_
         refine WL.val rfl rfl rfl rfl (r_indexAddr rfl (ev_t rfl) (ev_t rfl) elem_27 size_54 (by omega) (by omega)) ?_
         first | refine WL.val rfl rfl rfl rfl (r_field0 rfl (ev_t rfl) fld_54_1) ?_ | refine WL.val rfl rfl rfl rfl (r_fieldAt rfl (ev_t rfl) fld_54_1) ?_
         refine WL.val rfl rfl rfl rfl (r_load rfl (ev_t rfl) flat_52 (Rd.cell (hV.upd hU (fun _ _ _ h => h)) (j := i * 2 + 1) (by omega) (hcell 1 _ rfl))) ?_
         refine WL.val rfl rfl rfl rfl (r_lenSlice (ts := #[]) rfl (ev_t rfl) elem_52) ?_
         refine WL.val rfl rfl rfl rfl (r_lss rfl (ev_t rfl) (ev_t rfl)) ?_
         refine WL.nil ?_
         refine WX.keep [(0, _), (3, _), (4, _), (5, _), (43, _)] ⟨rfl, rfl, rfl, rfl, rfl, trivial⟩ ?_
         refine WX.next ?_
         refine WC.cond rfl (ev_t rfl) (fun hc8 => ?_) (fun hc8 => ?_)
         · try (exfalso; first | (simp at hc8; done) | (simp only [decide_eq_true_eq, decide_eq_false_iff_not, Bool.not_eq_true', Bool.not_eq_false', Bool.not_eq_true, Bool.not_eq_false] at hc8; omega) | omega)
           all_goals
            try simp only [decide_eq_true_eq, decide_eq_false_iff_not, Bool.not_eq_true', Bool.not_eq_false', Bool.not_eq_true, Bool.not_eq_false, Option.isNone_none, Option.isNone_some, Option.isSome_none, Option.isSome_some, ne_eq, Decidable.not_not] at hc8
            obtain ⟨e, he0⟩ : ∃ e, code[j]? = some e := ⟨_, List.getElem?_eq_getElem (by omega)⟩
            have hec := flatMap_get insC_len he0
            have hes := is e (List.mem_of_getElem? he0)
            obtain ⟨bc, oc, rfl, _⟩ := hxc.open (by omega)
            have htc := takeC_len is l1 j
            rcases e with ⟨op, x, a, s⟩
            obtain ⟨⟨o1, o2, o3, o4⟩, a0, a1, s2⟩ := hes
            simp only [inK] at o1 o2 o3 o4 a0 a1 s2
            obtain ⟨an, rfl⟩ : ∃ an : Nat, a = an := ⟨a.toNat, by omega⟩
            have hf1 := encU_len9c (n := op) (by omega)
            have hf2 := encU_len9c (zig_lt o2.1 o2.2)
            have hf3 := encU_len9c (n := an) (by omega)
            have hf4 := encU_len9c (n := s.length) (by omega)
            have hsz : (⟨s.toArray⟩ : ByteArray).size = s.length := by simp [ByteArray.size]
            have hBl : (encU s.length ++ s).length = (encU s.length).length + s.length := List.length_append
            have hYl : Y.length ≤ 4500000 := by rw [hY]; simp only [List.length_append]; omega
            refine WC.skip ?_
            refine WX.next ?_
            refine WC.seq ?_
            refine WC.block ?_
            refine WC.seq ?_
            refine WC.region ?_
            refine WL.val rfl rfl rfl rfl (r_move rfl (ev_t rfl)) ?_
            refine WL.val rfl rfl rfl rfl (r_move rfl (ev_t rfl)) ?_
            refine WL.val rfl rfl rfl rfl (r_indexAddr rfl (ev_t rfl) (ev_t rfl) elem_27 size_54 (by omega) (by omega)) ?_
            first | refine WL.val rfl rfl rfl rfl (r_field0 rfl (ev_t rfl) fld_54_1) ?_ | refine WL.val rfl rfl rfl rfl (r_fieldAt rfl (ev_t rfl) fld_54_1) ?_
            refine WL.val rfl rfl rfl rfl (r_load rfl (ev_t rfl) flat_52 (Rd.cell (hV.upd hU (fun _ _ _ h => h)) (j := i * 2 + 1) (by omega) (hcell 1 _ rfl))) ?_
            refine WL.val rfl rfl rfl rfl (r_move rfl (ev_t rfl)) ?_
            refine WL.val rfl rfl rfl rfl (r_indexAddr rfl (ev_t rfl) (ev_t rfl) elem_52 size_55 (by omega) (by omega)) ?_
            refine WL.val rfl rfl rfl rfl (r_loadAgg (vs := [_, _, _, _]) rfl (ev_t rfl) agg_55 size_55 (Rd.cellsL (us := [.int .u8 (op : Int), .int .i64 x, .int .i64 (an : Int), .string ⟨s.toArray⟩]) (hxc.upd hU (fun _ _ _ h => h)) (i := j * 4) (by omega) hec)) ?_
            refine WL.cons (SO.alloc rfl rfl rfl rfl (r_alloc rfl zero_55) ?_)
            intro w6 hu6 hB6 hz6
            have hs6 := hu6.size
            replace hU := hU.trans hu6 (by first | exact (fun _ _ h => h) | exact (fun _ _ h => h.elim) | (intro k hl hk; (try simp only [At, New, Grow, From, No] at hk ⊢); omega) | (intro k hl hk; first | (have := hGk k hk; omega) | ((try simp only [At, New, Grow, From, No] at *); omega)))
            replace hq := hq.upd hu6 (by first | exact (fun _ _ _ h => h) | (intro k hk hl hS; have := hGk k hk; simp only [At, No] at hS; omega))
            refine WL.cons (SO.storeAll (us := [_, _, _, _]) rfl (ev_t rfl) (ev_t rfl) size_55 hB6 rfl rfl rfl rfl rfl ?_)
            intro w7 hu7 hB6 hz7
            have hs7 := hu7.size
            replace hU := hU.trans hu7 (by first | exact (fun _ _ h => h) | exact (fun _ _ h => h.elim) | (intro k hl hk; (try simp only [At, New, Grow, From, No] at hk ⊢); omega) | (intro k hl hk; first | (have := hGk k hk; omega) | ((try simp only [At, New, Grow, From, No] at *); omega)))
            replace hq := hq.upd hu7 (by first | exact (fun _ _ _ h => h) | (intro k hk hl hS; have := hGk k hk; simp only [At, No] at hS; omega))
            refine WL.nil ?_
            refine WX.keep [(0, _), (3, _), (4, _), (5, _), (6, _)] ⟨rfl, rfl, rfl, rfl, rfl, trivial⟩ ?_
            have hbi : Blk w7 wB.heap.size #[.int .u8 (op : Int), .int .i64 x, .int .i64 (an : Int), .string ⟨s.toArray⟩] 55 := hB6
            obtain ⟨bi, hbie⟩ : ∃ bi, bi = wB.heap.size := ⟨_, rfl⟩
            have hGf : ∀ k, G k → k ≠ bi := fun k hk => by have := hGk k hk; omega
            rw [← hbie] at hbi ⊢
            have hbi1 := hbi.lt
            replace hGk : ∀ k, G k → w.heap.size ≤ k ∧ k < w7.heap.size := fun k hk => by have := hGk k hk; omega
            refine WX.next ?_
            refine WC.seq ?_
            refine WC.region ?_
            refine WL.val rfl rfl rfl rfl (r_move rfl (ev_t rfl)) ?_
            first | refine WL.val rfl rfl rfl rfl (r_field0 rfl (ev_t rfl) fld_55_0) ?_ | refine WL.val rfl rfl rfl rfl (r_fieldAt rfl (ev_t rfl) fld_55_0) ?_
            refine WL.val rfl rfl rfl rfl (r_load rfl (ev_t rfl) flat_5 (Blk.cell hbi rfl)) ?_
            first | refine WL.val rfl rfl rfl rfl (r_convN rfl (ev_t rfl) some_5 int_63 (by simp only [inK]; omega)) ?_ | refine WL.val rfl rfl rfl rfl (r_conv rfl (ev_t rfl) some_5 int_63) ?_
            refine WL.cons (SO.call (refUint_ok (n := op) (by omega)) rfl body_32 ⟨(ev_t rfl), trivial⟩ rfl rfl rfl rfl ?_)
            rintro v w8 ⟨he, hu8⟩
            have hs8 := hu8.size
            replace hU := hU.trans hu8 (by first | exact (fun _ _ h => h) | exact (fun _ _ h => h.elim) | (intro k hl hk; (try simp only [At, New, Grow, From, No] at hk ⊢); omega) | (intro k hl hk; first | (have := hGk k hk; omega) | ((try simp only [At, New, Grow, From, No] at *); omega)))
            replace hq := hq.upd hu8 (by first | exact (fun _ _ _ h => h) | (intro k hk hl hS; have := hGk k hk; simp only [At, No] at hS; omega))
            replace hbi := hbi.upd hu8 (by first | exact (fun h => h) | exact (fun h => hGf _ h rfl) | (simp only [At, No]; omega))
            replace hGk : ∀ k, G k → w.heap.size ≤ k ∧ k < w8.heap.size := fun k hk => by have := hGk k hk; have := hu8.size; omega
            refine WL.cons (SO.append hq (he.rd (by omega)) row_30 (U8_one _) (le_maxLen (by omega)) (by omega) rfl (ev_t rfl) (ev_t rfl) rfl rfl rfl rfl ?_)
            intro v9 w9 hq hu9
            have hs9 := hu9.size
            replace hU := hU.trans hu9 (by first | exact (fun _ _ h => h) | exact (fun _ _ h => h.elim) | (intro k hl hk; (try simp only [At, New, Grow, From, No] at hk ⊢); omega) | (intro k hl hk; first | (have := hGk k hk; omega) | ((try simp only [At, New, Grow, From, No] at *); omega)))
            replace hbi := hbi.upd hu9 (by first | exact (fun h => h) | exact (fun h => hGf _ h rfl) | (simp only [At, No]; omega))
            obtain ⟨A9, c9, rfl, hc9⟩ := Own.form hq
            rw [← List.map_append] at hq
            obtain ⟨G, hq, hGk, hGf⟩ : ∃ G1 : Nat → Prop, Own w9 G1 5 1 _ _ _ ∧ (∀ k, G1 k → w.heap.size ≤ k ∧ k < w9.heap.size) ∧ ∀ k, G1 k → k ≠ bi := ⟨_, hq, fun k hk => by have := hu9.size; rcases hk with hk | hk; (have := hGk k hk; omega); omega, fun k hk => by rcases hk with hk | hk; exact hGf k hk; omega⟩
            refine WL.val rfl rfl rfl rfl (r_assign rfl (ev_t rfl)) ?_
            refine WL.nil ?_
            refine WX.keep [(0, _), (3, _), (4, _), (5, _), (6, _)] ⟨rfl, rfl, rfl, rfl, rfl, trivial⟩ ?_
            refine WX.next ?_
            refine WC.seq ?_
            refine WC.region ?_
            refine WL.val rfl rfl rfl rfl (r_move rfl (ev_t rfl)) ?_
            first | refine WL.val rfl rfl rfl rfl (r_field0 rfl (ev_t rfl) fld_55_1) ?_ | refine WL.val rfl rfl rfl rfl (r_fieldAt rfl (ev_t rfl) fld_55_1) ?_
            refine WL.val rfl rfl rfl rfl (r_load rfl (ev_t rfl) flat_2 (Blk.cell hbi rfl)) ?_
            refine WL.cons (SO.call (refInt_ok o2.1 o2.2) rfl body_33 ⟨(ev_t rfl), trivial⟩ rfl rfl rfl rfl ?_)
            rintro v w10 ⟨he, hu10⟩
            have hs10 := hu10.size
            replace hU := hU.trans hu10 (by first | exact (fun _ _ h => h) | exact (fun _ _ h => h.elim) | (intro k hl hk; (try simp only [At, New, Grow, From, No] at hk ⊢); omega) | (intro k hl hk; first | (have := hGk k hk; omega) | ((try simp only [At, New, Grow, From, No] at *); omega)))
            replace hq := hq.upd hu10 (by first | exact (fun _ _ _ h => h) | (intro k hk hl hS; have := hGk k hk; simp only [At, No] at hS; omega))
            replace hbi := hbi.upd hu10 (by first | exact (fun h => h) | exact (fun h => hGf _ h rfl) | (simp only [At, No]; omega))
            replace hGk : ∀ k, G k → w.heap.size ≤ k ∧ k < w10.heap.size := fun k hk => by have := hGk k hk; have := hu10.size; omega
            refine WL.cons (SO.append hq (he.rd (by omega)) row_30 (U8_one _) (le_maxLen (by omega)) (by omega) rfl (ev_t rfl) (ev_t rfl) rfl rfl rfl rfl ?_)
            intro v11 w11 hq hu11
            have hs11 := hu11.size
            replace hU := hU.trans hu11 (by first | exact (fun _ _ h => h) | exact (fun _ _ h => h.elim) | (intro k hl hk; (try simp only [At, New, Grow, From, No] at hk ⊢); omega) | (intro k hl hk; first | (have := hGk k hk; omega) | ((try simp only [At, New, Grow, From, No] at *); omega)))
            replace hbi := hbi.upd hu11 (by first | exact (fun h => h) | exact (fun h => hGf _ h rfl) | (simp only [At, No]; omega))
            obtain ⟨A11, c11, rfl, hc11⟩ := Own.form hq
            rw [← List.map_append] at hq
            obtain ⟨G, hq, hGk, hGf⟩ : ∃ G1 : Nat → Prop, Own w11 G1 5 1 _ _ _ ∧ (∀ k, G1 k → w.heap.size ≤ k ∧ k < w11.heap.size) ∧ ∀ k, G1 k → k ≠ bi := ⟨_, hq, fun k hk => by have := hu11.size; rcases hk with hk | hk; (have := hGk k hk; omega); omega, fun k hk => by rcases hk with hk | hk; exact hGf k hk; omega⟩
            refine WL.val rfl rfl rfl rfl (r_assign rfl (ev_t rfl)) ?_
            refine WL.nil ?_
            refine WX.keep [(0, _), (3, _), (4, _), (5, _), (6, _)] ⟨rfl, rfl, rfl, rfl, rfl, trivial⟩ ?_
            refine WX.next ?_
            refine WC.seq ?_
            refine WC.region ?_
            refine WL.val rfl rfl rfl rfl (r_move rfl (ev_t rfl)) ?_
            first | refine WL.val rfl rfl rfl rfl (r_field0 rfl (ev_t rfl) fld_55_2) ?_ | refine WL.val rfl rfl rfl rfl (r_fieldAt rfl (ev_t rfl) fld_55_2) ?_
            refine WL.val rfl rfl rfl rfl (r_load rfl (ev_t rfl) flat_3 (Blk.cell hbi rfl)) ?_
            first | refine WL.val rfl rfl rfl rfl (r_convN rfl (ev_t rfl) some_3 int_63 (by simp only [inK]; omega)) ?_ | refine WL.val rfl rfl rfl rfl (r_conv rfl (ev_t rfl) some_3 int_63) ?_
            refine WL.cons (SO.call (refUint_ok (n := an) (by omega)) rfl body_32 ⟨(ev_t rfl), trivial⟩ rfl rfl rfl rfl ?_)
            rintro v w12 ⟨he, hu12⟩
            have hs12 := hu12.size
            replace hU := hU.trans hu12 (by first | exact (fun _ _ h => h) | exact (fun _ _ h => h.elim) | (intro k hl hk; (try simp only [At, New, Grow, From, No] at hk ⊢); omega) | (intro k hl hk; first | (have := hGk k hk; omega) | ((try simp only [At, New, Grow, From, No] at *); omega)))
            replace hq := hq.upd hu12 (by first | exact (fun _ _ _ h => h) | (intro k hk hl hS; have := hGk k hk; simp only [At, No] at hS; omega))
            replace hbi := hbi.upd hu12 (by first | exact (fun h => h) | exact (fun h => hGf _ h rfl) | (simp only [At, No]; omega))
            replace hGk : ∀ k, G k → w.heap.size ≤ k ∧ k < w12.heap.size := fun k hk => by have := hGk k hk; have := hu12.size; omega
            refine WL.cons (SO.append hq (he.rd (by omega)) row_30 (U8_one _) (le_maxLen (by omega)) (by omega) rfl (ev_t rfl) (ev_t rfl) rfl rfl rfl rfl ?_)
            intro v13 w13 hq hu13
            have hs13 := hu13.size
            replace hU := hU.trans hu13 (by first | exact (fun _ _ h => h) | exact (fun _ _ h => h.elim) | (intro k hl hk; (try simp only [At, New, Grow, From, No] at hk ⊢); omega) | (intro k hl hk; first | (have := hGk k hk; omega) | ((try simp only [At, New, Grow, From, No] at *); omega)))
            replace hbi := hbi.upd hu13 (by first | exact (fun h => h) | exact (fun h => hGf _ h rfl) | (simp only [At, No]; omega))
            obtain ⟨A13, c13, rfl, hc13⟩ := Own.form hq
            rw [← List.map_append] at hq
            obtain ⟨G, hq, hGk, hGf⟩ : ∃ G1 : Nat → Prop, Own w13 G1 5 1 _ _ _ ∧ (∀ k, G1 k → w.heap.size ≤ k ∧ k < w13.heap.size) ∧ ∀ k, G1 k → k ≠ bi := ⟨_, hq, fun k hk => by have := hu13.size; rcases hk with hk | hk; (have := hGk k hk; omega); omega, fun k hk => by rcases hk with hk | hk; exact hGf k hk; omega⟩
            refine WL.val rfl rfl rfl rfl (r_assign rfl (ev_t rfl)) ?_
            refine WL.nil ?_
            refine WX.keep [(0, _), (3, _), (4, _), (5, _), (6, _)] ⟨rfl, rfl, rfl, rfl, rfl, trivial⟩ ?_
            refine WX.next ?_
            refine WC.region ?_
            refine WL.val rfl rfl rfl rfl (r_move rfl (ev_t rfl)) ?_
            first | refine WL.val rfl rfl rfl rfl (r_field0 rfl (ev_t rfl) fld_55_3) ?_ | refine WL.val rfl rfl rfl rfl (r_fieldAt rfl (ev_t rfl) fld_55_3) ?_
            refine WL.val rfl rfl rfl rfl (r_load rfl (ev_t rfl) flat_9 (Blk.cell hbi rfl)) ?_
            refine WL.cons (SO.toBytes rfl (ev_t rfl) str_9 elem_30 int_5 (by omega) rfl rfl rfl rfl ?_)
            intro A14 c14 w14 hR14 hu14
            have hs14 := hu14.size
            replace hU := hU.trans hu14 (by first | exact (fun _ _ h => h) | exact (fun _ _ h => h.elim) | (intro k hl hk; (try simp only [At, New, Grow, From, No] at hk ⊢); omega) | (intro k hl hk; first | (have := hGk k hk; omega) | ((try simp only [At, New, Grow, From, No] at *); omega)))
            replace hq := hq.upd hu14 (by first | exact (fun _ _ _ h => h) | (intro k hk hl hS; have := hGk k hk; simp only [At, No] at hS; omega))
            replace hbi := hbi.upd hu14 (by first | exact (fun h => h) | exact (fun h => hGf _ h rfl) | (simp only [At, No]; omega))
            rw [show (⟨s.toArray⟩ : ByteArray).toList = s from by simp [ByteArray.toList_eq]] at hR14
            refine WL.cons (SO.call (refBytes_ok hR14 (by omega)) rfl body_34 ⟨(ev_t rfl), trivial⟩ rfl rfl rfl rfl ?_)
            rintro v w15 ⟨he, hu15⟩
            have hs15 := hu15.size
            replace hU := hU.trans hu15 (by first | exact (fun _ _ h => h) | exact (fun _ _ h => h.elim) | (intro k hl hk; (try simp only [At, New, Grow, From, No] at hk ⊢); omega) | (intro k hl hk; first | (have := hGk k hk; omega) | ((try simp only [At, New, Grow, From, No] at *); omega)))
            replace hq := hq.upd hu15 (by first | exact (fun _ _ _ h => h) | (intro k hk hl hS; have := hGk k hk; simp only [At, No] at hS; omega))
            replace hbi := hbi.upd hu15 (by first | exact (fun h => h) | exact (fun h => hGf _ h rfl) | (simp only [At, No]; omega))
            replace hR14 := hR14.upd hu15 (fun _ _ _ h => h.elim)
            replace hGk : ∀ k, G k → w.heap.size ≤ k ∧ k < w15.heap.size := fun k hk => by have := hGk k hk; have := hu15.size; omega
            refine WL.cons (SO.append hq (he.rd (by omega)) row_30 (U8_one _) (le_maxLen (by omega)) (by omega) rfl (ev_t rfl) (ev_t rfl) rfl rfl rfl rfl ?_)
            intro v16 w16 hq hu16
            have hs16 := hu16.size
            replace hU := hU.trans hu16 (by first | exact (fun _ _ h => h) | exact (fun _ _ h => h.elim) | (intro k hl hk; (try simp only [At, New, Grow, From, No] at hk ⊢); omega) | (intro k hl hk; first | (have := hGk k hk; omega) | ((try simp only [At, New, Grow, From, No] at *); omega)))
            replace hbi := hbi.upd hu16 (by first | exact (fun h => h) | exact (fun h => hGf _ h rfl) | (simp only [At, No]; omega))
            obtain ⟨A16, c16, rfl, hc16⟩ := Own.form hq
            rw [← List.map_append] at hq
            obtain ⟨G, hq, hGk⟩ : ∃ G1 : Nat → Prop, Own w16 G1 5 1 _ _ _ ∧ ∀ k, G1 k → w.heap.size ≤ k ∧ k < w16.heap.size := ⟨_, hq, fun k hk => by have := hu16.size; rcases hk with hk | hk; (have := hGk k hk; omega); omega⟩
            refine WL.val rfl rfl rfl rfl (r_assign rfl (ev_t rfl)) ?_
            refine WL.nil ?_
            refine WX.keep [(0, _), (3, _), (4, _), (5, _)] ⟨rfl, rfl, rfl, rfl, trivial⟩ ?_
            refine WX.blockNormal ?_
            refine WX.next ?_
            refine WC.region ?_
            refine WL.val rfl rfl rfl rfl (r_move rfl (ev_t rfl)) ?_
            first | refine WL.val rfl rfl rfl rfl (r_addN rfl (ev_t rfl) ev_c (by simp only [inK]; omega)) ?_ | refine WL.val rfl rfl rfl rfl (r_add rfl (ev_t rfl) ev_c) ?_
            refine WL.val rfl rfl rfl rfl (r_assign rfl (ev_t rfl)) ?_
            refine WL.nil ?_
            refine WX.keep [(0, _), (3, _), (4, _), (5, _)] ⟨rfl, rfl, rfl, rfl, trivial⟩ ?_
            refine WX.meet [(0, _), (3, _), (4, _), (5, _)] ⟨rfl, rfl, rfl, rfl, trivial⟩ ?_
            have hY2 : X ++ encU cn ++ encU code.length ++ (code.take (j + 1)).flatMap encI = Y ++ encU op ++ encU (zig x) ++ encU an ++ (encU s.length ++ s) := by
              rw [takeF_flat he0, hY]
              simp only [encI, List.append_assoc, Int.toNat_natCast]
            refine ⟨code.length - (j + 1), by omega, j + 1, A16, c16, G, _, by omega, rfl, hU, hY2.symm, ?_, hGk, ?_⟩
            · simp only [List.length_append] at hq ⊢; exact hq
            · simp only [List.length_append]; rfl
         · try (exfalso; first | (simp at hc8; done) | (simp only [decide_eq_true_eq, decide_eq_false_iff_not, Bool.not_eq_true', Bool.not_eq_false', Bool.not_eq_true, Bool.not_eq_false] at hc8; omega) | omega)
           all_goals
            try simp only [decide_eq_true_eq, decide_eq_false_iff_not, Bool.not_eq_true', Bool.not_eq_false', Bool.not_eq_true, Bool.not_eq_false, Option.isNone_none, Option.isNone_some, Option.isSome_none, Option.isSome_some, ne_eq, Decidable.not_not] at hc8
            obtain rfl : j = code.length := by omega
            rw [List.take_length] at hY
            refine WC.exit ?_
            refine WX.thenExit ?_
            refine WX.thenExit ?_
            refine WX.blockHere ?_
            refine WX.blockNormal ?_
            refine WX.next ?_
            refine WC.region ?_
            refine WL.val rfl rfl rfl rfl (r_move rfl (ev_t rfl)) ?_
            first | refine WL.val rfl rfl rfl rfl (r_addN rfl (ev_t rfl) ev_c (by simp only [inK]; omega)) ?_ | refine WL.val rfl rfl rfl rfl (r_add rfl (ev_t rfl) ev_c) ?_
            refine WL.val rfl rfl rfl rfl (r_assign rfl (ev_t rfl)) ?_
            refine WL.nil ?_
            refine WX.keep [(0, _), (3, _), (4, _)] ⟨rfl, rfl, rfl, trivial⟩ ?_
            refine WX.meet [(0, _), (3, _), (4, _)] ⟨rfl, rfl, rfl, trivial⟩ ?_
            have hX2 : encU l.length ++ (l.take (i + 1)).flatMap encF1 = Y := by
              rw [takeF_flat hxa, hY, ← hX]
              simp only [encF1, encC, List.append_assoc, Int.toNat_natCast]
            refine ⟨V.length - (i + 1), by omega, i + 1, A1, c1, G, by omega, rfl, hU, ?_, hGk, ?_⟩
            · rw [hX2]; exact hq
            · rw [hX2]; rfl
    · try (exfalso; first | (simp at hc3; done) | (simp only [decide_eq_true_eq, decide_eq_false_iff_not, Bool.not_eq_true', Bool.not_eq_false', Bool.not_eq_true, Bool.not_eq_false] at hc3; omega) | omega)
      all_goals
       try simp only [decide_eq_true_eq, decide_eq_false_iff_not, Bool.not_eq_true', Bool.not_eq_false', Bool.not_eq_true, Bool.not_eq_false, Option.isNone_none, Option.isNone_some, Option.isSome_none, Option.isSome_some, ne_eq, Decidable.not_not] at hc3
       obtain rfl : i = V.length := by omega
       rw [hVn, List.take_length] at hq
       refine WC.exit ?_
       refine WX.thenExit ?_
       refine WX.thenExit ?_
       refine WX.blockHere ?_
       refine WX.next ?_
       refine WC.seq ?_
       refine WC.region ?_
       refine WL.val rfl rfl rfl rfl (r_move rfl (ev_t rfl)) ?_
       refine WL.val rfl rfl rfl rfl (r_assign rfl (ev_t rfl)) ?_
       refine WL.nil ?_
       refine WX.keep [(2, _)] ⟨rfl, trivial⟩ ?_
       refine WX.next ?_
       refine WC.ret ?_
       refine WX.retE1 rfl rfl ?_
       refine ⟨?_, hU⟩
       rw [hVn, List.take_length]
       exact hq.mono fun k hk => by have := hGk k hk; exact ⟨this.1, this.2⟩
end Go.Proofs.YtipabhbnljadfaaDoor
