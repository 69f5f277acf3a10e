/-
  Several texts put together: Sej, Sel, Sen.
-/
import Derived.Test.YtipabhbnljadfaaZd
/-
  The reference's table out of bytes; law 17: any bytes as a table.
-/
namespace Go.Proofs.Ytipabhbnljadfaa
open Go
set_option linter.unusedSimpArgs false
set_option linter.unusedVariables false

theorem IsM.lt' {w : World} {F : Nat → Prop} {g : Nat} {p : List UInt8} {s : Option (List UInt8)} (h : IsM w F g p s) : g < w.heap.size := by
  obtain ⟨_, _, _, hb, _⟩ := h
  exact hb.lt
theorem StM.neg {p : List UInt8} {a : Int} {s : Option (List UInt8)} (h : StM p a s) : a < 0 ↔ s = none := by
  cases s with
  | none => simp only [StM] at h; subst h; simp
  | some r =>
    obtain ⟨m, rfl, _, _⟩ := h
    simp
theorem StM.all {p : List UInt8} {a : Int} {s : Option (List UInt8)} (h : StM p a s) : a = (p.length : Int) ↔ s = some [] := by
  cases s with
  | none =>
    simp only [StM] at h
    subst h
    simp
  | some r =>
    obtain ⟨m, rfl, hm, rfl⟩ := h
    rw [Option.some.injEq, List.drop_eq_nil_iff]
    omega

/-- a table in memory whose answers lie in H -/
def IsTH (TT TE : TypeId) (w : World) (M H : Nat → Prop) (t : Nat) (L : List Ls) : Prop := ∃ (A : Option Addr) (c : Nat) (V : List LsV) (G : Nat → Prop), Blk w t #[.slice A V.length c] TT ∧
  Own w G TE 3 (.slice A V.length c) V.length (V.flatMap LsV.cells) ∧ (∀ r ∈ V, Rd w H r.v r.x.data.length 1 (r.x.data.map U8)) ∧ lsOf V = L ∧ M t ∧ t < w.heap.size ∧
  (∀ k, G k → M k ∧ k ≠ t ∧ k < w.heap.size) ∧ ∀ k, H k → ¬ M k ∧ k < w.heap.size
theorem IsTH.upd {TT TE : TypeId} {w w' : World} {M H S : Nat → Prop} {t : Nat} {L : List Ls} (h : IsTH TT TE w M H t L) (hu : Upd S w w') (hn : ∀ k, M k → k < w.heap.size → ¬ S k) (hn2 : ∀ k, H k → k < w.heap.size → ¬ S k) : IsTH TT TE w' M H t L := by
  obtain ⟨A, c, V, G, h1, h2, h3, h4, h5, h6, h7, h8⟩ := h
  have := hu.size
  exact ⟨A, c, V, G, h1.upd hu (hn t h5 h6), h2.upd hu (fun k hk hl => hn k (h7 k hk).1 hl), fun r hr => (h3 r hr).upd hu hn2, h4, h5, by omega, fun k hk => ⟨(h7 k hk).1, (h7 k hk).2.1, by have := (h7 k hk).2.2; omega⟩, fun k hk => ⟨(h8 k hk).1, by have := (h8 k hk).2; omega⟩⟩
theorem IsTH.push {TT TE : TypeId} {w w1 w2 : World} {M H G : Nat → Prop} {t c2 : Nat} {A2 : Option Addr} {V : List LsV} {r : LsV}
    (hD : ∀ r ∈ V, Rd w H r.v r.x.data.length 1 (r.x.data.map U8)) (hMt : M t) (htl : t < w.heap.size)
    (hG : ∀ k, G k → M k ∧ k ≠ t ∧ k < w.heap.size) (hH : ∀ k, H k → ¬ M k ∧ k < w.heap.size)
    (hr : Rd w H r.v r.x.data.length 1 (r.x.data.map U8))
    (hO2 : Own w1 (Grow G w w1) TE 3 (.slice A2 (V.length + 1) c2) (V.length + 1) (V.flatMap LsV.cells ++ r.cells)) (hOp : Upd G w w1)
    (hB2 : Blk w2 t #[.slice A2 (V.length + 1) c2] TT) (hS : Upd (At t) w1 w2) :
    IsTH TT TE w2 (Grow M w w2) H t (lsOf V ++ [r.x]) := by
  have h1 := hOp.size
  have h2 := hS.size
  have hd : ∀ q : LsV, Rd w H q.v q.x.data.length 1 (q.x.data.map U8) → Rd w2 H q.v q.x.data.length 1 (q.x.data.map U8) := fun q hq =>
    (hq.upd hOp (fun k hk _ hS => (hH k hk).1 (hG k hS).1)).upd hS (fun k hk _ hS => by simp only [At] at hS; subst hS; exact (hH k hk).1 hMt)
  refine ⟨A2, c2, V ++ [r], Grow G w w1, ?_, ?_, ?_, by rw [lsOf, List.map_append]; rfl, .inl hMt, by omega, fun k hk => ?_, fun k hk => ?_⟩
  · rw [List.length_append]; exact hB2
  · rw [List.length_append, List.flatMap_append, List.flatMap_singleton]
    exact hO2.upd hS (fun k hk hl hS => by simp only [At] at hS; subst hS; rcases hk with h | h; exact (hG k h).2.1 rfl; omega)
  · intro q hq
    rcases List.mem_append.1 hq with hq | hq
    · exact hd q (hD q hq)
    · rw [List.mem_singleton] at hq
      subst hq
      exact hd q hr
  · rcases hk with hk | hk
    · have := hG k hk; exact ⟨.inl this.1, this.2.1, by omega⟩
    · exact ⟨.inr ⟨hk.1, by omega⟩, by omega, by omega⟩
  · have := hH k hk
    exact ⟨fun h => h.elim (fun h => this.1 h) (fun h => by omega), by omega⟩
theorem IsTH.toG {TT TE : TypeId} {w : World} {M H : Nat → Prop} {t : Nat} {L : List Ls} (h : IsTH TT TE w M H t L) : IsTG TT TE w (fun _ => True) t L := by
  obtain ⟨A, c, V, G, h1, h2, h3, h4, h5, h6, h7, h8⟩ := h
  exact ⟨A, c, V, G, H, h1, h2, h3, h4, trivial, h6, fun k hk => ⟨trivial, (h7 k hk).2⟩, fun k hk => ⟨trivial, fun e => (h8 k hk).1 (e ▸ h5), fun e => (h8 k hk).1 (h7 k e).1, (h8 k hk).2⟩⟩

set_option maxHeartbeats 4000000 in
theorem refLoad_ok {w : World} {F : Nat → Prop} {pv : Value} {p : List UInt8} (hp : Rd w F pv p.length 1 (p.map U8)) :
    Ret Try.prog 19 #[pv] w fun u w' => Upd No w w' ∧ (((loadS p).1 = some [] ∧ ∃ t, u = .tuple #[.pointer (some ⟨t, 0, none⟩), .bool true] ∧ IsQ w' (fun _ => True) t (loadS p).2) ∨
      ((loadS p).1 ≠ some [] ∧ ∃ v, u = .tuple #[v, .bool false])) := by
  obtain ⟨F', hp, hFl⟩ : ∃ F' : Nat → Prop, Rd w F' pv p.length 1 (p.map U8) ∧ ∀ k, F' k → k < w.heap.size := ⟨_, hp.bound, fun k hk => hk.2⟩
  obtain ⟨n0, s0, hn0⟩ : ∃ n0 s0, uptoR 64 (some p) = (n0, s0) := ⟨_, _, rfl⟩
  obtain ⟨fin, hfin⟩ : ∃ fin, loadL n0 s0 [] = fin := ⟨_, rfl⟩
  have hS : loadS p = fin := by unfold loadS; rw [hn0]; exact hfin
  rw [hS]
  have hn64 : n0 ≤ 64 := by have := uptoR_le (most := 64) (s := some p) (by omega); rw [hn0] at this; simp only at this; omega
  obtain ⟨Ap, cp, rfl, hcp⟩ := hp.slice_form
  refine enterRet (vs := [_]) (N := 88) Try.func19 rfl rfl rfl ?_
  have hU := Upd.refl No w
  refine WC.keep [(0, _)] ⟨rfl, trivial⟩ ?_
  refine WC.seq ?_
  refine WC.region ?_
  refine WL.val rfl rfl rfl rfl (r_assign rfl ev_c) ?_
  refine WL.val rfl rfl rfl rfl (r_assign rfl ev_c) ?_
  refine WL.nil ?_
  refine WX.keep [(0, _)] ⟨rfl, trivial⟩ ?_
  refine WX.next ?_
  refine WC.seq ?_
  refine WC.region ?_
  refine WL.val rfl rfl rfl rfl (r_move rfl (ev_t rfl)) ?_
  refine WL.val rfl rfl rfl rfl (r_build (cs := #[_, _]) (vs := [(0, _)]) rfl ⟨⟨rfl, (ev_t rfl)⟩, trivial⟩ plc_77 zero_77 rfl) ?_
  refine WL.cons (SO.alloc rfl rfl rfl rfl (r_boxAgg rfl (ev_t rfl)) ?_)
  intro w1 hu1 hB1 hz1
  have hs1 := hu1.size
  replace hU := hU.trans hu1 (by first | exact (fun _ _ h => h) | exact (fun _ _ h => h.elim) | (intro k hl hk; (try simp only [At, New, Grow, From, No] at hk ⊢); omega) | (intro k hl hk; first | (have h1 := hG k hk; have h2 := hMw k h1.1; omega) | ((try simp only [At, New, Grow, From, No] at *); omega)))
  refine WL.val rfl rfl rfl rfl (r_assign rfl (ev_t rfl)) ?_
  refine WL.nil ?_
  refine WX.keep [(0, _), (4, _)] ⟨rfl, rfl, trivial⟩ ?_
  have hR : IsM w1 F' w.heap.size p (some p) := ⟨Ap, cp, 0, hB1, hp.upd hU (fun _ _ _ h => h), 0, rfl, Nat.zero_le _, rfl⟩
  refine WX.next ?_
  refine WC.seq ?_
  refine WC.region ?_
  refine WL.val rfl rfl rfl rfl (r_build (cs := #[_]) (vs := []) rfl trivial plc_42 zero_42 rfl) ?_
  refine WL.cons (SO.alloc rfl rfl rfl rfl (r_boxAgg rfl (ev_t rfl)) ?_)
  intro w2 hu2 hB2 hz2
  have hs2 := hu2.size
  replace hU := hU.trans hu2 (by first | exact (fun _ _ h => h) | exact (fun _ _ h => h.elim) | (intro k hl hk; (try simp only [At, New, Grow, From, No] at hk ⊢); omega) | (intro k hl hk; first | (have h1 := hG k hk; have h2 := hMw k h1.1; omega) | ((try simp only [At, New, Grow, From, No] at *); omega)))
  replace hR := hR.upd hu2 (by first | exact (fun h => h) | (exact fun h => by have := hMw _ (hG _ h).1; omega) | (simp only [At, No]; omega)) (by first | exact (fun _ _ _ h => h) | (intro k hk hl hS; have := hFl k hk; first | (have := hMw _ (hG _ hS).1; omega) | (simp only [At, No] at hS; omega)))
  refine WL.val rfl rfl rfl rfl (r_assign rfl (ev_t rfl)) ?_
  refine WL.nil ?_
  refine WX.keep [(0, _), (4, _), (5, _)] ⟨rfl, rfl, rfl, trivial⟩ ?_
  have hT : IsTH 42 68 w2 (New w1 w2) F' w1.heap.size [] := ⟨none, 0, [], fun _ => False, hB2, Own.nil _ _ _ _, (fun r h => by cases h), rfl, ⟨by omega, by omega⟩, by omega, (fun k h => h.elim), (fun k h => by have := hFl k h; exact ⟨by simp only [New]; omega, by omega⟩)⟩
  have hMw : ∀ k, New w1 w2 k → w.heap.size < k := fun k hk => by simp only [New] at hk; omega
  have hMl : ∀ k, New w1 w2 k → k < w2.heap.size := fun k hk => hk.2
  refine WX.next ?_
  refine WC.seq ?_
  refine WC.region ?_
  refine WL.val rfl rfl rfl rfl (r_move rfl (ev_t rfl)) ?_
  refine WL.cons (SO.call (mUpto_ok hR (fun h => by have := hFl _ h; omega) (by simp only [inK]; omega) hn0) rfl body_35 ⟨(ev_t rfl), ev_c, trivial⟩ rfl rfl rfl rfl ?_)
  rintro v w3 ⟨rfl, hR, hu3⟩
  replace hT := hT.upd hu3 (fun k hk hl hS => by have := hMw k hk; simp only [At] at hS; omega) (fun k hk hl hS => by have := hFl k hk; simp only [At] at hS; omega)
  have hs3 := hu3.size
  replace hU := hU.trans hu3 (by first | exact (fun _ _ h => h) | exact (fun _ _ h => h.elim) | (intro k hl hk; (try simp only [At, New, Grow, From, No] at hk ⊢); omega) | (intro k hl hk; first | (have h1 := hG k hk; have h2 := hMw k h1.1; omega) | ((try simp only [At, New, Grow, From, No] at *); omega)))
  refine WL.val rfl rfl rfl rfl (r_assign rfl (ev_t rfl)) ?_
  refine WL.nil ?_
  refine WX.keep [(0, _), (4, _), (5, _), (6, _)] ⟨rfl, rfl, rfl, rfl, trivial⟩ ?_
  refine WX.next ?_
  refine WC.seq ?_
  refine WC.seq ?_
  refine WC.region ?_
  refine WL.val rfl rfl rfl rfl (r_assign rfl ev_c) ?_
  refine WL.nil ?_
  refine WX.keep [(0, _), (4, _), (5, _), (6, _), (7, _)] ⟨rfl, rfl, rfl, rfl, rfl, trivial⟩ ?_
  refine WX.next ?_
  refine WC.block ?_
  -- loop 1: live [0, 4, 5, 6, 7]
  refine WC.keep [(0, _), (4, _), (5, _), (6, _), (7, _)] ⟨rfl, rfl, rfl, rfl, rfl, trivial⟩ ?_
  refine WC.loop (fun q E w' => ∃ (i : Nat) (s : Option (List UInt8)) (L : List Ls) (M : Nat → Prop), i ≤ n0 ∧ q = n0 - i ∧ L.length = i ∧ Upd No w w' ∧ IsM w' F' w.heap.size p s ∧ IsTH 42 68 w' M F' w1.heap.size L ∧ (∀ k, M k → w.heap.size < k) ∧ (∀ k, M k → k < w'.heap.size) ∧ ((s = none ∧ fin.1 = none) ∨ (s ≠ none ∧ loadL (n0 - i) s L = fin)) ∧   E = [(0, .slice Ap p.length cp), (4, .pointer (some ⟨w.heap.size, 0, none⟩)), (5, .pointer (some ⟨w1.heap.size, 0, none⟩)), (6, .int .i64 (n0 : Int)), (7, .int .i64 (i : Int))]) (n0) ?_ ?_
  · refine ⟨0, s0, [], _, by omega, by omega, rfl, hU, hR, hT, hMw, (fun k hk => by have := hMl k hk; omega), ?_, rfl⟩
    cases s0 with
    | none => rw [loadL_none] at hfin; subst hfin; exact .inl ⟨rfl, rfl⟩
    | some q => exact .inr ⟨by simp, hfin⟩
  · clear hU hT hR hMw hMl
    rintro q E w' ⟨i, s, L, M, hi, rfl, hLi, hU, hR, hT, hMw, hMl, hs, rfl⟩
    have hw0 := hU.size
    have hgl := hR.lt'
    have htM : M w1.heap.size := by obtain ⟨_, _, _, _, _, _, _, _, h, _⟩ := hT; exact h
    have htw := hMw _ htM
    have htl := hMl _ htM
    obtain ⟨Aa, ca, at_, hb, _, hst⟩ := id hR
    have hneg := hst.neg
    refine WC.seq ?_
    refine WC.seq ?_
    refine WC.region ?_
    refine WL.val rfl rfl rfl rfl (r_move rfl (ev_t rfl)) ?_
    refine WL.val rfl rfl rfl rfl (r_move rfl (ev_t rfl)) ?_
    refine WL.val rfl rfl rfl rfl (r_lss rfl (ev_t rfl) (ev_t rfl)) ?_
    refine WL.val rfl rfl rfl rfl (r_move rfl (ev_t rfl)) ?_
    refine WL.cases 19 rfl (fun hb5_3 => ?_) (fun hb5_3 => ?_)
    · try (exfalso; first | (simp at hb5_3; done) | (simp only [decide_eq_true_eq, decide_eq_false_iff_not, Bool.not_eq_true', Bool.not_eq_false', Bool.not_eq_true, Bool.not_eq_false] at hb5_3; omega) | omega)
      all_goals
       try simp only [decide_eq_true_eq, decide_eq_false_iff_not, Bool.not_eq_true', Bool.not_eq_false', Bool.not_eq_true, Bool.not_eq_false, Option.isNone_none, Option.isNone_some, Option.isSome_none, Option.isSome_some, ne_eq, Decidable.not_not] at hb5_3
       refine WL.val rfl rfl rfl rfl (r_move rfl (ev_t rfl)) ?_
       refine WL.val rfl rfl rfl rfl (r_nilCheck rfl (ev_t rfl)) ?_
       first | refine WL.val rfl rfl rfl rfl (r_field0 rfl (ev_t rfl) fld_77_1) ?_ | refine WL.val rfl rfl rfl rfl (r_fieldAt rfl (ev_t rfl) fld_77_1) ?_
       refine WL.val rfl rfl rfl rfl (r_load rfl (ev_t rfl) flat_3 (Blk.cell hb rfl)) ?_
       refine WL.val rfl rfl rfl rfl (r_geq rfl (ev_t rfl) ev_c) ?_
       refine WL.val rfl rfl rfl rfl (r_pickT rfl (ev_t rfl) (ev_t rfl)) ?_
       refine WL.nil ?_
       refine WX.keep [(0, _), (4, _), (5, _), (6, _), (7, _), (25, _)] ⟨rfl, rfl, rfl, rfl, rfl, rfl, trivial⟩ ?_
       refine WX.next ?_
       refine WC.cond rfl (ev_t rfl) (fun hc5 => ?_) (fun hc5 => ?_)
       · try (exfalso; first | (simp at hc5; done) | (simp only [decide_eq_true_eq, decide_eq_false_iff_not, Bool.not_eq_true', Bool.not_eq_false', Bool.not_eq_true, Bool.not_eq_false] at hc5; omega) | omega)
         all_goals
          try simp only [decide_eq_true_eq, decide_eq_false_iff_not, Bool.not_eq_true', Bool.not_eq_false', Bool.not_eq_true, Bool.not_eq_false, Option.isNone_none, Option.isNone_some, Option.isSome_none, Option.isSome_some, ne_eq, Decidable.not_not] at hc5
          refine WC.skip ?_
          refine WX.next ?_
          refine WC.seq ?_
          refine WC.block ?_
          refine WC.seq ?_
          obtain ⟨q1, hq1⟩ : ∃ q1, n0 - i = q1 + 1 := ⟨n0 - i - 1, by omega⟩
          obtain ⟨p1, rfl⟩ : ∃ p1, s = some p1 := by
            cases s with
            | none => have := hneg.2 rfl; omega
            | some p1 => exact ⟨p1, rfl⟩
          replace hs : loadL (q1 + 1) (some p1) L = fin := by rcases hs with h | h; exact absurd h.1 (by simp); rw [← hq1]; exact h.2
          obtain ⟨a, s1, ha⟩ : ∃ a s1, uintR (some p1) = (a, s1) := ⟨_, _, rfl⟩
          obtain ⟨b, s2, hb2⟩ : ∃ b s2, uintR s1 = (b, s2) := ⟨_, _, rfl⟩
          obtain ⟨d, s3, hd⟩ : ∃ d s3, bytesR 1048576 s2 = (d, s3) := ⟨_, _, rfl⟩
          clear hb hst hneg
          refine WC.region ?_
          refine WL.val rfl rfl rfl rfl (r_move rfl (ev_t rfl)) ?_
          refine WL.cons (SO.call (mUint_ok hR (fun h => by have := hFl _ h; omega) ha) rfl body_36 ⟨(ev_t rfl), trivial⟩ rfl rfl rfl rfl ?_)
          rintro v w4 ⟨rfl, hR, hu4⟩
          have hs4 := hu4.size
          replace hU := hU.trans hu4 (by first | exact (fun _ _ h => h) | exact (fun _ _ h => h.elim) | (intro k hl hk; (try simp only [At, New, Grow, From, No] at hk ⊢); omega) | (intro k hl hk; first | (have h1 := hG k hk; have h2 := hMw k h1.1; omega) | ((try simp only [At, New, Grow, From, No] at *); omega)))
          replace hT := hT.upd hu4 (by first | exact (fun _ _ _ h => h) | (intro k hk hl hS; have := hMw k hk; have := hMl k hk; simp only [At, No] at hS; omega)) (by first | exact (fun _ _ _ h => h) | (intro k hk hl hS; have := hFl k hk; simp only [At, No] at hS; omega))
          refine WL.val rfl rfl rfl rfl (r_build (cs := #[_, _, _]) (vs := [(0, _)]) rfl ⟨⟨rfl, (ev_t rfl)⟩, trivial⟩ plc_68 zero_68 rfl) ?_
          refine WL.cons (SO.alloc rfl rfl rfl rfl (r_alloc rfl zero_68) ?_)
          intro w5 hu5 hB5 hz5
          have hs5 := hu5.size
          replace hU := hU.trans hu5 (by first | exact (fun _ _ h => h) | exact (fun _ _ h => h.elim) | (intro k hl hk; (try simp only [At, New, Grow, From, No] at hk ⊢); omega) | (intro k hl hk; first | (have h1 := hG k hk; have h2 := hMw k h1.1; omega) | ((try simp only [At, New, Grow, From, No] at *); omega)))
          replace hR := hR.upd hu5 (by first | exact (fun h => h) | (exact fun h => by have := hMw _ (hG _ h).1; omega) | (simp only [At, No]; omega)) (by first | exact (fun _ _ _ h => h) | (intro k hk hl hS; have := hFl k hk; first | (have := hMw _ (hG _ hS).1; omega) | (simp only [At, No] at hS; omega)))
          replace hT := hT.upd hu5 (by first | exact (fun _ _ _ h => h) | (intro k hk hl hS; have := hMw k hk; have := hMl k hk; simp only [At, No] at hS; omega)) (by first | exact (fun _ _ _ h => h) | (intro k hk hl hS; have := hFl k hk; simp only [At, No] at hS; omega))
          refine WL.cons (SO.storeAll (us := [_, _, _]) rfl (ev_t rfl) (ev_t rfl) size_68 hB5 rfl rfl rfl rfl rfl ?_)
          intro w6 hu6 hB5 hz6
          have hs6 := hu6.size
          replace hU := hU.trans hu6 (by first | exact (fun _ _ h => h) | exact (fun _ _ h => h.elim) | (intro k hl hk; (try simp only [At, New, Grow, From, No] at hk ⊢); omega) | (intro k hl hk; first | (have h1 := hG k hk; have h2 := hMw k h1.1; omega) | ((try simp only [At, New, Grow, From, No] at *); omega)))
          replace hR := hR.upd hu6 (by first | exact (fun h => h) | (exact fun h => by have := hMw _ (hG _ h).1; omega) | (simp only [At, No]; omega)) (by first | exact (fun _ _ _ h => h) | (intro k hk hl hS; have := hFl k hk; first | (have := hMw _ (hG _ hS).1; omega) | (simp only [At, No] at hS; omega)))
          replace hT := hT.upd hu6 (by first | exact (fun _ _ _ h => h) | (intro k hk hl hS; have := hMw k hk; have := hMl k hk; simp only [At, No] at hS; omega)) (by first | exact (fun _ _ _ h => h) | (intro k hk hl hS; have := hFl k hk; simp only [At, No] at hS; omega))
          refine WL.nil ?_
          refine WX.keep [(0, _), (4, _), (5, _), (6, _), (7, _), (8, _)] ⟨rfl, rfl, rfl, rfl, rfl, rfl, trivial⟩ ?_
          have hBx : Blk w6 _ #[.int .u64 (a : Int), .int .u64 0, .slice none 0 0] 68 := hB5
          refine WX.next ?_
          refine WC.seq ?_
          refine WC.region ?_
          refine WL.val rfl rfl rfl rfl (r_move rfl (ev_t rfl)) ?_
          refine WL.cons (SO.call (mUint_ok hR (fun h => by have := hFl _ h; omega) hb2) rfl body_36 ⟨(ev_t rfl), trivial⟩ rfl rfl rfl rfl ?_)
          rintro v w7 ⟨rfl, hR, hu7⟩
          have hs7 := hu7.size
          replace hU := hU.trans hu7 (by first | exact (fun _ _ h => h) | exact (fun _ _ h => h.elim) | (intro k hl hk; (try simp only [At, New, Grow, From, No] at hk ⊢); omega) | (intro k hl hk; first | (have h1 := hG k hk; have h2 := hMw k h1.1; omega) | ((try simp only [At, New, Grow, From, No] at *); omega)))
          replace hT := hT.upd hu7 (by first | exact (fun _ _ _ h => h) | (intro k hk hl hS; have := hMw k hk; have := hMl k hk; simp only [At, No] at hS; omega)) (by first | exact (fun _ _ _ h => h) | (intro k hk hl hS; have := hFl k hk; simp only [At, No] at hS; omega))
          replace hBx := hBx.upd hu7 (by first | exact (fun h => h) | (exact fun h => by have := hMl _ (hG _ h).1; omega) | (simp only [At]; omega))
          first | refine WL.val rfl rfl rfl rfl (r_field0 rfl (ev_t rfl) fld_68_1) ?_ | refine WL.val rfl rfl rfl rfl (r_fieldAt rfl (ev_t rfl) fld_68_1) ?_
          refine WL.cons (SO.store rfl (ev_t rfl) (ev_t rfl) size_27 hBx rfl rfl rfl rfl rfl ?_)
          intro w8 hu8 hBx hz8
          have hs8 := hu8.size
          replace hU := hU.trans hu8 (by first | exact (fun _ _ h => h) | exact (fun _ _ h => h.elim) | (intro k hl hk; (try simp only [At, New, Grow, From, No] at hk ⊢); omega) | (intro k hl hk; first | (have h1 := hG k hk; have h2 := hMw k h1.1; omega) | ((try simp only [At, New, Grow, From, No] at *); omega)))
          replace hR := hR.upd hu8 (by first | exact (fun h => h) | (exact fun h => by have := hMw _ (hG _ h).1; omega) | (simp only [At, No]; omega)) (by first | exact (fun _ _ _ h => h) | (intro k hk hl hS; have := hFl k hk; first | (have := hMw _ (hG _ hS).1; omega) | (simp only [At, No] at hS; omega)))
          replace hT := hT.upd hu8 (by first | exact (fun _ _ _ h => h) | (intro k hk hl hS; have := hMw k hk; have := hMl k hk; simp only [At, No] at hS; omega)) (by first | exact (fun _ _ _ h => h) | (intro k hk hl hS; have := hFl k hk; simp only [At, No] at hS; omega))
          refine WL.nil ?_
          refine WX.keep [(0, _), (4, _), (5, _), (6, _), (7, _), (8, _)] ⟨rfl, rfl, rfl, rfl, rfl, rfl, trivial⟩ ?_
          refine WX.next ?_
          refine WC.seq ?_
          refine WC.region ?_
          refine WL.val rfl rfl rfl rfl (r_move rfl (ev_t rfl)) ?_
          refine WL.cons (SO.call (mBytes_ok hR (fun h => by have := hFl _ h; omega) (by simp only [inK]; omega) hd) rfl body_37 ⟨(ev_t rfl), ev_c, trivial⟩ rfl rfl rfl rfl ?_)
          rintro v w9 ⟨hcl, hR, hu9⟩
          obtain ⟨Ad, cd, rfl, hcd⟩ := hcl.slice_form
          have hs9 := hu9.size
          replace hU := hU.trans hu9 (by first | exact (fun _ _ h => h) | exact (fun _ _ h => h.elim) | (intro k hl hk; (try simp only [At, New, Grow, From, No] at hk ⊢); omega) | (intro k hl hk; first | (have h1 := hG k hk; have h2 := hMw k h1.1; omega) | ((try simp only [At, New, Grow, From, No] at *); omega)))
          replace hT := hT.upd hu9 (by first | exact (fun _ _ _ h => h) | (intro k hk hl hS; have := hMw k hk; have := hMl k hk; simp only [At, No] at hS; omega)) (by first | exact (fun _ _ _ h => h) | (intro k hk hl hS; have := hFl k hk; simp only [At, No] at hS; omega))
          replace hBx := hBx.upd hu9 (by first | exact (fun h => h) | (exact fun h => by have := hMl _ (hG _ h).1; omega) | (simp only [At]; omega))
          first | refine WL.val rfl rfl rfl rfl (r_field0 rfl (ev_t rfl) fld_68_2) ?_ | refine WL.val rfl rfl rfl rfl (r_fieldAt rfl (ev_t rfl) fld_68_2) ?_
          refine WL.cons (SO.store rfl (ev_t rfl) (ev_t rfl) size_23 hBx rfl rfl rfl rfl rfl ?_)
          intro w10 hu10 hBx hz10
          have hs10 := hu10.size
          replace hU := hU.trans hu10 (by first | exact (fun _ _ h => h) | exact (fun _ _ h => h.elim) | (intro k hl hk; (try simp only [At, New, Grow, From, No] at hk ⊢); omega) | (intro k hl hk; first | (have h1 := hG k hk; have h2 := hMw k h1.1; omega) | ((try simp only [At, New, Grow, From, No] at *); omega)))
          replace hR := hR.upd hu10 (by first | exact (fun h => h) | (exact fun h => by have := hMw _ (hG _ h).1; omega) | (simp only [At, No]; omega)) (by first | exact (fun _ _ _ h => h) | (intro k hk hl hS; have := hFl k hk; first | (have := hMw _ (hG _ hS).1; omega) | (simp only [At, No] at hS; omega)))
          replace hT := hT.upd hu10 (by first | exact (fun _ _ _ h => h) | (intro k hk hl hS; have := hMw k hk; have := hMl k hk; simp only [At, No] at hS; omega)) (by first | exact (fun _ _ _ h => h) | (intro k hk hl hS; have := hFl k hk; simp only [At, No] at hS; omega))
          replace hcl := hcl.upd hu10 (by first | exact (fun _ _ _ h => h) | (intro k hk hl hS; have := hFl k hk; first | (have := hMw _ (hG _ hS).1; omega) | (simp only [At] at hS; omega)))
          refine WL.nil ?_
          refine WX.keep [(0, _), (4, _), (5, _), (6, _), (7, _), (8, _)] ⟨rfl, rfl, rfl, rfl, rfl, rfl, trivial⟩ ?_
          refine WX.next ?_
          refine WC.seq ?_
          refine WC.seq ?_
          obtain ⟨A, c, V, G, hB, hO, hD, hLV, _, _, hG, hH⟩ := id hT
          obtain ⟨Ar, cr, at2, hb, _, hst⟩ := id hR
          have hneg := hst.neg
          have hlen : V.length = L.length := by rw [← hLV, List.length_map]
          have hnx : nextOK L a = match V[V.length - 1]? with | some r => decide (r.x.id < a) | none => true := by
            unfold nextOK
            rw [← hLV, List.length_map, List.getElem?_map]
            cases V[V.length - 1]? <;> rfl
          have hV := Upd.refl No w10
          have hbl := hBx.lt
          refine WC.draws' (fun u0_ u1_ => Upd No u0_ u1_) (fun j => [0, 0, 0, 1, 0, 0, 0, 1, 0, 0, 0, 0, 1, 0, 0, 0, 0, 0, 0, 0, 0, 0, 0, 0, 0, 0, 0, 0, 0, 1, 0, 0, 0].getD j 0) (.calm 0 (.calm 1 (.calm 2 (.one 3 (.calm 4 (.calm 5 (.calm 6 (.one 7 (.calm 8 (.calm 9 (.calm 10 (.calm 11 (.one 12 (.calm 13 (.calm 14 (.calm 15 (.calm 16 (.calm 17 (.calm 18 (.calm 19 (.calm 20 (.calm 21 (.calm 23 (.calm 24 (.calm 28 (.held 22 (.calm 25 (.calm 26 (.held 27 (.one 29 (.calm 30 (.calm 31 (.calm 32 (.done)))))))))))))))))))))))))))))))))) mixed (by kernel_rfl) (by repeat (first | with_reducible exact Deaf.body | with_reducible apply Deaf.then | with_reducible apply Deaf.block)) ?_
          intro w11 hu11
          have hz11 := congrArg Array.size hu11.2.2.2
          replace hu11 := Upd.of_draw hu11
          have hs11 := hu11.size
          replace hU := hU.trans hu11 (by first | exact (fun _ _ h => h) | exact (fun _ _ h => h.elim) | (intro k hl hk; (try simp only [At, New, Grow, From, No] at hk ⊢); omega) | (intro k hl hk; first | (have h1 := hG k hk; have h2 := hMw k h1.1; omega) | ((try simp only [At, New, Grow, From, No] at *); omega)))
          replace hR := hR.upd hu11 (by first | exact (fun h => h) | (exact fun h => by have := hMw _ (hG _ h).1; omega) | (simp only [At, No]; omega)) (by first | exact (fun _ _ _ h => h) | (intro k hk hl hS; have := hFl k hk; first | (have := hMw _ (hG _ hS).1; omega) | (simp only [At, No] at hS; omega)))
          replace hT := hT.upd hu11 (by first | exact (fun _ _ _ h => h) | (intro k hk hl hS; have := hMw k hk; have := hMl k hk; simp only [At, No] at hS; omega)) (by first | exact (fun _ _ _ h => h) | (intro k hk hl hS; have := hFl k hk; simp only [At, No] at hS; omega))
          replace hBx := hBx.upd hu11 (by first | exact (fun h => h) | (exact fun h => by have := hMl _ (hG _ h).1; omega) | (simp only [At]; omega))
          replace hcl := hcl.upd hu11 (by first | exact (fun _ _ _ h => h) | (intro k hk hl hS; have := hFl k hk; first | (have := hMw _ (hG _ hS).1; omega) | (simp only [At] at hS; omega)))
          replace hB := hB.upd hu11 (by first | exact (fun h => h) | (exact fun h => (hG _ h).2.1 rfl) | (simp only [At, No]; omega))
          replace hO := hO.upd hu11 (by first | exact (fun _ _ _ h => h) | (intro k hk hl hS; have := hG k hk; have := hMw k this.1; simp only [At, No] at hS; omega))
          replace hb := hb.upd hu11 (by first | exact (fun h => h) | (exact fun h => by have := hMw _ (hG _ h).1; omega) | (simp only [At, No]; omega))
          replace hV := hV.upd hu11 (by first | exact (fun _ _ h => h) | exact (fun _ _ h => h.elim) | (intro k hk hl; simp only [At, No] at *; omega))
          have hS10 := Upd.refl No w11
          refine WN.calm _ rfl rfl rfl rfl rfl (fun _ => r_move rfl (ev_t rfl)) ?_
          refine WN.calm _ rfl rfl rfl rfl rfl (fun _ => r_nilCheck rfl (ev_t rfl)) ?_
          first | refine WN.calm _ rfl rfl rfl rfl rfl (fun _ => r_field0 rfl (ev_t rfl) fld_77_1) ?_ | refine WN.calm _ rfl rfl rfl rfl rfl (fun _ => r_fieldAt rfl (ev_t rfl) fld_77_1) ?_
          refine WN.step _ rfl (SO.val rfl rfl rfl rfl (r_load rfl (ev_t rfl) flat_3 (Blk.cell hb rfl)) ?_)
          refine ⟨hS10, ?_⟩
          refine WN.calm _ rfl rfl rfl rfl rfl (fun _ => r_lss rfl (ev_t rfl) ev_c) ?_
          refine WN.calm _ rfl rfl rfl rfl rfl (fun _ => r_move rfl (ev_t rfl)) ?_
          refine WN.cases 42 rfl (fun hb10_5 => ?_) (fun hb10_5 => ?_)
          · try (exfalso; first | (simp at hb10_5; done) | (simp only [decide_eq_true_eq, decide_eq_false_iff_not, Bool.not_eq_true', Bool.not_eq_false', Bool.not_eq_true, Bool.not_eq_false] at hb10_5; omega) | omega)
            all_goals
             try simp only [decide_eq_true_eq, decide_eq_false_iff_not, Bool.not_eq_true', Bool.not_eq_false', Bool.not_eq_true, Bool.not_eq_false, Option.isNone_none, Option.isNone_some, Option.isSome_none, Option.isSome_some, ne_eq, Decidable.not_not] at hb10_5
             refine WN.skip _ rfl rfl rfl rfl ?_
             refine WN.step _ rfl (SO.skip rfl rfl rfl ?_)
             refine ⟨hS10, ?_⟩
             refine WN.skip _ rfl rfl rfl rfl ?_
             refine WN.calm _ rfl rfl rfl rfl rfl (fun _ => r_pickT rfl (ev_t rfl) ev_c) ?_
             refine WN.calm _ rfl rfl rfl rfl rfl (fun _ => r_move rfl (ev_t rfl)) ?_
             refine WN.skip _ rfl rfl rfl rfl ?_
             refine WN.step _ rfl (SO.skip rfl rfl rfl ?_)
             refine ⟨hS10, ?_⟩
             refine WN.skip _ rfl rfl rfl rfl ?_
             refine WN.calm _ rfl rfl rfl rfl rfl (fun _ => r_pickT rfl (ev_t rfl) ev_c) ?_
             refine WN.calm _ rfl rfl rfl rfl rfl (fun _ => r_move rfl (ev_t rfl)) ?_
             refine WN.skip _ rfl rfl rfl rfl ?_
             refine WN.skip _ rfl rfl rfl rfl ?_
             refine WN.skip _ rfl rfl rfl rfl ?_
             refine WN.skip _ rfl rfl rfl rfl ?_
             refine WN.skip _ rfl rfl rfl rfl ?_
             refine WN.skip _ rfl rfl rfl rfl ?_
             refine WN.skip _ rfl rfl rfl rfl ?_
             refine WN.skip _ rfl rfl rfl rfl ?_
             refine WN.skip _ rfl rfl rfl rfl ?_
             refine WN.heldSkip _ rfl rfl rfl rfl hS10 ?_
             refine WN.skip _ rfl rfl rfl rfl ?_
             refine WN.skip _ rfl rfl rfl rfl ?_
             refine WN.heldSkip _ rfl rfl rfl rfl hS10 ?_
             refine WN.step _ rfl (SO.skip rfl rfl rfl ?_)
             refine ⟨hS10, ?_⟩
             refine WN.skip _ rfl rfl rfl rfl ?_
             refine WN.skip _ rfl rfl rfl rfl ?_
             refine WN.calm _ rfl rfl rfl rfl rfl (fun _ => r_pickT rfl (ev_t rfl) ev_c) ?_
             refine WN.done ?_
             refine WX.keep [(0, _), (4, _), (5, _), (6, _), (7, _), (8, _), (69, _)] ⟨rfl, rfl, rfl, rfl, rfl, rfl, rfl, trivial⟩ ?_
             refine WX.next ?_
             refine WC.cond_true rfl (ev_t rfl) ?_
             refine WC.seq ?_
             refine WC.region ?_
             refine WL.val rfl rfl rfl rfl (r_assign rfl ev_c) ?_
             refine WL.val rfl rfl rfl rfl (r_assign rfl ev_c) ?_
             refine WL.nil ?_
             refine WX.keep [(2, _), (3, _)] ⟨rfl, rfl, trivial⟩ ?_
             refine WX.next ?_
             refine WC.ret ?_
             refine WX.thenRet ?_
             refine WX.blockRet ?_
             refine WX.thenRet ?_
             refine WX.thenRet ?_
             refine WX.blockRet ?_
             refine WX.thenRet ?_
             refine WX.retE2 rfl rfl rfl ?_
             have hbad : fin.1 = none := by
               have h3 : s3 = none ∨ (a = 0 ∨ b = 0 ∨ nextOK L a = false) := by
                 by_cases h3 : s3 = none
                 · exact .inl h3
                 · have : ¬ at2 < 0 := fun h => h3 (hneg.1 h)
                   right
                   first | omega | simp_all
               by_cases h4 : a = 0 ∨ b = 0 ∨ nextOK L a = false
               · rw [← hs, loadL_bad ha hb2 h4]
               · have h5 := h3.resolve_right h4
                 subst h5
                 rw [← hs, loadL_good ha hb2 hd h4, loadL_none]
             exact ⟨hU, .inr ⟨by rw [hbad]; simp, _, rfl⟩⟩
          · try (exfalso; first | (simp at hb10_5; done) | (simp only [decide_eq_true_eq, decide_eq_false_iff_not, Bool.not_eq_true', Bool.not_eq_false', Bool.not_eq_true, Bool.not_eq_false] at hb10_5; omega) | omega)
            all_goals
             try simp only [decide_eq_true_eq, decide_eq_false_iff_not, Bool.not_eq_true', Bool.not_eq_false', Bool.not_eq_true, Bool.not_eq_false, Option.isNone_none, Option.isNone_some, Option.isSome_none, Option.isSome_some, ne_eq, Decidable.not_not] at hb10_5
             first | refine WN.calm _ rfl rfl rfl rfl rfl (fun _ => r_field0 rfl (ev_t rfl) fld_68_0) ?_ | refine WN.calm _ rfl rfl rfl rfl rfl (fun _ => r_fieldAt rfl (ev_t rfl) fld_68_0) ?_
             refine WN.step _ rfl (SO.val rfl rfl rfl rfl (r_load rfl (ev_t rfl) flat_27 (Blk.cell hBx rfl)) ?_)
             refine ⟨hS10, ?_⟩
             refine WN.calm _ rfl rfl rfl rfl rfl (fun _ => r_eql rfl (ev_t rfl) ev_c) ?_
             refine WN.calm _ rfl rfl rfl rfl rfl (fun _ => r_pickF rfl (ev_t rfl) (ev_t rfl)) ?_
             refine WN.calm _ rfl rfl rfl rfl rfl (fun _ => r_move rfl (ev_t rfl)) ?_
             refine WN.cases 47 rfl (fun hb10_10 => ?_) (fun hb10_10 => ?_)
             · try (exfalso; first | (simp at hb10_10; done) | (simp only [decide_eq_true_eq, decide_eq_false_iff_not, Bool.not_eq_true', Bool.not_eq_false', Bool.not_eq_true, Bool.not_eq_false] at hb10_10; omega) | omega)
               all_goals
                try simp only [decide_eq_true_eq, decide_eq_false_iff_not, Bool.not_eq_true', Bool.not_eq_false', Bool.not_eq_true, Bool.not_eq_false, Option.isNone_none, Option.isNone_some, Option.isSome_none, Option.isSome_some, ne_eq, Decidable.not_not] at hb10_10
                refine WN.skip _ rfl rfl rfl rfl ?_
                refine WN.step _ rfl (SO.skip rfl rfl rfl ?_)
                refine ⟨hS10, ?_⟩
                refine WN.skip _ rfl rfl rfl rfl ?_
                refine WN.calm _ rfl rfl rfl rfl rfl (fun _ => r_pickT rfl (ev_t rfl) ev_c) ?_
                refine WN.calm _ rfl rfl rfl rfl rfl (fun _ => r_move rfl (ev_t rfl)) ?_
                refine WN.skip _ rfl rfl rfl rfl ?_
                refine WN.skip _ rfl rfl rfl rfl ?_
                refine WN.skip _ rfl rfl rfl rfl ?_
                refine WN.skip _ rfl rfl rfl rfl ?_
                refine WN.skip _ rfl rfl rfl rfl ?_
                refine WN.skip _ rfl rfl rfl rfl ?_
                refine WN.skip _ rfl rfl rfl rfl ?_
                refine WN.skip _ rfl rfl rfl rfl ?_
                refine WN.skip _ rfl rfl rfl rfl ?_
                refine WN.heldSkip _ rfl rfl rfl rfl hS10 ?_
                refine WN.skip _ rfl rfl rfl rfl ?_
                refine WN.skip _ rfl rfl rfl rfl ?_
                refine WN.heldSkip _ rfl rfl rfl rfl hS10 ?_
                refine WN.step _ rfl (SO.skip rfl rfl rfl ?_)
                refine ⟨hS10, ?_⟩
                refine WN.skip _ rfl rfl rfl rfl ?_
                refine WN.skip _ rfl rfl rfl rfl ?_
                refine WN.calm _ rfl rfl rfl rfl rfl (fun _ => r_pickT rfl (ev_t rfl) ev_c) ?_
                refine WN.done ?_
                refine WX.keep [(0, _), (4, _), (5, _), (6, _), (7, _), (8, _), (69, _)] ⟨rfl, rfl, rfl, rfl, rfl, rfl, rfl, trivial⟩ ?_
                refine WX.next ?_
                refine WC.cond_true rfl (ev_t rfl) ?_
                refine WC.seq ?_
                refine WC.region ?_
                refine WL.val rfl rfl rfl rfl (r_assign rfl ev_c) ?_
                refine WL.val rfl rfl rfl rfl (r_assign rfl ev_c) ?_
                refine WL.nil ?_
                refine WX.keep [(2, _), (3, _)] ⟨rfl, rfl, trivial⟩ ?_
                refine WX.next ?_
                refine WC.ret ?_
                refine WX.thenRet ?_
                refine WX.blockRet ?_
                refine WX.thenRet ?_
                refine WX.thenRet ?_
                refine WX.blockRet ?_
                refine WX.thenRet ?_
                refine WX.retE2 rfl rfl rfl ?_
                have hbad : fin.1 = none := by
                  have h3 : s3 = none ∨ (a = 0 ∨ b = 0 ∨ nextOK L a = false) := by
                    by_cases h3 : s3 = none
                    · exact .inl h3
                    · have : ¬ at2 < 0 := fun h => h3 (hneg.1 h)
                      right
                      first | omega | simp_all
                  by_cases h4 : a = 0 ∨ b = 0 ∨ nextOK L a = false
                  · rw [← hs, loadL_bad ha hb2 h4]
                  · have h5 := h3.resolve_right h4
                    subst h5
                    rw [← hs, loadL_good ha hb2 hd h4, loadL_none]
                exact ⟨hU, .inr ⟨by rw [hbad]; simp, _, rfl⟩⟩
             · try (exfalso; first | (simp at hb10_10; done) | (simp only [decide_eq_true_eq, decide_eq_false_iff_not, Bool.not_eq_true', Bool.not_eq_false', Bool.not_eq_true, Bool.not_eq_false] at hb10_10; omega) | omega)
               all_goals
                try simp only [decide_eq_true_eq, decide_eq_false_iff_not, Bool.not_eq_true', Bool.not_eq_false', Bool.not_eq_true, Bool.not_eq_false, Option.isNone_none, Option.isNone_some, Option.isSome_none, Option.isSome_some, ne_eq, Decidable.not_not] at hb10_10
                first | refine WN.calm _ rfl rfl rfl rfl rfl (fun _ => r_field0 rfl (ev_t rfl) fld_68_1) ?_ | refine WN.calm _ rfl rfl rfl rfl rfl (fun _ => r_fieldAt rfl (ev_t rfl) fld_68_1) ?_
                refine WN.step _ rfl (SO.val rfl rfl rfl rfl (r_load rfl (ev_t rfl) flat_27 (Blk.cell hBx rfl)) ?_)
                refine ⟨hS10, ?_⟩
                refine WN.calm _ rfl rfl rfl rfl rfl (fun _ => r_eql rfl (ev_t rfl) ev_c) ?_
                refine WN.calm _ rfl rfl rfl rfl rfl (fun _ => r_pickF rfl (ev_t rfl) (ev_t rfl)) ?_
                refine WN.calm _ rfl rfl rfl rfl rfl (fun _ => r_move rfl (ev_t rfl)) ?_
                refine WN.cases 52 rfl (fun hb10_15 => ?_) (fun hb10_15 => ?_)
                · try (exfalso; first | (simp at hb10_15; done) | (simp only [decide_eq_true_eq, decide_eq_false_iff_not, Bool.not_eq_true', Bool.not_eq_false', Bool.not_eq_true, Bool.not_eq_false] at hb10_15; omega) | omega)
                  all_goals
                   try simp only [decide_eq_true_eq, decide_eq_false_iff_not, Bool.not_eq_true', Bool.not_eq_false', Bool.not_eq_true, Bool.not_eq_false, Option.isNone_none, Option.isNone_some, Option.isSome_none, Option.isSome_some, ne_eq, Decidable.not_not] at hb10_15
                   refine WN.skip _ rfl rfl rfl rfl ?_
                   refine WN.skip _ rfl rfl rfl rfl ?_
                   refine WN.skip _ rfl rfl rfl rfl ?_
                   refine WN.skip _ rfl rfl rfl rfl ?_
                   refine WN.skip _ rfl rfl rfl rfl ?_
                   refine WN.skip _ rfl rfl rfl rfl ?_
                   refine WN.skip _ rfl rfl rfl rfl ?_
                   refine WN.skip _ rfl rfl rfl rfl ?_
                   refine WN.skip _ rfl rfl rfl rfl ?_
                   refine WN.heldSkip _ rfl rfl rfl rfl hS10 ?_
                   refine WN.skip _ rfl rfl rfl rfl ?_
                   refine WN.skip _ rfl rfl rfl rfl ?_
                   refine WN.heldSkip _ rfl rfl rfl rfl hS10 ?_
                   refine WN.step _ rfl (SO.skip rfl rfl rfl ?_)
                   refine ⟨hS10, ?_⟩
                   refine WN.skip _ rfl rfl rfl rfl ?_
                   refine WN.skip _ rfl rfl rfl rfl ?_
                   refine WN.calm _ rfl rfl rfl rfl rfl (fun _ => r_pickT rfl (ev_t rfl) ev_c) ?_
                   refine WN.done ?_
                   refine WX.keep [(0, _), (4, _), (5, _), (6, _), (7, _), (8, _), (69, _)] ⟨rfl, rfl, rfl, rfl, rfl, rfl, rfl, trivial⟩ ?_
                   refine WX.next ?_
                   refine WC.cond_true rfl (ev_t rfl) ?_
                   refine WC.seq ?_
                   refine WC.region ?_
                   refine WL.val rfl rfl rfl rfl (r_assign rfl ev_c) ?_
                   refine WL.val rfl rfl rfl rfl (r_assign rfl ev_c) ?_
                   refine WL.nil ?_
                   refine WX.keep [(2, _), (3, _)] ⟨rfl, rfl, trivial⟩ ?_
                   refine WX.next ?_
                   refine WC.ret ?_
                   refine WX.thenRet ?_
                   refine WX.blockRet ?_
                   refine WX.thenRet ?_
                   refine WX.thenRet ?_
                   refine WX.blockRet ?_
                   refine WX.thenRet ?_
                   refine WX.retE2 rfl rfl rfl ?_
                   have hbad : fin.1 = none := by
                     have h3 : s3 = none ∨ (a = 0 ∨ b = 0 ∨ nextOK L a = false) := by
                       by_cases h3 : s3 = none
                       · exact .inl h3
                       · have : ¬ at2 < 0 := fun h => h3 (hneg.1 h)
                         right
                         first | omega | simp_all
                     by_cases h4 : a = 0 ∨ b = 0 ∨ nextOK L a = false
                     · rw [← hs, loadL_bad ha hb2 h4]
                     · have h5 := h3.resolve_right h4
                       subst h5
                       rw [← hs, loadL_good ha hb2 hd h4, loadL_none]
                   exact ⟨hU, .inr ⟨by rw [hbad]; simp, _, rfl⟩⟩
                · try (exfalso; first | (simp at hb10_15; done) | (simp only [decide_eq_true_eq, decide_eq_false_iff_not, Bool.not_eq_true', Bool.not_eq_false', Bool.not_eq_true, Bool.not_eq_false] at hb10_15; omega) | omega)
                  all_goals
                   try simp only [decide_eq_true_eq, decide_eq_false_iff_not, Bool.not_eq_true', Bool.not_eq_false', Bool.not_eq_true, Bool.not_eq_false, Option.isNone_none, Option.isNone_some, Option.isSome_none, Option.isSome_some, ne_eq, Decidable.not_not] at hb10_15
                   refine WN.calm _ rfl rfl rfl rfl rfl (fun _ => r_move rfl (ev_t rfl)) ?_
                   refine WN.calm _ rfl rfl rfl rfl rfl (fun _ => r_gtr rfl (ev_t rfl) ev_c) ?_
                   refine WN.calm _ rfl rfl rfl rfl rfl (fun _ => r_move rfl (ev_t rfl)) ?_
                   refine WN.cases 55 rfl (fun hb10_18 => ?_) (fun hb10_18 => ?_)
                   · try (exfalso; first | (simp at hb10_18; done) | (simp only [decide_eq_true_eq, decide_eq_false_iff_not, Bool.not_eq_true', Bool.not_eq_false', Bool.not_eq_true, Bool.not_eq_false] at hb10_18; omega) | omega)
                     all_goals
                      try simp only [decide_eq_true_eq, decide_eq_false_iff_not, Bool.not_eq_true', Bool.not_eq_false', Bool.not_eq_true, Bool.not_eq_false, Option.isNone_none, Option.isNone_some, Option.isSome_none, Option.isSome_some, ne_eq, Decidable.not_not] at hb10_18
                      obtain ⟨r, hg⟩ : ∃ r, V[V.length - 1]? = some r := ⟨_, List.getElem?_eq_getElem (by omega)⟩
                      rw [hg] at hnx
                      have hr := hO.rd (by omega)
                      obtain ⟨bb, off, rfl, _⟩ := hr.open (by omega)
                      have hcell := flatMap_get LsV.cells_len hg
                      refine WN.calm _ rfl rfl rfl rfl rfl (fun _ => r_move rfl (ev_t rfl)) ?_
                      refine WN.calm _ rfl rfl rfl rfl rfl (fun _ => r_nilCheck rfl (ev_t rfl)) ?_
                      first | refine WN.calm _ rfl rfl rfl rfl rfl (fun _ => r_field0 rfl (ev_t rfl) fld_42_0) ?_ | refine WN.calm _ rfl rfl rfl rfl rfl (fun _ => r_fieldAt rfl (ev_t rfl) fld_42_0) ?_
                      refine WN.calm _ rfl rfl rfl rfl rfl (fun _ => r_move rfl (ev_t rfl)) ?_
                      first | refine WN.calm _ rfl rfl rfl rfl rfl (fun _ => r_subN rfl (ev_t rfl) ev_c (by simp only [inK]; omega)) ?_ | refine WN.calm _ rfl rfl rfl rfl rfl (fun _ => r_sub rfl (ev_t rfl) ev_c) ?_
                      first | refine WN.calm _ rfl rfl rfl rfl rfl (fun _ => r_field0 rfl (ev_t rfl) fld_68_0) ?_ | refine WN.calm _ rfl rfl rfl rfl rfl (fun _ => r_fieldAt rfl (ev_t rfl) fld_68_0) ?_
                      refine WN.held _ rfl rfl rfl rfl rfl hS10 (fun w' hS => r_load rfl (ev_t rfl) flat_40 (Blk.cell (hB.upd hS (fun h => h)) rfl)) ?_
                      refine WN.calm _ rfl rfl rfl rfl rfl (fun _ => r_indexAddr rfl (ev_t rfl) (ev_t rfl) elem_40 size_68 (by omega) (by omega)) ?_
                      first | refine WN.calm _ rfl rfl rfl rfl rfl (fun _ => r_field0 rfl (ev_t rfl) fld_68_0) ?_ | refine WN.calm _ rfl rfl rfl rfl rfl (fun _ => r_fieldAt rfl (ev_t rfl) fld_68_0) ?_
                      refine WN.held _ rfl rfl rfl rfl rfl hS10 (fun w' hS => r_load rfl (ev_t rfl) flat_27 (Rd.cell (hr.upd hS (fun _ _ _ h => h)) (j := (V.length - 1) * 3) (by omega) (hcell 0 _ rfl))) ?_
                      refine WN.step _ rfl (SO.val rfl rfl rfl rfl (r_load rfl (ev_t rfl) flat_27 (Blk.cell hBx rfl)) ?_)
                      refine ⟨hS10, ?_⟩
                      refine WN.calm _ rfl rfl rfl rfl rfl (fun _ => r_geq rfl (ev_t rfl) (ev_t rfl)) ?_
                      refine WN.calm _ rfl rfl rfl rfl rfl (fun _ => r_pickT rfl (ev_t rfl) (ev_t rfl)) ?_
                      refine WN.calm _ rfl rfl rfl rfl rfl (fun _ => r_pickF rfl (ev_t rfl) (ev_t rfl)) ?_
                      refine WN.done ?_
                      refine WX.keep [(0, _), (4, _), (5, _), (6, _), (7, _), (8, _), (69, _)] ⟨rfl, rfl, rfl, rfl, rfl, rfl, rfl, trivial⟩ ?_
                      refine WX.next ?_
                      refine WC.cond rfl (ev_t rfl) (fun hc10 => ?_) (fun hc10 => ?_)
                      · try (exfalso; first | (simp at hc10; done) | (simp only [decide_eq_true_eq, decide_eq_false_iff_not, Bool.not_eq_true', Bool.not_eq_false', Bool.not_eq_true, Bool.not_eq_false] at hc10; omega) | omega)
                        all_goals
                         try simp only [decide_eq_true_eq, decide_eq_false_iff_not, Bool.not_eq_true', Bool.not_eq_false', Bool.not_eq_true, Bool.not_eq_false, Option.isNone_none, Option.isNone_some, Option.isSome_none, Option.isSome_some, ne_eq, Decidable.not_not] at hc10
                         refine WC.seq ?_
                         refine WC.region ?_
                         refine WL.val rfl rfl rfl rfl (r_assign rfl ev_c) ?_
                         refine WL.val rfl rfl rfl rfl (r_assign rfl ev_c) ?_
                         refine WL.nil ?_
                         refine WX.keep [(2, _), (3, _)] ⟨rfl, rfl, trivial⟩ ?_
                         refine WX.next ?_
                         refine WC.ret ?_
                         refine WX.thenRet ?_
                         refine WX.blockRet ?_
                         refine WX.thenRet ?_
                         refine WX.thenRet ?_
                         refine WX.blockRet ?_
                         refine WX.thenRet ?_
                         refine WX.retE2 rfl rfl rfl ?_
                         have hbad : fin.1 = none := by
                           have h3 : s3 = none ∨ (a = 0 ∨ b = 0 ∨ nextOK L a = false) := by
                             by_cases h3 : s3 = none
                             · exact .inl h3
                             · have : ¬ at2 < 0 := fun h => h3 (hneg.1 h)
                               right
                               first | omega | simp_all
                           by_cases h4 : a = 0 ∨ b = 0 ∨ nextOK L a = false
                           · rw [← hs, loadL_bad ha hb2 h4]
                           · have h5 := h3.resolve_right h4
                             subst h5
                             rw [← hs, loadL_good ha hb2 hd h4, loadL_none]
                         exact ⟨hU, .inr ⟨by rw [hbad]; simp, _, rfl⟩⟩
                      · try (exfalso; first | (simp at hc10; done) | (simp only [decide_eq_true_eq, decide_eq_false_iff_not, Bool.not_eq_true', Bool.not_eq_false', Bool.not_eq_true, Bool.not_eq_false] at hc10; omega) | omega)
                        all_goals
                         try simp only [decide_eq_true_eq, decide_eq_false_iff_not, Bool.not_eq_true', Bool.not_eq_false', Bool.not_eq_true, Bool.not_eq_false, Option.isNone_none, Option.isNone_some, Option.isSome_none, Option.isSome_some, ne_eq, Decidable.not_not] at hc10
                         refine WC.skip ?_
                         refine WX.next ?_
                         refine WC.draws' (fun u0_ u1_ => Upd No u0_ u1_) (fun j => [0, 0, 0, 0, 0, 1, 1, 2, 0, 0, 2].getD j 0) (.calm 0 (.calm 1 (.calm 2 (.calm 3 (.held 4 (.one 5 (.one 6 (.one 7 (.calm 8 (.calm 9 (.one 10 (.done)))))))))))) mixed (by kernel_rfl) (by repeat (first | with_reducible exact Deaf.body | with_reducible apply Deaf.then | with_reducible apply Deaf.block)) ?_
                         intro w12 hu12
                         have hz12 := congrArg Array.size hu12.2.2.2
                         replace hu12 := Upd.of_draw hu12
                         have hs12 := hu12.size
                         replace hU := hU.trans hu12 (by first | exact (fun _ _ h => h) | exact (fun _ _ h => h.elim) | (intro k hl hk; (try simp only [At, New, Grow, From, No] at hk ⊢); omega) | (intro k hl hk; first | (have h1 := hG k hk; have h2 := hMw k h1.1; omega) | ((try simp only [At, New, Grow, From, No] at *); omega)))
                         replace hR := hR.upd hu12 (by first | exact (fun h => h) | (exact fun h => by have := hMw _ (hG _ h).1; omega) | (simp only [At, No]; omega)) (by first | exact (fun _ _ _ h => h) | (intro k hk hl hS; have := hFl k hk; first | (have := hMw _ (hG _ hS).1; omega) | (simp only [At, No] at hS; omega)))
                         replace hT := hT.upd hu12 (by first | exact (fun _ _ _ h => h) | (intro k hk hl hS; have := hMw k hk; have := hMl k hk; simp only [At, No] at hS; omega)) (by first | exact (fun _ _ _ h => h) | (intro k hk hl hS; have := hFl k hk; simp only [At, No] at hS; omega))
                         replace hBx := hBx.upd hu12 (by first | exact (fun h => h) | (exact fun h => by have := hMl _ (hG _ h).1; omega) | (simp only [At]; omega))
                         replace hcl := hcl.upd hu12 (by first | exact (fun _ _ _ h => h) | (intro k hk hl hS; have := hFl k hk; first | (have := hMw _ (hG _ hS).1; omega) | (simp only [At] at hS; omega)))
                         replace hB := hB.upd hu12 (by first | exact (fun h => h) | (exact fun h => (hG _ h).2.1 rfl) | (simp only [At, No]; omega))
                         replace hO := hO.upd hu12 (by first | exact (fun _ _ _ h => h) | (intro k hk hl hS; have := hG k hk; have := hMw k this.1; simp only [At, No] at hS; omega))
                         replace hb := hb.upd hu12 (by first | exact (fun h => h) | (exact fun h => by have := hMw _ (hG _ h).1; omega) | (simp only [At, No]; omega))
                         replace hV := hV.upd hu12 (by first | exact (fun _ _ h => h) | exact (fun _ _ h => h.elim) | (intro k hk hl; simp only [At, No] at *; omega))
                         have hS12 := Upd.refl No w12
                         refine WN.calm _ rfl rfl rfl rfl rfl (fun _ => r_move rfl (ev_t rfl)) ?_
                         refine WN.calm _ rfl rfl rfl rfl rfl (fun _ => r_move rfl (ev_t rfl)) ?_
                         refine WN.calm _ rfl rfl rfl rfl rfl (fun _ => r_nilCheck rfl (ev_t rfl)) ?_
                         first | refine WN.calm _ rfl rfl rfl rfl rfl (fun _ => r_field0 rfl (ev_t rfl) fld_42_0) ?_ | refine WN.calm _ rfl rfl rfl rfl rfl (fun _ => r_fieldAt rfl (ev_t rfl) fld_42_0) ?_
                         refine WN.held _ rfl rfl rfl rfl rfl hS12 (fun w' hS => r_load rfl (ev_t rfl) flat_40 (Blk.cell (hB.upd hS (fun h => h)) rfl)) ?_
                         refine WN.step _ rfl (SO.val rfl rfl rfl rfl (r_loadAgg (vs := [_, _, _]) rfl (ev_t rfl) agg_68 size_68 (Blk.cellsL hBx)) ?_)
                         refine ⟨hS12, ?_⟩
                         refine WN.step _ rfl (SO.alloc rfl rfl rfl rfl (r_buildSlice (cs := #[_, _, _]) (vs := [(0, _)]) rfl ⟨⟨rfl, (ev_t rfl)⟩, trivial⟩ row_40 rfl rfl) ?_)
                         intro w13 hu13 hB13 hz13
                         have hs13 := hu13.size
                         replace hS12 := Upd.transA hS12 hu13
                         replace hU := hU.trans hu13 (by first | exact (fun _ _ h => h) | exact (fun _ _ h => h.elim) | (intro k hl hk; (try simp only [At, New, Grow, From, No] at hk ⊢); omega) | (intro k hl hk; first | (have h1 := hG k hk; have h2 := hMw k h1.1; omega) | ((try simp only [At, New, Grow, From, No] at *); omega)))
                         replace hR := hR.upd hu13 (by first | exact (fun h => h) | (exact fun h => by have := hMw _ (hG _ h).1; omega) | (simp only [At, No]; omega)) (by first | exact (fun _ _ _ h => h) | (intro k hk hl hS; have := hFl k hk; first | (have := hMw _ (hG _ hS).1; omega) | (simp only [At, No] at hS; omega)))
                         replace hT := hT.upd hu13 (by first | exact (fun _ _ _ h => h) | (intro k hk hl hS; have := hMw k hk; have := hMl k hk; simp only [At, No] at hS; omega)) (by first | exact (fun _ _ _ h => h) | (intro k hk hl hS; have := hFl k hk; simp only [At, No] at hS; omega))
                         replace hBx := hBx.upd hu13 (by first | exact (fun h => h) | (exact fun h => by have := hMl _ (hG _ h).1; omega) | (simp only [At]; omega))
                         replace hcl := hcl.upd hu13 (by first | exact (fun _ _ _ h => h) | (intro k hk hl hS; have := hFl k hk; first | (have := hMw _ (hG _ hS).1; omega) | (simp only [At] at hS; omega)))
                         replace hB := hB.upd hu13 (by first | exact (fun h => h) | (exact fun h => (hG _ h).2.1 rfl) | (simp only [At, No]; omega))
                         replace hO := hO.upd hu13 (by first | exact (fun _ _ _ h => h) | (intro k hk hl hS; have := hG k hk; have := hMw k this.1; simp only [At, No] at hS; omega))
                         replace hb := hb.upd hu13 (by first | exact (fun h => h) | (exact fun h => by have := hMw _ (hG _ h).1; omega) | (simp only [At, No]; omega))
                         replace hV := hV.upd hu13 (by first | exact (fun _ _ h => h) | exact (fun _ _ h => h.elim) | (intro k hk hl; simp only [At, No] at *; omega))
                         refine ⟨hS12, ?_⟩
                         have hwA := hV
                         have hclA := hcl
                         have hsA := hwA.size
                         refine WN.step _ rfl (SO.append hO (Rd.of_blk (F := At _) (n := 1) (sz := 3) hB13 rfl rfl (by omega)) row_40 (by intro u hu; simp only [List.mem_cons, List.not_mem_nil, or_false, Array.toList] at hu; rcases hu with rfl | rfl | rfl <;> rfl) (le_maxLen (by omega)) (by omega) rfl (ev_t rfl) (ev_t rfl) rfl rfl rfl rfl ?_)
                         intro v14 w14 ho hu14
                         have hs14 := hu14.size
                         try replace hS12 := Upd.transA hS12 hu14
                         replace hU := hU.trans hu14 (by first | exact (fun _ _ h => h) | exact (fun _ _ h => h.elim) | (intro k hl hk; (try simp only [At, New, Grow, From, No] at hk ⊢); omega) | (intro k hl hk; first | (have h1 := hG k hk; have h2 := hMw k h1.1; omega) | ((try simp only [At, New, Grow, From, No] at *); omega)))
                         replace hR := hR.upd hu14 (by first | exact (fun h => h) | (exact fun h => by have := hMw _ (hG _ h).1; omega) | (simp only [At, No]; omega)) (by first | exact (fun _ _ _ h => h) | (intro k hk hl hS; have := hFl k hk; first | (have := hMw _ (hG _ hS).1; omega) | (simp only [At, No] at hS; omega)))
                         replace hBx := hBx.upd hu14 (by first | exact (fun h => h) | (exact fun h => by have := hMl _ (hG _ h).1; omega) | (simp only [At]; omega))
                         replace hcl := hcl.upd hu14 (by first | exact (fun _ _ _ h => h) | (intro k hk hl hS; have := hFl k hk; first | (have := hMw _ (hG _ hS).1; omega) | (simp only [At] at hS; omega)))
                         replace hB := hB.upd hu14 (by first | exact (fun h => h) | (exact fun h => (hG _ h).2.1 rfl) | (simp only [At, No]; omega))
                         refine ⟨trivial, ?_⟩
                         obtain ⟨A14, c14, rfl, hc14⟩ := Own.form ho
                         have hwB := hu14
                         refine WN.calm _ rfl rfl rfl rfl rfl (fun _ => r_nilCheck rfl (ev_t rfl)) ?_
                         first | refine WN.calm _ rfl rfl rfl rfl rfl (fun _ => r_field0 rfl (ev_t rfl) fld_42_0) ?_ | refine WN.calm _ rfl rfl rfl rfl rfl (fun _ => r_fieldAt rfl (ev_t rfl) fld_42_0) ?_
                         refine WN.step _ rfl (SO.store rfl (ev_t rfl) (ev_t rfl) size_40 hB rfl rfl rfl rfl rfl ?_)
                         intro w15 hu15 hB2 hz
                         have hpush := IsTH.push (TT := 42) (r := ⟨⟨a, b, d⟩, .slice Ad d.length cd⟩) (fun r hr => (hD r hr).upd hwA (fun _ _ _ h => h)) htM (by omega) (fun k hk => by have := hG k hk; exact ⟨this.1, this.2.1, by omega⟩) (fun k hk => by have := hH k hk; exact ⟨this.1, by omega⟩) hclA ho hwB hB2 hu15
                         have hs17 := hu15.size
                         have hs16 := hwB.size
                         rw [hLV] at hpush
                         have hs15 := hu15.size
                         try replace hS12 := Upd.transA hS12 hu15
                         replace hU := hU.trans hu15 (by first | exact (fun _ _ h => h) | exact (fun _ _ h => h.elim) | (intro k hl hk; (try simp only [At, New, Grow, From, No] at hk ⊢); omega) | (intro k hl hk; first | (have h1 := hG k hk; have h2 := hMw k h1.1; omega) | ((try simp only [At, New, Grow, From, No] at *); omega)))
                         replace hR := hR.upd hu15 (by first | exact (fun h => h) | (exact fun h => by have := hMw _ (hG _ h).1; omega) | (simp only [At, No]; omega)) (by first | exact (fun _ _ _ h => h) | (intro k hk hl hS; have := hFl k hk; first | (have := hMw _ (hG _ hS).1; omega) | (simp only [At, No] at hS; omega)))
                         replace hBx := hBx.upd hu15 (by first | exact (fun h => h) | (exact fun h => by have := hMl _ (hG _ h).1; omega) | (simp only [At]; omega))
                         replace hcl := hcl.upd hu15 (by first | exact (fun _ _ _ h => h) | (intro k hk hl hS; have := hFl k hk; first | (have := hMw _ (hG _ hS).1; omega) | (simp only [At] at hS; omega)))
                         refine ⟨trivial, ?_⟩
                         refine WN.done ?_
                         refine WX.keep [(0, _), (4, _), (5, _), (6, _), (7, _)] ⟨rfl, rfl, rfl, rfl, rfl, trivial⟩ ?_
                         refine WX.blockNormal ?_
                         refine WX.next ?_
                         refine WC.region ?_
                         refine WL.val rfl rfl rfl rfl (r_move rfl (ev_t rfl)) ?_
                         first | refine WL.val rfl rfl rfl rfl (r_addN rfl (ev_t rfl) ev_c (by simp only [inK]; omega)) ?_ | refine WL.val rfl rfl rfl rfl (r_add rfl (ev_t rfl) ev_c) ?_
                         refine WL.val rfl rfl rfl rfl (r_assign rfl (ev_t rfl)) ?_
                         refine WL.nil ?_
                         refine WX.keep [(0, _), (4, _), (5, _), (6, _), (7, _)] ⟨rfl, rfl, rfl, rfl, rfl, trivial⟩ ?_
                         refine WX.meet [(0, _), (4, _), (5, _), (6, _), (7, _)] ⟨rfl, rfl, rfl, rfl, rfl, trivial⟩ ?_
                         have hgood : ¬ (a = 0 ∨ b = 0 ∨ nextOK L a = false) := by simp_all
                         have hs3 : s3 ≠ none := fun h => by have := hneg.2 h; omega
                         refine ⟨n0 - (i + 1), by omega, i + 1, s3, L ++ [⟨a, b, d⟩], _, by omega, rfl, by simp [hLi], hU, hR, hpush, ?_, ?_, .inr ⟨hs3, ?_⟩, rfl⟩
                         · rintro k (hk | hk)
                           · exact hMw k hk
                           · omega
                         · rintro k (hk | hk)
                           · have := hMl k hk; omega
                           · omega
                         · rw [loadL_good ha hb2 hd hgood] at hs
                           rw [show n0 - (i + 1) = q1 by omega]
                           exact hs
                   · try (exfalso; first | (simp at hb10_18; done) | (simp only [decide_eq_true_eq, decide_eq_false_iff_not, Bool.not_eq_true', Bool.not_eq_false', Bool.not_eq_true, Bool.not_eq_false] at hb10_18; omega) | omega)
                     all_goals
                      try simp only [decide_eq_true_eq, decide_eq_false_iff_not, Bool.not_eq_true', Bool.not_eq_false', Bool.not_eq_true, Bool.not_eq_false, Option.isNone_none, Option.isNone_some, Option.isSome_none, Option.isSome_some, ne_eq, Decidable.not_not] at hb10_18
                      refine WN.skip _ rfl rfl rfl rfl ?_
                      refine WN.skip _ rfl rfl rfl rfl ?_
                      refine WN.skip _ rfl rfl rfl rfl ?_
                      refine WN.skip _ rfl rfl rfl rfl ?_
                      refine WN.skip _ rfl rfl rfl rfl ?_
                      refine WN.skip _ rfl rfl rfl rfl ?_
                      refine WN.heldSkip _ rfl rfl rfl rfl hS10 ?_
                      refine WN.skip _ rfl rfl rfl rfl ?_
                      refine WN.skip _ rfl rfl rfl rfl ?_
                      refine WN.heldSkip _ rfl rfl rfl rfl hS10 ?_
                      refine WN.step _ rfl (SO.skip rfl rfl rfl ?_)
                      refine ⟨hS10, ?_⟩
                      refine WN.skip _ rfl rfl rfl rfl ?_
                      refine WN.calm _ rfl rfl rfl rfl rfl (fun _ => r_pickF rfl (ev_t rfl) ev_c) ?_
                      refine WN.calm _ rfl rfl rfl rfl rfl (fun _ => r_pickF rfl (ev_t rfl) (ev_t rfl)) ?_
                      refine WN.done ?_
                      refine WX.keep [(0, _), (4, _), (5, _), (6, _), (7, _), (8, _), (69, _)] ⟨rfl, rfl, rfl, rfl, rfl, rfl, rfl, trivial⟩ ?_
                      refine WX.next ?_
                      refine WC.cond_false rfl (ev_t rfl) ?_
                      refine WC.skip ?_
                      refine WX.next ?_
                      refine WC.draws' (fun u0_ u1_ => Upd No u0_ u1_) (fun j => [0, 0, 0, 0, 0, 1, 1, 2, 0, 0, 2].getD j 0) (.calm 0 (.calm 1 (.calm 2 (.calm 3 (.held 4 (.one 5 (.one 6 (.one 7 (.calm 8 (.calm 9 (.one 10 (.done)))))))))))) mixed (by kernel_rfl) (by repeat (first | with_reducible exact Deaf.body | with_reducible apply Deaf.then | with_reducible apply Deaf.block)) ?_
                      intro w16 hu16
                      have hz16 := congrArg Array.size hu16.2.2.2
                      replace hu16 := Upd.of_draw hu16
                      have hs16 := hu16.size
                      replace hU := hU.trans hu16 (by first | exact (fun _ _ h => h) | exact (fun _ _ h => h.elim) | (intro k hl hk; (try simp only [At, New, Grow, From, No] at hk ⊢); omega) | (intro k hl hk; first | (have h1 := hG k hk; have h2 := hMw k h1.1; omega) | ((try simp only [At, New, Grow, From, No] at *); omega)))
                      replace hR := hR.upd hu16 (by first | exact (fun h => h) | (exact fun h => by have := hMw _ (hG _ h).1; omega) | (simp only [At, No]; omega)) (by first | exact (fun _ _ _ h => h) | (intro k hk hl hS; have := hFl k hk; first | (have := hMw _ (hG _ hS).1; omega) | (simp only [At, No] at hS; omega)))
                      replace hT := hT.upd hu16 (by first | exact (fun _ _ _ h => h) | (intro k hk hl hS; have := hMw k hk; have := hMl k hk; simp only [At, No] at hS; omega)) (by first | exact (fun _ _ _ h => h) | (intro k hk hl hS; have := hFl k hk; simp only [At, No] at hS; omega))
                      replace hBx := hBx.upd hu16 (by first | exact (fun h => h) | (exact fun h => by have := hMl _ (hG _ h).1; omega) | (simp only [At]; omega))
                      replace hcl := hcl.upd hu16 (by first | exact (fun _ _ _ h => h) | (intro k hk hl hS; have := hFl k hk; first | (have := hMw _ (hG _ hS).1; omega) | (simp only [At] at hS; omega)))
                      replace hB := hB.upd hu16 (by first | exact (fun h => h) | (exact fun h => (hG _ h).2.1 rfl) | (simp only [At, No]; omega))
                      replace hO := hO.upd hu16 (by first | exact (fun _ _ _ h => h) | (intro k hk hl hS; have := hG k hk; have := hMw k this.1; simp only [At, No] at hS; omega))
                      replace hb := hb.upd hu16 (by first | exact (fun h => h) | (exact fun h => by have := hMw _ (hG _ h).1; omega) | (simp only [At, No]; omega))
                      replace hV := hV.upd hu16 (by first | exact (fun _ _ h => h) | exact (fun _ _ h => h.elim) | (intro k hk hl; simp only [At, No] at *; omega))
                      have hS12 := Upd.refl No w16
                      refine WN.calm _ rfl rfl rfl rfl rfl (fun _ => r_move rfl (ev_t rfl)) ?_
                      refine WN.calm _ rfl rfl rfl rfl rfl (fun _ => r_move rfl (ev_t rfl)) ?_
                      refine WN.calm _ rfl rfl rfl rfl rfl (fun _ => r_nilCheck rfl (ev_t rfl)) ?_
                      first | refine WN.calm _ rfl rfl rfl rfl rfl (fun _ => r_field0 rfl (ev_t rfl) fld_42_0) ?_ | refine WN.calm _ rfl rfl rfl rfl rfl (fun _ => r_fieldAt rfl (ev_t rfl) fld_42_0) ?_
                      refine WN.held _ rfl rfl rfl rfl rfl hS12 (fun w' hS => r_load rfl (ev_t rfl) flat_40 (Blk.cell (hB.upd hS (fun h => h)) rfl)) ?_
                      refine WN.step _ rfl (SO.val rfl rfl rfl rfl (r_loadAgg (vs := [_, _, _]) rfl (ev_t rfl) agg_68 size_68 (Blk.cellsL hBx)) ?_)
                      refine ⟨hS12, ?_⟩
                      refine WN.step _ rfl (SO.alloc rfl rfl rfl rfl (r_buildSlice (cs := #[_, _, _]) (vs := [(0, _)]) rfl ⟨⟨rfl, (ev_t rfl)⟩, trivial⟩ row_40 rfl rfl) ?_)
                      intro w17 hu17 hB17 hz17
                      have hs17 := hu17.size
                      replace hS12 := Upd.transA hS12 hu17
                      replace hU := hU.trans hu17 (by first | exact (fun _ _ h => h) | exact (fun _ _ h => h.elim) | (intro k hl hk; (try simp only [At, New, Grow, From, No] at hk ⊢); omega) | (intro k hl hk; first | (have h1 := hG k hk; have h2 := hMw k h1.1; omega) | ((try simp only [At, New, Grow, From, No] at *); omega)))
                      replace hR := hR.upd hu17 (by first | exact (fun h => h) | (exact fun h => by have := hMw _ (hG _ h).1; omega) | (simp only [At, No]; omega)) (by first | exact (fun _ _ _ h => h) | (intro k hk hl hS; have := hFl k hk; first | (have := hMw _ (hG _ hS).1; omega) | (simp only [At, No] at hS; omega)))
                      replace hT := hT.upd hu17 (by first | exact (fun _ _ _ h => h) | (intro k hk hl hS; have := hMw k hk; have := hMl k hk; simp only [At, No] at hS; omega)) (by first | exact (fun _ _ _ h => h) | (intro k hk hl hS; have := hFl k hk; simp only [At, No] at hS; omega))
                      replace hBx := hBx.upd hu17 (by first | exact (fun h => h) | (exact fun h => by have := hMl _ (hG _ h).1; omega) | (simp only [At]; omega))
                      replace hcl := hcl.upd hu17 (by first | exact (fun _ _ _ h => h) | (intro k hk hl hS; have := hFl k hk; first | (have := hMw _ (hG _ hS).1; omega) | (simp only [At] at hS; omega)))
                      replace hB := hB.upd hu17 (by first | exact (fun h => h) | (exact fun h => (hG _ h).2.1 rfl) | (simp only [At, No]; omega))
                      replace hO := hO.upd hu17 (by first | exact (fun _ _ _ h => h) | (intro k hk hl hS; have := hG k hk; have := hMw k this.1; simp only [At, No] at hS; omega))
                      replace hb := hb.upd hu17 (by first | exact (fun h => h) | (exact fun h => by have := hMw _ (hG _ h).1; omega) | (simp only [At, No]; omega))
                      replace hV := hV.upd hu17 (by first | exact (fun _ _ h => h) | exact (fun _ _ h => h.elim) | (intro k hk hl; simp only [At, No] at *; omega))
                      refine ⟨hS12, ?_⟩
                      have hwA := hV
                      have hclA := hcl
                      have hsA := hwA.size
                      refine WN.step _ rfl (SO.append hO (Rd.of_blk (F := At _) (n := 1) (sz := 3) hB17 rfl rfl (by omega)) row_40 (by intro u hu; simp only [List.mem_cons, List.not_mem_nil, or_false, Array.toList] at hu; rcases hu with rfl | rfl | rfl <;> rfl) (le_maxLen (by omega)) (by omega) rfl (ev_t rfl) (ev_t rfl) rfl rfl rfl rfl ?_)
                      intro v18 w18 ho hu18
                      have hs18 := hu18.size
                      try replace hS12 := Upd.transA hS12 hu18
                      replace hU := hU.trans hu18 (by first | exact (fun _ _ h => h) | exact (fun _ _ h => h.elim) | (intro k hl hk; (try simp only [At, New, Grow, From, No] at hk ⊢); omega) | (intro k hl hk; first | (have h1 := hG k hk; have h2 := hMw k h1.1; omega) | ((try simp only [At, New, Grow, From, No] at *); omega)))
                      replace hR := hR.upd hu18 (by first | exact (fun h => h) | (exact fun h => by have := hMw _ (hG _ h).1; omega) | (simp only [At, No]; omega)) (by first | exact (fun _ _ _ h => h) | (intro k hk hl hS; have := hFl k hk; first | (have := hMw _ (hG _ hS).1; omega) | (simp only [At, No] at hS; omega)))
                      replace hBx := hBx.upd hu18 (by first | exact (fun h => h) | (exact fun h => by have := hMl _ (hG _ h).1; omega) | (simp only [At]; omega))
                      replace hcl := hcl.upd hu18 (by first | exact (fun _ _ _ h => h) | (intro k hk hl hS; have := hFl k hk; first | (have := hMw _ (hG _ hS).1; omega) | (simp only [At] at hS; omega)))
                      replace hB := hB.upd hu18 (by first | exact (fun h => h) | (exact fun h => (hG _ h).2.1 rfl) | (simp only [At, No]; omega))
                      refine ⟨trivial, ?_⟩
                      obtain ⟨A18, c18, rfl, hc18⟩ := Own.form ho
                      have hwB := hu18
                      refine WN.calm _ rfl rfl rfl rfl rfl (fun _ => r_nilCheck rfl (ev_t rfl)) ?_
                      first | refine WN.calm _ rfl rfl rfl rfl rfl (fun _ => r_field0 rfl (ev_t rfl) fld_42_0) ?_ | refine WN.calm _ rfl rfl rfl rfl rfl (fun _ => r_fieldAt rfl (ev_t rfl) fld_42_0) ?_
                      refine WN.step _ rfl (SO.store rfl (ev_t rfl) (ev_t rfl) size_40 hB rfl rfl rfl rfl rfl ?_)
                      intro w19 hu19 hB2 hz
                      have hpush := IsTH.push (TT := 42) (r := ⟨⟨a, b, d⟩, .slice Ad d.length cd⟩) (fun r hr => (hD r hr).upd hwA (fun _ _ _ h => h)) htM (by omega) (fun k hk => by have := hG k hk; exact ⟨this.1, this.2.1, by omega⟩) (fun k hk => by have := hH k hk; exact ⟨this.1, by omega⟩) hclA ho hwB hB2 hu19
                      have hs17 := hu19.size
                      have hs16 := hwB.size
                      rw [hLV] at hpush
                      have hs19 := hu19.size
                      try replace hS12 := Upd.transA hS12 hu19
                      replace hU := hU.trans hu19 (by first | exact (fun _ _ h => h) | exact (fun _ _ h => h.elim) | (intro k hl hk; (try simp only [At, New, Grow, From, No] at hk ⊢); omega) | (intro k hl hk; first | (have h1 := hG k hk; have h2 := hMw k h1.1; omega) | ((try simp only [At, New, Grow, From, No] at *); omega)))
                      replace hR := hR.upd hu19 (by first | exact (fun h => h) | (exact fun h => by have := hMw _ (hG _ h).1; omega) | (simp only [At, No]; omega)) (by first | exact (fun _ _ _ h => h) | (intro k hk hl hS; have := hFl k hk; first | (have := hMw _ (hG _ hS).1; omega) | (simp only [At, No] at hS; omega)))
                      replace hBx := hBx.upd hu19 (by first | exact (fun h => h) | (exact fun h => by have := hMl _ (hG _ h).1; omega) | (simp only [At]; omega))
                      replace hcl := hcl.upd hu19 (by first | exact (fun _ _ _ h => h) | (intro k hk hl hS; have := hFl k hk; first | (have := hMw _ (hG _ hS).1; omega) | (simp only [At] at hS; omega)))
                      refine ⟨trivial, ?_⟩
                      refine WN.done ?_
                      refine WX.keep [(0, _), (4, _), (5, _), (6, _), (7, _)] ⟨rfl, rfl, rfl, rfl, rfl, trivial⟩ ?_
                      refine WX.blockNormal ?_
                      refine WX.next ?_
                      refine WC.region ?_
                      refine WL.val rfl rfl rfl rfl (r_move rfl (ev_t rfl)) ?_
                      first | refine WL.val rfl rfl rfl rfl (r_addN rfl (ev_t rfl) ev_c (by simp only [inK]; omega)) ?_ | refine WL.val rfl rfl rfl rfl (r_add rfl (ev_t rfl) ev_c) ?_
                      refine WL.val rfl rfl rfl rfl (r_assign rfl (ev_t rfl)) ?_
                      refine WL.nil ?_
                      refine WX.keep [(0, _), (4, _), (5, _), (6, _), (7, _)] ⟨rfl, rfl, rfl, rfl, rfl, trivial⟩ ?_
                      refine WX.meet [(0, _), (4, _), (5, _), (6, _), (7, _)] ⟨rfl, rfl, rfl, rfl, rfl, trivial⟩ ?_
                      have hgood : ¬ (a = 0 ∨ b = 0 ∨ nextOK L a = false) := by simp_all
                      have hs3 : s3 ≠ none := fun h => by have := hneg.2 h; omega
                      refine ⟨n0 - (i + 1), by omega, i + 1, s3, L ++ [⟨a, b, d⟩], _, by omega, rfl, by simp [hLi], hU, hR, hpush, ?_, ?_, .inr ⟨hs3, ?_⟩, rfl⟩
                      · rintro k (hk | hk)
                        · exact hMw k hk
                        · omega
                      · rintro k (hk | hk)
                        · have := hMl k hk; omega
                        · omega
                      · rw [loadL_good ha hb2 hd hgood] at hs
                        rw [show n0 - (i + 1) = q1 by omega]
                        exact hs
       · try (exfalso; first | (simp at hc5; done) | (simp only [decide_eq_true_eq, decide_eq_false_iff_not, Bool.not_eq_true', Bool.not_eq_false', Bool.not_eq_true, Bool.not_eq_false] at hc5; omega) | omega)
         all_goals
          try simp only [decide_eq_true_eq, decide_eq_false_iff_not, Bool.not_eq_true', Bool.not_eq_false', Bool.not_eq_true, Bool.not_eq_false, Option.isNone_none, Option.isNone_some, Option.isSome_none, Option.isSome_some, ne_eq, Decidable.not_not] at hc5
          refine WC.exit ?_
          refine WX.thenExit ?_
          refine WX.thenExit ?_
          refine WX.blockHere ?_
          refine WX.next ?_
          refine WC.seq ?_
          have hfa : (at_ = (p.length : Int)) ↔ fin.1 = some [] := by
            rw [hst.all]
            rcases hs with ⟨rfl, h2⟩ | ⟨h1, h2⟩
            · rw [h2]
            · have h0 : n0 - i = 0 := by
                first
                | omega
                | (exfalso; have := hneg.1 (by omega); exact h1 this)
              rw [h0] at h2
              subst h2
              rfl
          refine WC.draws' (fun u0_ u1_ => Upd No u0_ u1_) (fun j => [0, 0, 0, 0, 2, 0, 0, 0, 0, 0].getD j 0) (.calm 0 (.calm 1 (.calm 2 (.calm 3 (.calm 5 (.calm 6 (.calm 8 (.one 4 (.calm 7 (.calm 9 (.done))))))))))) mixed (by kernel_rfl) (by repeat (first | with_reducible exact Deaf.body | with_reducible apply Deaf.then | with_reducible apply Deaf.block)) ?_
          intro w20 hu20
          have hz20 := congrArg Array.size hu20.2.2.2
          replace hu20 := Upd.of_draw hu20
          have hs20 := hu20.size
          replace hU := hU.trans hu20 (by first | exact (fun _ _ h => h) | exact (fun _ _ h => h.elim) | (intro k hl hk; (try simp only [At, New, Grow, From, No] at hk ⊢); omega) | (intro k hl hk; first | (have h1 := hG k hk; have h2 := hMw k h1.1; omega) | ((try simp only [At, New, Grow, From, No] at *); omega)))
          replace hR := hR.upd hu20 (by first | exact (fun h => h) | (exact fun h => by have := hMw _ (hG _ h).1; omega) | (simp only [At, No]; omega)) (by first | exact (fun _ _ _ h => h) | (intro k hk hl hS; have := hFl k hk; first | (have := hMw _ (hG _ hS).1; omega) | (simp only [At, No] at hS; omega)))
          replace hT := hT.upd hu20 (by first | exact (fun _ _ _ h => h) | (intro k hk hl hS; have := hMw k hk; have := hMl k hk; simp only [At, No] at hS; omega)) (by first | exact (fun _ _ _ h => h) | (intro k hk hl hS; have := hFl k hk; simp only [At, No] at hS; omega))
          replace hb := hb.upd hu20 (by first | exact (fun h => h) | (exact fun h => by have := hMw _ (hG _ h).1; omega) | (simp only [At, No]; omega))
          refine WN.calm _ rfl rfl rfl rfl rfl (fun _ => r_move rfl (ev_t rfl)) ?_
          refine WN.calm _ rfl rfl rfl rfl rfl (fun _ => r_move rfl (ev_t rfl)) ?_
          refine WN.calm _ rfl rfl rfl rfl rfl (fun _ => r_nilCheck rfl (ev_t rfl)) ?_
          first | refine WN.calm _ rfl rfl rfl rfl rfl (fun _ => r_field0 rfl (ev_t rfl) fld_77_1) ?_ | refine WN.calm _ rfl rfl rfl rfl rfl (fun _ => r_fieldAt rfl (ev_t rfl) fld_77_1) ?_
          refine WN.calm _ rfl rfl rfl rfl rfl (fun _ => r_move rfl (ev_t rfl)) ?_
          refine WN.calm _ rfl rfl rfl rfl rfl (fun _ => r_lenSlice (ts := #[]) rfl (ev_t rfl) elem_23) ?_
          refine WN.calm _ rfl rfl rfl rfl rfl (fun _ => r_assign rfl (ev_t rfl)) ?_
          refine WN.step _ rfl (SO.val rfl rfl rfl rfl (r_load rfl (ev_t rfl) flat_3 (Blk.cell hb rfl)) ?_)
          refine ⟨trivial, ?_⟩
          refine WN.calm _ rfl rfl rfl rfl rfl (fun _ => r_eql rfl (ev_t rfl) (ev_t rfl)) ?_
          refine WN.calm _ rfl rfl rfl rfl rfl (fun _ => r_assign rfl (ev_t rfl)) ?_
          refine WN.done ?_
          refine WX.keep [(2, _), (3, _)] ⟨rfl, rfl, trivial⟩ ?_
          refine WX.next ?_
          refine WC.ret ?_
          refine WX.retE2 rfl rfl rfl ?_
          refine ⟨hU, ?_⟩
          by_cases hq : at_ = (p.length : Int)
          · refine .inl ⟨hfa.1 hq, _, by rw [decide_eq_true hq], ?_⟩
            have h9 := hfa.1 hq
            rcases hs with ⟨rfl, h2⟩ | ⟨h1, h2⟩
            · rw [h2] at h9; cases h9
            · have h0 : n0 - i = 0 := by
                first
                | omega
                | (exfalso; have := hneg.1 (by omega); exact h1 this)
              rw [h0] at h2
              subst h2
              exact hT.toG
          · exact .inr ⟨fun h => hq (hfa.2 h), _, by rw [decide_eq_false hq]⟩
    · try (exfalso; first | (simp at hb5_3; done) | (simp only [decide_eq_true_eq, decide_eq_false_iff_not, Bool.not_eq_true', Bool.not_eq_false', Bool.not_eq_true, Bool.not_eq_false] at hb5_3; omega) | omega)
      all_goals
       try simp only [decide_eq_true_eq, decide_eq_false_iff_not, Bool.not_eq_true', Bool.not_eq_false', Bool.not_eq_true, Bool.not_eq_false, Option.isNone_none, Option.isNone_some, Option.isSome_none, Option.isSome_some, ne_eq, Decidable.not_not] at hb5_3
       refine WL.skip rfl rfl rfl ?_
       refine WL.skip rfl rfl rfl ?_
       refine WL.skip rfl rfl rfl ?_
       refine WL.skip rfl rfl rfl ?_
       refine WL.skip rfl rfl rfl ?_
       refine WL.val rfl rfl rfl rfl (r_pickF rfl (ev_t rfl) ev_c) ?_
       refine WL.nil ?_
       refine WX.keep [(0, _), (4, _), (5, _), (6, _), (7, _), (25, _)] ⟨rfl, rfl, rfl, rfl, rfl, rfl, trivial⟩ ?_
       refine WX.next ?_
       refine WC.cond_false rfl (ev_t rfl) ?_
       refine WC.exit ?_
       refine WX.thenExit ?_
       refine WX.thenExit ?_
       refine WX.blockHere ?_
       refine WX.next ?_
       refine WC.seq ?_
       have hfa : (at_ = (p.length : Int)) ↔ fin.1 = some [] := by
         rw [hst.all]
         rcases hs with ⟨rfl, h2⟩ | ⟨h1, h2⟩
         · rw [h2]
         · have h0 : n0 - i = 0 := by
             first
             | omega
             | (exfalso; have := hneg.1 (by omega); exact h1 this)
           rw [h0] at h2
           subst h2
           rfl
       refine WC.draws' (fun u0_ u1_ => Upd No u0_ u1_) (fun j => [0, 0, 0, 0, 2, 0, 0, 0, 0, 0].getD j 0) (.calm 0 (.calm 1 (.calm 2 (.calm 3 (.calm 5 (.calm 6 (.calm 8 (.one 4 (.calm 7 (.calm 9 (.done))))))))))) mixed (by kernel_rfl) (by repeat (first | with_reducible exact Deaf.body | with_reducible apply Deaf.then | with_reducible apply Deaf.block)) ?_
       intro w21 hu21
       have hz21 := congrArg Array.size hu21.2.2.2
       replace hu21 := Upd.of_draw hu21
       have hs21 := hu21.size
       replace hU := hU.trans hu21 (by first | exact (fun _ _ h => h) | exact (fun _ _ h => h.elim) | (intro k hl hk; (try simp only [At, New, Grow, From, No] at hk ⊢); omega) | (intro k hl hk; first | (have h1 := hG k hk; have h2 := hMw k h1.1; omega) | ((try simp only [At, New, Grow, From, No] at *); omega)))
       replace hR := hR.upd hu21 (by first | exact (fun h => h) | (exact fun h => by have := hMw _ (hG _ h).1; omega) | (simp only [At, No]; omega)) (by first | exact (fun _ _ _ h => h) | (intro k hk hl hS; have := hFl k hk; first | (have := hMw _ (hG _ hS).1; omega) | (simp only [At, No] at hS; omega)))
       replace hT := hT.upd hu21 (by first | exact (fun _ _ _ h => h) | (intro k hk hl hS; have := hMw k hk; have := hMl k hk; simp only [At, No] at hS; omega)) (by first | exact (fun _ _ _ h => h) | (intro k hk hl hS; have := hFl k hk; simp only [At, No] at hS; omega))
       replace hb := hb.upd hu21 (by first | exact (fun h => h) | (exact fun h => by have := hMw _ (hG _ h).1; omega) | (simp only [At, No]; omega))
       refine WN.calm _ rfl rfl rfl rfl rfl (fun _ => r_move rfl (ev_t rfl)) ?_
       refine WN.calm _ rfl rfl rfl rfl rfl (fun _ => r_move rfl (ev_t rfl)) ?_
       refine WN.calm _ rfl rfl rfl rfl rfl (fun _ => r_nilCheck rfl (ev_t rfl)) ?_
       first | refine WN.calm _ rfl rfl rfl rfl rfl (fun _ => r_field0 rfl (ev_t rfl) fld_77_1) ?_ | refine WN.calm _ rfl rfl rfl rfl rfl (fun _ => r_fieldAt rfl (ev_t rfl) fld_77_1) ?_
       refine WN.calm _ rfl rfl rfl rfl rfl (fun _ => r_move rfl (ev_t rfl)) ?_
       refine WN.calm _ rfl rfl rfl rfl rfl (fun _ => r_lenSlice (ts := #[]) rfl (ev_t rfl) elem_23) ?_
       refine WN.calm _ rfl rfl rfl rfl rfl (fun _ => r_assign rfl (ev_t rfl)) ?_
       refine WN.step _ rfl (SO.val rfl rfl rfl rfl (r_load rfl (ev_t rfl) flat_3 (Blk.cell hb rfl)) ?_)
       refine ⟨trivial, ?_⟩
       refine WN.calm _ rfl rfl rfl rfl rfl (fun _ => r_eql rfl (ev_t rfl) (ev_t rfl)) ?_
       refine WN.calm _ rfl rfl rfl rfl rfl (fun _ => r_assign rfl (ev_t rfl)) ?_
       refine WN.done ?_
       refine WX.keep [(2, _), (3, _)] ⟨rfl, rfl, trivial⟩ ?_
       refine WX.next ?_
       refine WC.ret ?_
       refine WX.retE2 rfl rfl rfl ?_
       refine ⟨hU, ?_⟩
       by_cases hq : at_ = (p.length : Int)
       · refine .inl ⟨hfa.1 hq, _, by rw [decide_eq_true hq], ?_⟩
         have h9 := hfa.1 hq
         rcases hs with ⟨rfl, h2⟩ | ⟨h1, h2⟩
         · rw [h2] at h9; cases h9
         · have h0 : n0 - i = 0 := by
             first
             | omega
             | (exfalso; have := hneg.1 (by omega); exact h1 this)
           rw [h0] at h2
           subst h2
           exact hT.toG
       · exact .inr ⟨fun h => hq (hfa.2 h), _, by rw [decide_eq_false hq]⟩

set_option maxHeartbeats 1000000 in
theorem sessionLoads.walk {w : World} {pv : Value} {p : List UInt8} (hp : Rd w (fun k => k < w.heap.size) pv p.length 1 (p.map U8)) :
    Ret Try.prog 8 #[pv] w fun v w' => v = .bool true ∧ Upd No w w' := by
  obtain ⟨Ap, cp, rfl, hcp⟩ := hp.slice_form
  have hpm := hp.le
  refine enterRet (vs := [_]) (N := 52) Try.func8 rfl rfl rfl ?_
  have hU := Upd.refl No w
  refine WC.keep [(0, _)] ⟨rfl, trivial⟩ ?_
  refine WC.seq ?_
  refine WC.region ?_
  refine WL.val rfl rfl rfl rfl (r_assign rfl ev_c) ?_
  refine WL.nil ?_
  refine WX.keep [(0, _)] ⟨rfl, trivial⟩ ?_
  refine WX.next ?_
  refine WC.seq ?_
  refine WC.seq ?_
  refine WC.region ?_
  refine WL.cons (SO.call (awake17_ok _) rfl body_9 trivial rfl rfl rfl rfl ?_)
  rintro v w1 ⟨rfl, hu1⟩
  have hs1 := hu1.size
  replace hU := hU.transA hu1
  refine WL.val rfl rfl rfl rfl (r_not rfl (ev_t rfl)) ?_
  refine WL.val rfl rfl rfl rfl (r_move rfl (ev_t rfl)) ?_
  refine WL.cases 9 rfl (fun hb1_2 => ?_) (fun hb1_2 => ?_)
  · try (exfalso; first | (simp at hb1_2; done) | (simp only [decide_eq_true_eq, decide_eq_false_iff_not, Bool.not_eq_true', Bool.not_eq_false', Bool.not_eq_true, Bool.not_eq_false] at hb1_2; omega) | omega)
    all_goals
     try simp only [decide_eq_true_eq, decide_eq_false_iff_not, Bool.not_eq_true', Bool.not_eq_false', Bool.not_eq_true, Bool.not_eq_false, Option.isNone_none, Option.isNone_some, Option.isSome_none, Option.isSome_some, ne_eq, Decidable.not_not] at hb1_2
     refine WL.skip rfl rfl rfl ?_
     refine WL.skip rfl rfl rfl ?_
     refine WL.skip rfl rfl rfl ?_
     refine WL.val rfl rfl rfl rfl (r_pickT rfl (ev_t rfl) ev_c) ?_
     refine WL.nil ?_
     refine WX.keep [(0, _), (13, _)] ⟨rfl, rfl, trivial⟩ ?_
     refine WX.next ?_
     refine WC.cond_true rfl (ev_t rfl) ?_
     refine WC.seq ?_
     refine WC.region ?_
     refine WL.cons (SO.call (awake17_ok _) rfl body_9 trivial rfl rfl rfl rfl ?_)
     rintro v w2 ⟨rfl, hu2⟩
     have hs2 := hu2.size
     replace hU := hU.transA hu2
     refine WL.val rfl rfl rfl rfl (r_assign rfl (ev_t rfl)) ?_
     refine WL.nil ?_
     refine WX.keep [(2, _)] ⟨rfl, trivial⟩ ?_
     refine WX.next ?_
     refine WC.ret ?_
     refine WX.thenRet ?_
     refine WX.retE1 rfl rfl ?_
     first
       | exact ⟨rfl, hU⟩
       | exact ⟨by simp [hsv], hU⟩
       | exact ⟨by simp, hU⟩
  · try (exfalso; first | (simp at hb1_2; done) | (simp only [decide_eq_true_eq, decide_eq_false_iff_not, Bool.not_eq_true', Bool.not_eq_false', Bool.not_eq_true, Bool.not_eq_false] at hb1_2; omega) | omega)
    all_goals
     try simp only [decide_eq_true_eq, decide_eq_false_iff_not, Bool.not_eq_true', Bool.not_eq_false', Bool.not_eq_true, Bool.not_eq_false, Option.isNone_none, Option.isNone_some, Option.isSome_none, Option.isSome_some, ne_eq, Decidable.not_not] at hb1_2
     refine WL.val rfl rfl rfl rfl (r_move rfl (ev_t rfl)) ?_
     refine WL.val rfl rfl rfl rfl (r_lenSlice (ts := #[]) rfl (ev_t rfl) elem_23) ?_
     refine WL.val rfl rfl rfl rfl (r_gtr rfl (ev_t rfl) ev_c) ?_
     refine WL.val rfl rfl rfl rfl (r_pickF rfl (ev_t rfl) (ev_t rfl)) ?_
     refine WL.nil ?_
     refine WX.keep [(0, _), (13, _)] ⟨rfl, rfl, trivial⟩ ?_
     refine WX.next ?_
     refine WC.cond rfl (ev_t rfl) (fun hc1 => ?_) (fun hc1 => ?_)
     · try (exfalso; first | (simp at hc1; done) | (simp only [decide_eq_true_eq, decide_eq_false_iff_not, Bool.not_eq_true', Bool.not_eq_false', Bool.not_eq_true, Bool.not_eq_false] at hc1; omega) | omega)
       all_goals
        try simp only [decide_eq_true_eq, decide_eq_false_iff_not, Bool.not_eq_true', Bool.not_eq_false', Bool.not_eq_true, Bool.not_eq_false, Option.isNone_none, Option.isNone_some, Option.isSome_none, Option.isSome_some, ne_eq, Decidable.not_not] at hc1
        refine WC.seq ?_
        refine WC.region ?_
        refine WL.cons (SO.call (awake17_ok _) rfl body_9 trivial rfl rfl rfl rfl ?_)
        rintro v w3 ⟨rfl, hu3⟩
        have hs3 := hu3.size
        replace hU := hU.transA hu3
        refine WL.val rfl rfl rfl rfl (r_assign rfl (ev_t rfl)) ?_
        refine WL.nil ?_
        refine WX.keep [(2, _)] ⟨rfl, trivial⟩ ?_
        refine WX.next ?_
        refine WC.ret ?_
        refine WX.thenRet ?_
        refine WX.retE1 rfl rfl ?_
        first
          | exact ⟨rfl, hU⟩
          | exact ⟨by simp [hsv], hU⟩
          | exact ⟨by simp, hU⟩
     · try (exfalso; first | (simp at hc1; done) | (simp only [decide_eq_true_eq, decide_eq_false_iff_not, Bool.not_eq_true', Bool.not_eq_false', Bool.not_eq_true, Bool.not_eq_false] at hc1; omega) | omega)
       all_goals
        try simp only [decide_eq_true_eq, decide_eq_false_iff_not, Bool.not_eq_true', Bool.not_eq_false', Bool.not_eq_true, Bool.not_eq_false, Option.isNone_none, Option.isNone_some, Option.isSome_none, Option.isSome_some, ne_eq, Decidable.not_not] at hc1
        refine WC.skip ?_
        refine WX.next ?_
        refine WC.seq ?_
        refine WC.region ?_
        refine WL.val rfl rfl rfl rfl (r_move rfl (ev_t rfl)) ?_
        refine WL.cons (SO.call (Load_ok (hp.upd hU (fun _ _ _ h => h))) rfl body_17 ⟨(ev_t rfl), trivial⟩ rfl rfl rfl rfl ?_)
        rintro v w4 ⟨hu4, hl⟩
        obtain ⟨v1, e1, rfl, hl2⟩ : ∃ v1 e1, v = .tuple #[v1, e1] ∧ (((loadS p).1 = some [] ∧ ∃ t, v1 = .pointer (some ⟨t, 0, none⟩) ∧ e1 = .int .i64 0 ∧ IsT w4 (New w1 w4) t (loadS p).2) ∨ ((loadS p).1 ≠ some [] ∧ v1 = .pointer none ∧ e1 = .int .i64 3)) := by
          rcases hl with ⟨h1, t, rfl, h2⟩ | ⟨h1, rfl⟩
          · exact ⟨_, _, rfl, .inl ⟨h1, t, rfl, rfl, h2⟩⟩
          · exact ⟨_, _, rfl, .inr ⟨h1, rfl, rfl⟩⟩
        have hlw := Upd.refl No w4
        have hs4 := hu4.size
        replace hU := hU.transA hu4
        refine WL.val rfl rfl rfl rfl (r_move rfl (ev_t rfl)) ?_
        refine WL.val rfl rfl rfl rfl (r_extract rfl (ev_t rfl) rfl) ?_
        refine WL.val rfl rfl rfl rfl (r_extract rfl (ev_t rfl) rfl) ?_
        refine WL.val rfl rfl rfl rfl (r_assign rfl (ev_t rfl)) ?_
        refine WL.val rfl rfl rfl rfl (r_assign rfl (ev_t rfl)) ?_
        refine WL.nil ?_
        refine WX.keep [(0, _), (3, _), (4, _)] ⟨rfl, rfl, rfl, trivial⟩ ?_
        refine WX.next ?_
        refine WC.seq ?_
        refine WC.region ?_
        refine WL.val rfl rfl rfl rfl (r_move rfl (ev_t rfl)) ?_
        refine WL.cons (SO.call (refLoad_ok (hp.upd hU (fun _ _ _ h => h))) rfl body_19 ⟨(ev_t rfl), trivial⟩ rfl rfl rfl rfl ?_)
        rintro v w5 ⟨hu5, hm⟩
        obtain ⟨v2, b2, rfl, hm2⟩ : ∃ v2 b2, v = .tuple #[v2, .bool b2] ∧ ((loadS p).1 = some [] → b2 = true ∧ ∃ t, v2 = .pointer (some ⟨t, 0, none⟩) ∧ IsQ w5 (fun _ => True) t (loadS p).2) ∧ ((loadS p).1 ≠ some [] → b2 = false) := by
          rcases hm with ⟨h1, t, rfl, h2⟩ | ⟨h1, v2, rfl⟩
          · exact ⟨_, _, rfl, fun _ => ⟨rfl, t, rfl, h2⟩, fun h => absurd h1 h⟩
          · exact ⟨_, _, rfl, fun h => absurd h h1, fun _ => rfl⟩
        replace hlw := hlw.trans hu5 (fun _ _ h => h)
        have hs5 := hu5.size
        replace hU := hU.transA hu5
        refine WL.val rfl rfl rfl rfl (r_move rfl (ev_t rfl)) ?_
        refine WL.val rfl rfl rfl rfl (r_extract rfl (ev_t rfl) rfl) ?_
        refine WL.val rfl rfl rfl rfl (r_extract rfl (ev_t rfl) rfl) ?_
        refine WL.val rfl rfl rfl rfl (r_assign rfl (ev_t rfl)) ?_
        refine WL.val rfl rfl rfl rfl (r_assign rfl (ev_t rfl)) ?_
        refine WL.nil ?_
        refine WX.keep [(0, _), (3, _), (4, _), (5, _), (6, _)] ⟨rfl, rfl, rfl, rfl, rfl, trivial⟩ ?_
        refine WX.next ?_
        refine WC.seq ?_
        refine WC.seq ?_
        refine WC.region ?_
        refine WL.val rfl rfl rfl rfl (r_move rfl (ev_t rfl)) ?_
        refine WL.val rfl rfl rfl rfl (r_not rfl (ev_t rfl)) ?_
        refine WL.nil ?_
        refine WX.keep [(0, _), (3, _), (4, _), (5, _), (26, _)] ⟨rfl, rfl, rfl, rfl, rfl, trivial⟩ ?_
        refine WX.next ?_
        refine WC.cond rfl (ev_t rfl) (fun hc5 => ?_) (fun hc5 => ?_)
        · try (exfalso; first | (simp at hc5; done) | (simp only [decide_eq_true_eq, decide_eq_false_iff_not, Bool.not_eq_true', Bool.not_eq_false', Bool.not_eq_true, Bool.not_eq_false] at hc5; omega) | omega)
          all_goals
           try simp only [decide_eq_true_eq, decide_eq_false_iff_not, Bool.not_eq_true', Bool.not_eq_false', Bool.not_eq_true, Bool.not_eq_false, Option.isNone_none, Option.isNone_some, Option.isSome_none, Option.isSome_some, ne_eq, Decidable.not_not] at hc5
           have h0 : (loadS p).1 ≠ some [] := fun h => by have := (hm2.1 h).1; simp_all
           obtain ⟨_, rfl, rfl⟩ := hl2.resolve_left (fun h => h0 h.1)
           refine WC.seq ?_
           refine WC.region ?_
           refine WL.val rfl rfl rfl rfl (r_move rfl (ev_t rfl)) ?_
           refine WL.val rfl rfl rfl rfl (r_eql rfl (ev_t rfl) ev_c) ?_
           refine WL.val rfl rfl rfl rfl (r_move rfl (ev_t rfl)) ?_
           refine WL.cases 29 rfl (fun hb6_2 => ?_) (fun hb6_2 => ?_)
           · try (exfalso; first | (simp at hb6_2; done) | (simp only [decide_eq_true_eq, decide_eq_false_iff_not, Bool.not_eq_true', Bool.not_eq_false', Bool.not_eq_true, Bool.not_eq_false] at hb6_2; omega) | omega)
             all_goals
              try simp only [decide_eq_true_eq, decide_eq_false_iff_not, Bool.not_eq_true', Bool.not_eq_false', Bool.not_eq_true, Bool.not_eq_false, Option.isNone_none, Option.isNone_some, Option.isSome_none, Option.isSome_some, ne_eq, Decidable.not_not] at hb6_2
              refine WL.val rfl rfl rfl rfl (r_move rfl (ev_t rfl)) ?_
              refine WL.val rfl rfl rfl rfl (r_eqlPtrNil rfl (ev_t rfl) ev_c ptr_25) ?_
              refine WL.val rfl rfl rfl rfl (r_pickT rfl (ev_t rfl) (ev_t rfl)) ?_
              refine WL.val rfl rfl rfl rfl (r_assign rfl (ev_t rfl)) ?_
              refine WL.nil ?_
              refine WX.keep [(2, _)] ⟨rfl, trivial⟩ ?_
              refine WX.next ?_
              refine WC.ret ?_
              refine WX.thenRet ?_
              refine WX.retE1 rfl rfl ?_
              first
                | exact ⟨rfl, hU⟩
                | exact ⟨by simp [hsv], hU⟩
                | exact ⟨by simp, hU⟩
           · try (exfalso; first | (simp at hb6_2; done) | (simp only [decide_eq_true_eq, decide_eq_false_iff_not, Bool.not_eq_true', Bool.not_eq_false', Bool.not_eq_true, Bool.not_eq_false] at hb6_2; omega) | omega)
             all_goals
              try simp only [decide_eq_true_eq, decide_eq_false_iff_not, Bool.not_eq_true', Bool.not_eq_false', Bool.not_eq_true, Bool.not_eq_false, Option.isNone_none, Option.isNone_some, Option.isSome_none, Option.isSome_some, ne_eq, Decidable.not_not] at hb6_2
              refine WL.skip rfl rfl rfl ?_
              refine WL.skip rfl rfl rfl ?_
              refine WL.val rfl rfl rfl rfl (r_pickF rfl (ev_t rfl) ev_c) ?_
              refine WL.val rfl rfl rfl rfl (r_assign rfl (ev_t rfl)) ?_
              refine WL.nil ?_
              refine WX.keep [(2, _)] ⟨rfl, trivial⟩ ?_
              refine WX.next ?_
              refine WC.ret ?_
              refine WX.thenRet ?_
              refine WX.retE1 rfl rfl ?_
              first
                | exact ⟨rfl, hU⟩
                | exact ⟨by simp [hsv], hU⟩
                | exact ⟨by simp, hU⟩
        · try (exfalso; first | (simp at hc5; done) | (simp only [decide_eq_true_eq, decide_eq_false_iff_not, Bool.not_eq_true', Bool.not_eq_false', Bool.not_eq_true, Bool.not_eq_false] at hc5; omega) | omega)
          all_goals
           try simp only [decide_eq_true_eq, decide_eq_false_iff_not, Bool.not_eq_true', Bool.not_eq_false', Bool.not_eq_true, Bool.not_eq_false, Option.isNone_none, Option.isNone_some, Option.isSome_none, Option.isSome_some, ne_eq, Decidable.not_not] at hc5
           have h0 : (loadS p).1 = some [] := Classical.byContradiction fun h => by have := hm2.2 h; simp_all
           obtain ⟨_, t, rfl, rfl, hT⟩ := hl2.resolve_right (fun h => h.1 h0)
           obtain ⟨hb2, tq, rfl, hQ⟩ := hm2.1 h0
           obtain ⟨hL, hsv⟩ := loadS_some (p := p) (L := (loadS p).2) (by rw [← h0])
           replace hT := hT.upd hlw (fun _ _ _ h => h)
           have hsl := saveS_len hL
           refine WC.skip ?_
           refine WX.next ?_
           refine WC.seq ?_
           refine WC.draws' (fun u0_ u1_ => Upd No u0_ u1_) (fun j => [0, 0, 0, 0, 2, 2, 0, 2, 2, 0, 0, 0, 0, 2, 2, 0, 2, 0, 0, 0].getD j 0) (.calm 0 (.calm 1 (.calm 2 (.calm 3 (.calm 6 (.one 4 (.two 5 7 (.one 7 (.one 8 (.calm 9 (.calm 10 (.calm 11 (.calm 12 (.calm 15 (.two 13 16 (.two 14 16 (.one 16 (.calm 17 (.calm 18 (.calm 19 (.done))))) (.one 14 (.calm 17 (.calm 18 (.calm 19 (.done)))))) (.one 13 (.one 14 (.calm 17 (.calm 18 (.calm 19 (.done)))))))))))))) (.two 5 8 (.one 8 (.calm 9 (.calm 10 (.calm 11 (.calm 12 (.calm 15 (.two 13 16 (.two 14 16 (.one 16 (.calm 17 (.calm 18 (.calm 19 (.done))))) (.one 14 (.calm 17 (.calm 18 (.calm 19 (.done)))))) (.one 13 (.one 14 (.calm 17 (.calm 18 (.calm 19 (.done))))))))))))) (.one 5 (.calm 9 (.calm 10 (.calm 11 (.calm 12 (.calm 15 (.two 13 16 (.two 14 16 (.one 16 (.calm 17 (.calm 18 (.calm 19 (.done))))) (.one 14 (.calm 17 (.calm 18 (.calm 19 (.done)))))) (.one 13 (.one 14 (.calm 17 (.calm 18 (.calm 19 (.done))))))))))))))))))))) mixed (by kernel_rfl) (by repeat (first | with_reducible exact Deaf.body | with_reducible apply Deaf.then | with_reducible apply Deaf.block)) ?_
           intro w6 hu6
           have hz6 := congrArg Array.size hu6.2.2.2
           replace hu6 := Upd.of_draw hu6
           have hs6 := hu6.size
           replace hU := hU.transA hu6
           replace hT := hT.upd hu6 (fun _ _ _ h => h)
           replace hQ := hQ.upd hu6 (fun _ _ _ h => h)
           refine WN.calm _ rfl rfl rfl rfl rfl (fun _ => r_move rfl (ev_t rfl)) ?_
           refine WN.calm _ rfl rfl rfl rfl rfl (fun _ => r_eql rfl (ev_t rfl) ev_c) ?_
           refine WN.calm _ rfl rfl rfl rfl rfl (fun _ => r_move rfl (ev_t rfl)) ?_
           refine WN.cases 35 rfl (fun hb7_2 => ?_) (fun hb7_2 => ?_)
           · try (exfalso; first | (simp at hb7_2; done) | (simp only [decide_eq_true_eq, decide_eq_false_iff_not, Bool.not_eq_true', Bool.not_eq_false', Bool.not_eq_true, Bool.not_eq_false] at hb7_2; omega) | omega)
             all_goals
              try simp only [decide_eq_true_eq, decide_eq_false_iff_not, Bool.not_eq_true', Bool.not_eq_false', Bool.not_eq_true, Bool.not_eq_false, Option.isNone_none, Option.isNone_some, Option.isSome_none, Option.isSome_some, ne_eq, Decidable.not_not] at hb7_2
              refine WN.calm _ rfl rfl rfl rfl rfl (fun _ => r_move rfl (ev_t rfl)) ?_
              refine WN.calm _ rfl rfl rfl rfl rfl (fun _ => r_move rfl (ev_t rfl)) ?_
              refine WN.step _ rfl (SO.call (Save_ok hT hL) rfl body_14 ⟨(ev_t rfl), trivial⟩ rfl rfl rfl rfl ?_)
              rintro v w7 ⟨ho, hu7⟩
              obtain ⟨A1, c1, rfl, hc1⟩ := Own.form ho
              have hs7 := hu7.size
              replace hU := hU.transA hu7
              replace hT := hT.upd hu7 (fun _ _ _ h => h)
              replace hQ := hQ.upd hu7 (fun _ _ _ h => h)
              refine ⟨trivial, ?_⟩
              refine WN.fork _ _ rfl rfl ?_ ?_
              · refine SO.val rfl rfl rfl rfl (r_toStr rfl (ev_t rfl) (ho.rd (by omega)) elem_23 int_5 str_9) ?_
                refine ⟨trivial, ?_⟩
                refine WN.step _ rfl (SO.call (refSave_ok hQ hL) rfl body_18 ⟨(ev_t rfl), trivial⟩ rfl rfl rfl rfl ?_)
                rintro v w8 ⟨ho2, hu8⟩
                obtain ⟨A2, c2, rfl, hc2⟩ := Own.form ho2
                have hs8 := hu8.size
                replace hU := hU.transA hu8
                replace hT := hT.upd hu8 (fun _ _ _ h => h)
                replace hQ := hQ.upd hu8 (fun _ _ _ h => h)
                replace ho := ho.updA hu8
                refine ⟨trivial, ?_⟩
                refine WN.step _ rfl (SO.val rfl rfl rfl rfl (r_toStr rfl (ev_t rfl) (ho2.rd (by omega)) elem_23 int_5 str_9) ?_)
                refine ⟨trivial, ?_⟩
                refine WN.calm _ rfl rfl rfl rfl rfl (fun _ => r_eqlStrL rfl (ev_t rfl) (ev_t rfl)) ?_
                refine WN.calm _ rfl rfl rfl rfl rfl (fun _ => r_pickT rfl (ev_t rfl) (ev_t rfl)) ?_
                refine WN.calm _ rfl rfl rfl rfl rfl (fun _ => r_move rfl (ev_t rfl)) ?_
                refine WN.cases 44 rfl (fun hb7_11 => ?_) (fun hb7_11 => ?_)
                · try (exfalso; first | (simp at hb7_11; done) | (simp only [decide_eq_true_eq, decide_eq_false_iff_not, Bool.not_eq_true', Bool.not_eq_false', Bool.not_eq_true, Bool.not_eq_false] at hb7_11; omega) | omega)
                  all_goals
                   try simp only [decide_eq_true_eq, decide_eq_false_iff_not, Bool.not_eq_true', Bool.not_eq_false', Bool.not_eq_true, Bool.not_eq_false, Option.isNone_none, Option.isNone_some, Option.isSome_none, Option.isSome_some, ne_eq, Decidable.not_not] at hb7_11
                   refine WN.calm _ rfl rfl rfl rfl rfl (fun _ => r_move rfl (ev_t rfl)) ?_
                   refine WN.calm _ rfl rfl rfl rfl rfl (fun _ => r_move rfl (ev_t rfl)) ?_
                   refine WN.fork _ _ rfl rfl ?_ ?_
                   · refine SO.call (Save_ok hT hL) rfl body_14 ⟨(ev_t rfl), trivial⟩ rfl rfl rfl rfl ?_
                     rintro v w9 ⟨ho3, hu9⟩
                     obtain ⟨A3, c3, rfl, hc3⟩ := Own.form ho3
                     have hs9 := hu9.size
                     replace hU := hU.transA hu9
                     replace hT := hT.upd hu9 (fun _ _ _ h => h)
                     replace hQ := hQ.upd hu9 (fun _ _ _ h => h)
                     replace ho := ho.updA hu9
                     replace ho2 := ho2.updA hu9
                     refine ⟨trivial, ?_⟩
                     refine WN.fork _ _ rfl rfl ?_ ?_
                     · refine SO.val rfl rfl rfl rfl (r_toStr rfl (ev_t rfl) (ho3.rd (by omega)) elem_23 int_5 str_9) ?_
                       refine ⟨trivial, ?_⟩
                       refine WN.step _ rfl (SO.val rfl rfl rfl rfl (r_toStr rfl (ev_t rfl) (hp.upd hU (fun _ _ _ h => h)) elem_23 int_5 str_9) ?_)
                       refine ⟨trivial, ?_⟩
                       refine WN.calm _ rfl rfl rfl rfl rfl (fun _ => r_eqlStrL rfl (ev_t rfl) (ev_t rfl)) ?_
                       refine WN.calm _ rfl rfl rfl rfl rfl (fun _ => r_pickT rfl (ev_t rfl) (ev_t rfl)) ?_
                       refine WN.calm _ rfl rfl rfl rfl rfl (fun _ => r_assign rfl (ev_t rfl)) ?_
                       refine WN.done ?_
                       refine WX.keep [(2, _)] ⟨rfl, trivial⟩ ?_
                       refine WX.next ?_
                       refine WC.ret ?_
                       refine WX.retE1 rfl rfl ?_
                       first
                         | exact ⟨rfl, hU⟩
                         | exact ⟨by simp [hsv], hU⟩
                         | exact ⟨by simp, hU⟩
                     · refine SO.val rfl rfl rfl rfl (r_toStr rfl (ev_t rfl) (hp.upd hU (fun _ _ _ h => h)) elem_23 int_5 str_9) ?_
                       refine ⟨trivial, ?_⟩
                       refine WN.step _ rfl (SO.val rfl rfl rfl rfl (r_toStr rfl (ev_t rfl) (ho3.rd (by omega)) elem_23 int_5 str_9) ?_)
                       refine ⟨trivial, ?_⟩
                       refine WN.calm _ rfl rfl rfl rfl rfl (fun _ => r_eqlStrL rfl (ev_t rfl) (ev_t rfl)) ?_
                       refine WN.calm _ rfl rfl rfl rfl rfl (fun _ => r_pickT rfl (ev_t rfl) (ev_t rfl)) ?_
                       refine WN.calm _ rfl rfl rfl rfl rfl (fun _ => r_assign rfl (ev_t rfl)) ?_
                       refine WN.done ?_
                       refine WX.keep [(2, _)] ⟨rfl, trivial⟩ ?_
                       refine WX.next ?_
                       refine WC.ret ?_
                       refine WX.retE1 rfl rfl ?_
                       first
                         | exact ⟨rfl, hU⟩
                         | exact ⟨by simp [hsv], hU⟩
                         | exact ⟨by simp, hU⟩
                   · refine SO.val rfl rfl rfl rfl (r_toStr rfl (ev_t rfl) (hp.upd hU (fun _ _ _ h => h)) elem_23 int_5 str_9) ?_
                     refine ⟨trivial, ?_⟩
                     refine WN.step _ rfl (SO.call (Save_ok hT hL) rfl body_14 ⟨(ev_t rfl), trivial⟩ rfl rfl rfl rfl ?_)
                     rintro v w10 ⟨ho3, hu10⟩
                     obtain ⟨A3, c3, rfl, hc3⟩ := Own.form ho3
                     have hs10 := hu10.size
                     replace hU := hU.transA hu10
                     replace hT := hT.upd hu10 (fun _ _ _ h => h)
                     replace hQ := hQ.upd hu10 (fun _ _ _ h => h)
                     replace ho := ho.updA hu10
                     replace ho2 := ho2.updA hu10
                     refine ⟨trivial, ?_⟩
                     refine WN.step _ rfl (SO.val rfl rfl rfl rfl (r_toStr rfl (ev_t rfl) (ho3.rd (by omega)) elem_23 int_5 str_9) ?_)
                     refine ⟨trivial, ?_⟩
                     refine WN.calm _ rfl rfl rfl rfl rfl (fun _ => r_eqlStrL rfl (ev_t rfl) (ev_t rfl)) ?_
                     refine WN.calm _ rfl rfl rfl rfl rfl (fun _ => r_pickT rfl (ev_t rfl) (ev_t rfl)) ?_
                     refine WN.calm _ rfl rfl rfl rfl rfl (fun _ => r_assign rfl (ev_t rfl)) ?_
                     refine WN.done ?_
                     refine WX.keep [(2, _)] ⟨rfl, trivial⟩ ?_
                     refine WX.next ?_
                     refine WC.ret ?_
                     refine WX.retE1 rfl rfl ?_
                     first
                       | exact ⟨rfl, hU⟩
                       | exact ⟨by simp [hsv], hU⟩
                       | exact ⟨by simp, hU⟩
                · try (exfalso; first | (simp at hb7_11; done) | (simp only [decide_eq_true_eq, decide_eq_false_iff_not, Bool.not_eq_true', Bool.not_eq_false', Bool.not_eq_true, Bool.not_eq_false] at hb7_11; omega) | omega)
                  all_goals
                   try simp only [decide_eq_true_eq, decide_eq_false_iff_not, Bool.not_eq_true', Bool.not_eq_false', Bool.not_eq_true, Bool.not_eq_false, Option.isNone_none, Option.isNone_some, Option.isSome_none, Option.isSome_some, ne_eq, Decidable.not_not] at hb7_11
                   refine WN.skip _ rfl rfl rfl rfl ?_
                   refine WN.skip _ rfl rfl rfl rfl ?_
                   refine WN.fork _ _ rfl rfl ?_ ?_
                   · refine SO.skip rfl rfl rfl ?_
                     refine ⟨trivial, ?_⟩
                     refine WN.fork _ _ rfl rfl ?_ ?_
                     · refine SO.skip rfl rfl rfl ?_
                       refine ⟨trivial, ?_⟩
                       refine WN.step _ rfl (SO.skip rfl rfl rfl ?_)
                       refine ⟨trivial, ?_⟩
                       refine WN.skip _ rfl rfl rfl rfl ?_
                       refine WN.calm _ rfl rfl rfl rfl rfl (fun _ => r_pickF rfl (ev_t rfl) ev_c) ?_
                       refine WN.calm _ rfl rfl rfl rfl rfl (fun _ => r_assign rfl (ev_t rfl)) ?_
                       refine WN.done ?_
                       refine WX.keep [(2, _)] ⟨rfl, trivial⟩ ?_
                       refine WX.next ?_
                       refine WC.ret ?_
                       refine WX.retE1 rfl rfl ?_
                       first
                         | exact ⟨rfl, hU⟩
                         | exact ⟨by simp [hsv], hU⟩
                         | exact ⟨by simp, hU⟩
                     · refine SO.skip rfl rfl rfl ?_
                       refine ⟨trivial, ?_⟩
                       refine WN.step _ rfl (SO.skip rfl rfl rfl ?_)
                       refine ⟨trivial, ?_⟩
                       refine WN.skip _ rfl rfl rfl rfl ?_
                       refine WN.calm _ rfl rfl rfl rfl rfl (fun _ => r_pickF rfl (ev_t rfl) ev_c) ?_
                       refine WN.calm _ rfl rfl rfl rfl rfl (fun _ => r_assign rfl (ev_t rfl)) ?_
                       refine WN.done ?_
                       refine WX.keep [(2, _)] ⟨rfl, trivial⟩ ?_
                       refine WX.next ?_
                       refine WC.ret ?_
                       refine WX.retE1 rfl rfl ?_
                       first
                         | exact ⟨rfl, hU⟩
                         | exact ⟨by simp [hsv], hU⟩
                         | exact ⟨by simp, hU⟩
                   · refine SO.skip rfl rfl rfl ?_
                     refine ⟨trivial, ?_⟩
                     refine WN.step _ rfl (SO.skip rfl rfl rfl ?_)
                     refine ⟨trivial, ?_⟩
                     refine WN.step _ rfl (SO.skip rfl rfl rfl ?_)
                     refine ⟨trivial, ?_⟩
                     refine WN.skip _ rfl rfl rfl rfl ?_
                     refine WN.calm _ rfl rfl rfl rfl rfl (fun _ => r_pickF rfl (ev_t rfl) ev_c) ?_
                     refine WN.calm _ rfl rfl rfl rfl rfl (fun _ => r_assign rfl (ev_t rfl)) ?_
                     refine WN.done ?_
                     refine WX.keep [(2, _)] ⟨rfl, trivial⟩ ?_
                     refine WX.next ?_
                     refine WC.ret ?_
                     refine WX.retE1 rfl rfl ?_
                     first
                       | exact ⟨rfl, hU⟩
                       | exact ⟨by simp [hsv], hU⟩
                       | exact ⟨by simp, hU⟩
              · refine SO.call (refSave_ok hQ hL) rfl body_18 ⟨(ev_t rfl), trivial⟩ rfl rfl rfl rfl ?_
                rintro v w11 ⟨ho2, hu11⟩
                obtain ⟨A2, c2, rfl, hc2⟩ := Own.form ho2
                have hs11 := hu11.size
                replace hU := hU.transA hu11
                replace hT := hT.upd hu11 (fun _ _ _ h => h)
                replace hQ := hQ.upd hu11 (fun _ _ _ h => h)
                replace ho := ho.updA hu11
                refine ⟨trivial, ?_⟩
                refine WN.fork _ _ rfl rfl ?_ ?_
                · refine SO.val rfl rfl rfl rfl (r_toStr rfl (ev_t rfl) (ho.rd (by omega)) elem_23 int_5 str_9) ?_
                  refine ⟨trivial, ?_⟩
                  refine WN.step _ rfl (SO.val rfl rfl rfl rfl (r_toStr rfl (ev_t rfl) (ho2.rd (by omega)) elem_23 int_5 str_9) ?_)
                  refine ⟨trivial, ?_⟩
                  refine WN.calm _ rfl rfl rfl rfl rfl (fun _ => r_eqlStrL rfl (ev_t rfl) (ev_t rfl)) ?_
                  refine WN.calm _ rfl rfl rfl rfl rfl (fun _ => r_pickT rfl (ev_t rfl) (ev_t rfl)) ?_
                  refine WN.calm _ rfl rfl rfl rfl rfl (fun _ => r_move rfl (ev_t rfl)) ?_
                  refine WN.cases 44 rfl (fun hb7_11 => ?_) (fun hb7_11 => ?_)
                  · try (exfalso; first | (simp at hb7_11; done) | (simp only [decide_eq_true_eq, decide_eq_false_iff_not, Bool.not_eq_true', Bool.not_eq_false', Bool.not_eq_true, Bool.not_eq_false] at hb7_11; omega) | omega)
                    all_goals
                     try simp only [decide_eq_true_eq, decide_eq_false_iff_not, Bool.not_eq_true', Bool.not_eq_false', Bool.not_eq_true, Bool.not_eq_false, Option.isNone_none, Option.isNone_some, Option.isSome_none, Option.isSome_some, ne_eq, Decidable.not_not] at hb7_11
                     refine WN.calm _ rfl rfl rfl rfl rfl (fun _ => r_move rfl (ev_t rfl)) ?_
                     refine WN.calm _ rfl rfl rfl rfl rfl (fun _ => r_move rfl (ev_t rfl)) ?_
                     refine WN.fork _ _ rfl rfl ?_ ?_
                     · refine SO.call (Save_ok hT hL) rfl body_14 ⟨(ev_t rfl), trivial⟩ rfl rfl rfl rfl ?_
                       rintro v w12 ⟨ho3, hu12⟩
                       obtain ⟨A3, c3, rfl, hc3⟩ := Own.form ho3
                       have hs12 := hu12.size
                       replace hU := hU.transA hu12
                       replace hT := hT.upd hu12 (fun _ _ _ h => h)
                       replace hQ := hQ.upd hu12 (fun _ _ _ h => h)
                       replace ho := ho.updA hu12
                       replace ho2 := ho2.updA hu12
                       refine ⟨trivial, ?_⟩
                       refine WN.fork _ _ rfl rfl ?_ ?_
                       · refine SO.val rfl rfl rfl rfl (r_toStr rfl (ev_t rfl) (ho3.rd (by omega)) elem_23 int_5 str_9) ?_
                         refine ⟨trivial, ?_⟩
                         refine WN.step _ rfl (SO.val rfl rfl rfl rfl (r_toStr rfl (ev_t rfl) (hp.upd hU (fun _ _ _ h => h)) elem_23 int_5 str_9) ?_)
                         refine ⟨trivial, ?_⟩
                         refine WN.calm _ rfl rfl rfl rfl rfl (fun _ => r_eqlStrL rfl (ev_t rfl) (ev_t rfl)) ?_
                         refine WN.calm _ rfl rfl rfl rfl rfl (fun _ => r_pickT rfl (ev_t rfl) (ev_t rfl)) ?_
                         refine WN.calm _ rfl rfl rfl rfl rfl (fun _ => r_assign rfl (ev_t rfl)) ?_
                         refine WN.done ?_
                         refine WX.keep [(2, _)] ⟨rfl, trivial⟩ ?_
                         refine WX.next ?_
                         refine WC.ret ?_
                         refine WX.retE1 rfl rfl ?_
                         first
                           | exact ⟨rfl, hU⟩
                           | exact ⟨by simp [hsv], hU⟩
                           | exact ⟨by simp, hU⟩
                       · refine SO.val rfl rfl rfl rfl (r_toStr rfl (ev_t rfl) (hp.upd hU (fun _ _ _ h => h)) elem_23 int_5 str_9) ?_
                         refine ⟨trivial, ?_⟩
                         refine WN.step _ rfl (SO.val rfl rfl rfl rfl (r_toStr rfl (ev_t rfl) (ho3.rd (by omega)) elem_23 int_5 str_9) ?_)
                         refine ⟨trivial, ?_⟩
                         refine WN.calm _ rfl rfl rfl rfl rfl (fun _ => r_eqlStrL rfl (ev_t rfl) (ev_t rfl)) ?_
                         refine WN.calm _ rfl rfl rfl rfl rfl (fun _ => r_pickT rfl (ev_t rfl) (ev_t rfl)) ?_
                         refine WN.calm _ rfl rfl rfl rfl rfl (fun _ => r_assign rfl (ev_t rfl)) ?_
                         refine WN.done ?_
                         refine WX.keep [(2, _)] ⟨rfl, trivial⟩ ?_
                         refine WX.next ?_
                         refine WC.ret ?_
                         refine WX.retE1 rfl rfl ?_
                         first
                           | exact ⟨rfl, hU⟩
                           | exact ⟨by simp [hsv], hU⟩
                           | exact ⟨by simp, hU⟩
                     · refine SO.val rfl rfl rfl rfl (r_toStr rfl (ev_t rfl) (hp.upd hU (fun _ _ _ h => h)) elem_23 int_5 str_9) ?_
                       refine ⟨trivial, ?_⟩
                       refine WN.step _ rfl (SO.call (Save_ok hT hL) rfl body_14 ⟨(ev_t rfl), trivial⟩ rfl rfl rfl rfl ?_)
                       rintro v w13 ⟨ho3, hu13⟩
                       obtain ⟨A3, c3, rfl, hc3⟩ := Own.form ho3
                       have hs13 := hu13.size
                       replace hU := hU.transA hu13
                       replace hT := hT.upd hu13 (fun _ _ _ h => h)
                       replace hQ := hQ.upd hu13 (fun _ _ _ h => h)
                       replace ho := ho.updA hu13
                       replace ho2 := ho2.updA hu13
                       refine ⟨trivial, ?_⟩
                       refine WN.step _ rfl (SO.val rfl rfl rfl rfl (r_toStr rfl (ev_t rfl) (ho3.rd (by omega)) elem_23 int_5 str_9) ?_)
                       refine ⟨trivial, ?_⟩
                       refine WN.calm _ rfl rfl rfl rfl rfl (fun _ => r_eqlStrL rfl (ev_t rfl) (ev_t rfl)) ?_
                       refine WN.calm _ rfl rfl rfl rfl rfl (fun _ => r_pickT rfl (ev_t rfl) (ev_t rfl)) ?_
                       refine WN.calm _ rfl rfl rfl rfl rfl (fun _ => r_assign rfl (ev_t rfl)) ?_
                       refine WN.done ?_
                       refine WX.keep [(2, _)] ⟨rfl, trivial⟩ ?_
                       refine WX.next ?_
                       refine WC.ret ?_
                       refine WX.retE1 rfl rfl ?_
                       first
                         | exact ⟨rfl, hU⟩
                         | exact ⟨by simp [hsv], hU⟩
                         | exact ⟨by simp, hU⟩
                  · try (exfalso; first | (simp at hb7_11; done) | (simp only [decide_eq_true_eq, decide_eq_false_iff_not, Bool.not_eq_true', Bool.not_eq_false', Bool.not_eq_true, Bool.not_eq_false] at hb7_11; omega) | omega)
                    all_goals
                     try simp only [decide_eq_true_eq, decide_eq_false_iff_not, Bool.not_eq_true', Bool.not_eq_false', Bool.not_eq_true, Bool.not_eq_false, Option.isNone_none, Option.isNone_some, Option.isSome_none, Option.isSome_some, ne_eq, Decidable.not_not] at hb7_11
                     refine WN.skip _ rfl rfl rfl rfl ?_
                     refine WN.skip _ rfl rfl rfl rfl ?_
                     refine WN.fork _ _ rfl rfl ?_ ?_
                     · refine SO.skip rfl rfl rfl ?_
                       refine ⟨trivial, ?_⟩
                       refine WN.fork _ _ rfl rfl ?_ ?_
                       · refine SO.skip rfl rfl rfl ?_
                         refine ⟨trivial, ?_⟩
                         refine WN.step _ rfl (SO.skip rfl rfl rfl ?_)
                         refine ⟨trivial, ?_⟩
                         refine WN.skip _ rfl rfl rfl rfl ?_
                         refine WN.calm _ rfl rfl rfl rfl rfl (fun _ => r_pickF rfl (ev_t rfl) ev_c) ?_
                         refine WN.calm _ rfl rfl rfl rfl rfl (fun _ => r_assign rfl (ev_t rfl)) ?_
                         refine WN.done ?_
                         refine WX.keep [(2, _)] ⟨rfl, trivial⟩ ?_
                         refine WX.next ?_
                         refine WC.ret ?_
                         refine WX.retE1 rfl rfl ?_
                         first
                           | exact ⟨rfl, hU⟩
                           | exact ⟨by simp [hsv], hU⟩
                           | exact ⟨by simp, hU⟩
                       · refine SO.skip rfl rfl rfl ?_
                         refine ⟨trivial, ?_⟩
                         refine WN.step _ rfl (SO.skip rfl rfl rfl ?_)
                         refine ⟨trivial, ?_⟩
                         refine WN.skip _ rfl rfl rfl rfl ?_
                         refine WN.calm _ rfl rfl rfl rfl rfl (fun _ => r_pickF rfl (ev_t rfl) ev_c) ?_
                         refine WN.calm _ rfl rfl rfl rfl rfl (fun _ => r_assign rfl (ev_t rfl)) ?_
                         refine WN.done ?_
                         refine WX.keep [(2, _)] ⟨rfl, trivial⟩ ?_
                         refine WX.next ?_
                         refine WC.ret ?_
                         refine WX.retE1 rfl rfl ?_
                         first
                           | exact ⟨rfl, hU⟩
                           | exact ⟨by simp [hsv], hU⟩
                           | exact ⟨by simp, hU⟩
                     · refine SO.skip rfl rfl rfl ?_
                       refine ⟨trivial, ?_⟩
                       refine WN.step _ rfl (SO.skip rfl rfl rfl ?_)
                       refine ⟨trivial, ?_⟩
                       refine WN.step _ rfl (SO.skip rfl rfl rfl ?_)
                       refine ⟨trivial, ?_⟩
                       refine WN.skip _ rfl rfl rfl rfl ?_
                       refine WN.calm _ rfl rfl rfl rfl rfl (fun _ => r_pickF rfl (ev_t rfl) ev_c) ?_
                       refine WN.calm _ rfl rfl rfl rfl rfl (fun _ => r_assign rfl (ev_t rfl)) ?_
                       refine WN.done ?_
                       refine WX.keep [(2, _)] ⟨rfl, trivial⟩ ?_
                       refine WX.next ?_
                       refine WC.ret ?_
                       refine WX.retE1 rfl rfl ?_
                       first
                         | exact ⟨rfl, hU⟩
                         | exact ⟨by simp [hsv], hU⟩
                         | exact ⟨by simp, hU⟩
                · refine SO.val rfl rfl rfl rfl (r_toStr rfl (ev_t rfl) (ho2.rd (by omega)) elem_23 int_5 str_9) ?_
                  refine ⟨trivial, ?_⟩
                  refine WN.step _ rfl (SO.val rfl rfl rfl rfl (r_toStr rfl (ev_t rfl) (ho.rd (by omega)) elem_23 int_5 str_9) ?_)
                  refine ⟨trivial, ?_⟩
                  refine WN.calm _ rfl rfl rfl rfl rfl (fun _ => r_eqlStrL rfl (ev_t rfl) (ev_t rfl)) ?_
                  refine WN.calm _ rfl rfl rfl rfl rfl (fun _ => r_pickT rfl (ev_t rfl) (ev_t rfl)) ?_
                  refine WN.calm _ rfl rfl rfl rfl rfl (fun _ => r_move rfl (ev_t rfl)) ?_
                  refine WN.cases 44 rfl (fun hb7_11 => ?_) (fun hb7_11 => ?_)
                  · try (exfalso; first | (simp at hb7_11; done) | (simp only [decide_eq_true_eq, decide_eq_false_iff_not, Bool.not_eq_true', Bool.not_eq_false', Bool.not_eq_true, Bool.not_eq_false] at hb7_11; omega) | omega)
                    all_goals
                     try simp only [decide_eq_true_eq, decide_eq_false_iff_not, Bool.not_eq_true', Bool.not_eq_false', Bool.not_eq_true, Bool.not_eq_false, Option.isNone_none, Option.isNone_some, Option.isSome_none, Option.isSome_some, ne_eq, Decidable.not_not] at hb7_11
                     refine WN.calm _ rfl rfl rfl rfl rfl (fun _ => r_move rfl (ev_t rfl)) ?_
                     refine WN.calm _ rfl rfl rfl rfl rfl (fun _ => r_move rfl (ev_t rfl)) ?_
                     refine WN.fork _ _ rfl rfl ?_ ?_
                     · refine SO.call (Save_ok hT hL) rfl body_14 ⟨(ev_t rfl), trivial⟩ rfl rfl rfl rfl ?_
                       rintro v w14 ⟨ho3, hu14⟩
                       obtain ⟨A3, c3, rfl, hc3⟩ := Own.form ho3
                       have hs14 := hu14.size
                       replace hU := hU.transA hu14
                       replace hT := hT.upd hu14 (fun _ _ _ h => h)
                       replace hQ := hQ.upd hu14 (fun _ _ _ h => h)
                       replace ho := ho.updA hu14
                       replace ho2 := ho2.updA hu14
                       refine ⟨trivial, ?_⟩
                       refine WN.fork _ _ rfl rfl ?_ ?_
                       · refine SO.val rfl rfl rfl rfl (r_toStr rfl (ev_t rfl) (ho3.rd (by omega)) elem_23 int_5 str_9) ?_
                         refine ⟨trivial, ?_⟩
                         refine WN.step _ rfl (SO.val rfl rfl rfl rfl (r_toStr rfl (ev_t rfl) (hp.upd hU (fun _ _ _ h => h)) elem_23 int_5 str_9) ?_)
                         refine ⟨trivial, ?_⟩
                         refine WN.calm _ rfl rfl rfl rfl rfl (fun _ => r_eqlStrL rfl (ev_t rfl) (ev_t rfl)) ?_
                         refine WN.calm _ rfl rfl rfl rfl rfl (fun _ => r_pickT rfl (ev_t rfl) (ev_t rfl)) ?_
                         refine WN.calm _ rfl rfl rfl rfl rfl (fun _ => r_assign rfl (ev_t rfl)) ?_
                         refine WN.done ?_
                         refine WX.keep [(2, _)] ⟨rfl, trivial⟩ ?_
                         refine WX.next ?_
                         refine WC.ret ?_
                         refine WX.retE1 rfl rfl ?_
                         first
                           | exact ⟨rfl, hU⟩
                           | exact ⟨by simp [hsv], hU⟩
                           | exact ⟨by simp, hU⟩
                       · refine SO.val rfl rfl rfl rfl (r_toStr rfl (ev_t rfl) (hp.upd hU (fun _ _ _ h => h)) elem_23 int_5 str_9) ?_
                         refine ⟨trivial, ?_⟩
                         refine WN.step _ rfl (SO.val rfl rfl rfl rfl (r_toStr rfl (ev_t rfl) (ho3.rd (by omega)) elem_23 int_5 str_9) ?_)
                         refine ⟨trivial, ?_⟩
                         refine WN.calm _ rfl rfl rfl rfl rfl (fun _ => r_eqlStrL rfl (ev_t rfl) (ev_t rfl)) ?_
                         refine WN.calm _ rfl rfl rfl rfl rfl (fun _ => r_pickT rfl (ev_t rfl) (ev_t rfl)) ?_
                         refine WN.calm _ rfl rfl rfl rfl rfl (fun _ => r_assign rfl (ev_t rfl)) ?_
                         refine WN.done ?_
                         refine WX.keep [(2, _)] ⟨rfl, trivial⟩ ?_
                         refine WX.next ?_
                         refine WC.ret ?_
                         refine WX.retE1 rfl rfl ?_
                         first
                           | exact ⟨rfl, hU⟩
                           | exact ⟨by simp [hsv], hU⟩
                           | exact ⟨by simp, hU⟩
                     · refine SO.val rfl rfl rfl rfl (r_toStr rfl (ev_t rfl) (hp.upd hU (fun _ _ _ h => h)) elem_23 int_5 str_9) ?_
                       refine ⟨trivial, ?_⟩
                       refine WN.step _ rfl (SO.call (Save_ok hT hL) rfl body_14 ⟨(ev_t rfl), trivial⟩ rfl rfl rfl rfl ?_)
                       rintro v w15 ⟨ho3, hu15⟩
                       obtain ⟨A3, c3, rfl, hc3⟩ := Own.form ho3
                       have hs15 := hu15.size
                       replace hU := hU.transA hu15
                       replace hT := hT.upd hu15 (fun _ _ _ h => h)
                       replace hQ := hQ.upd hu15 (fun _ _ _ h => h)
                       replace ho := ho.updA hu15
                       replace ho2 := ho2.updA hu15
                       refine ⟨trivial, ?_⟩
                       refine WN.step _ rfl (SO.val rfl rfl rfl rfl (r_toStr rfl (ev_t rfl) (ho3.rd (by omega)) elem_23 int_5 str_9) ?_)
                       refine ⟨trivial, ?_⟩
                       refine WN.calm _ rfl rfl rfl rfl rfl (fun _ => r_eqlStrL rfl (ev_t rfl) (ev_t rfl)) ?_
                       refine WN.calm _ rfl rfl rfl rfl rfl (fun _ => r_pickT rfl (ev_t rfl) (ev_t rfl)) ?_
                       refine WN.calm _ rfl rfl rfl rfl rfl (fun _ => r_assign rfl (ev_t rfl)) ?_
                       refine WN.done ?_
                       refine WX.keep [(2, _)] ⟨rfl, trivial⟩ ?_
                       refine WX.next ?_
                       refine WC.ret ?_
                       refine WX.retE1 rfl rfl ?_
                       first
                         | exact ⟨rfl, hU⟩
                         | exact ⟨by simp [hsv], hU⟩
                         | exact ⟨by simp, hU⟩
                  · try (exfalso; first | (simp at hb7_11; done) | (simp only [decide_eq_true_eq, decide_eq_false_iff_not, Bool.not_eq_true', Bool.not_eq_false', Bool.not_eq_true, Bool.not_eq_false] at hb7_11; omega) | omega)
                    all_goals
                     try simp only [decide_eq_true_eq, decide_eq_false_iff_not, Bool.not_eq_true', Bool.not_eq_false', Bool.not_eq_true, Bool.not_eq_false, Option.isNone_none, Option.isNone_some, Option.isSome_none, Option.isSome_some, ne_eq, Decidable.not_not] at hb7_11
                     refine WN.skip _ rfl rfl rfl rfl ?_
                     refine WN.skip _ rfl rfl rfl rfl ?_
                     refine WN.fork _ _ rfl rfl ?_ ?_
                     · refine SO.skip rfl rfl rfl ?_
                       refine ⟨trivial, ?_⟩
                       refine WN.fork _ _ rfl rfl ?_ ?_
                       · refine SO.skip rfl rfl rfl ?_
                         refine ⟨trivial, ?_⟩
                         refine WN.step _ rfl (SO.skip rfl rfl rfl ?_)
                         refine ⟨trivial, ?_⟩
                         refine WN.skip _ rfl rfl rfl rfl ?_
                         refine WN.calm _ rfl rfl rfl rfl rfl (fun _ => r_pickF rfl (ev_t rfl) ev_c) ?_
                         refine WN.calm _ rfl rfl rfl rfl rfl (fun _ => r_assign rfl (ev_t rfl)) ?_
                         refine WN.done ?_
                         refine WX.keep [(2, _)] ⟨rfl, trivial⟩ ?_
                         refine WX.next ?_
                         refine WC.ret ?_
                         refine WX.retE1 rfl rfl ?_
                         first
                           | exact ⟨rfl, hU⟩
                           | exact ⟨by simp [hsv], hU⟩
                           | exact ⟨by simp, hU⟩
                       · refine SO.skip rfl rfl rfl ?_
                         refine ⟨trivial, ?_⟩
                         refine WN.step _ rfl (SO.skip rfl rfl rfl ?_)
                         refine ⟨trivial, ?_⟩
                         refine WN.skip _ rfl rfl rfl rfl ?_
                         refine WN.calm _ rfl rfl rfl rfl rfl (fun _ => r_pickF rfl (ev_t rfl) ev_c) ?_
                         refine WN.calm _ rfl rfl rfl rfl rfl (fun _ => r_assign rfl (ev_t rfl)) ?_
                         refine WN.done ?_
                         refine WX.keep [(2, _)] ⟨rfl, trivial⟩ ?_
                         refine WX.next ?_
                         refine WC.ret ?_
                         refine WX.retE1 rfl rfl ?_
                         first
                           | exact ⟨rfl, hU⟩
                           | exact ⟨by simp [hsv], hU⟩
                           | exact ⟨by simp, hU⟩
                     · refine SO.skip rfl rfl rfl ?_
                       refine ⟨trivial, ?_⟩
                       refine WN.step _ rfl (SO.skip rfl rfl rfl ?_)
                       refine ⟨trivial, ?_⟩
                       refine WN.step _ rfl (SO.skip rfl rfl rfl ?_)
                       refine ⟨trivial, ?_⟩
                       refine WN.skip _ rfl rfl rfl rfl ?_
                       refine WN.calm _ rfl rfl rfl rfl rfl (fun _ => r_pickF rfl (ev_t rfl) ev_c) ?_
                       refine WN.calm _ rfl rfl rfl rfl rfl (fun _ => r_assign rfl (ev_t rfl)) ?_
                       refine WN.done ?_
                       refine WX.keep [(2, _)] ⟨rfl, trivial⟩ ?_
                       refine WX.next ?_
                       refine WC.ret ?_
                       refine WX.retE1 rfl rfl ?_
                       first
                         | exact ⟨rfl, hU⟩
                         | exact ⟨by simp [hsv], hU⟩
                         | exact ⟨by simp, hU⟩
           · try (exfalso; first | (simp at hb7_2; done) | (simp only [decide_eq_true_eq, decide_eq_false_iff_not, Bool.not_eq_true', Bool.not_eq_false', Bool.not_eq_true, Bool.not_eq_false] at hb7_2; omega) | omega)
             all_goals
              try simp only [decide_eq_true_eq, decide_eq_false_iff_not, Bool.not_eq_true', Bool.not_eq_false', Bool.not_eq_true, Bool.not_eq_false, Option.isNone_none, Option.isNone_some, Option.isSome_none, Option.isSome_some, ne_eq, Decidable.not_not] at hb7_2
              refine WN.skip _ rfl rfl rfl rfl ?_
              refine WN.skip _ rfl rfl rfl rfl ?_
              refine WN.step _ rfl (SO.skip rfl rfl rfl ?_)
              refine ⟨trivial, ?_⟩
              refine WN.fork _ _ rfl rfl ?_ ?_
              · refine SO.skip rfl rfl rfl ?_
                refine ⟨trivial, ?_⟩
                refine WN.step _ rfl (SO.skip rfl rfl rfl ?_)
                refine ⟨trivial, ?_⟩
                refine WN.step _ rfl (SO.skip rfl rfl rfl ?_)
                refine ⟨trivial, ?_⟩
                refine WN.skip _ rfl rfl rfl rfl ?_
                refine WN.calm _ rfl rfl rfl rfl rfl (fun _ => r_pickF rfl (ev_t rfl) ev_c) ?_
                refine WN.calm _ rfl rfl rfl rfl rfl (fun _ => r_move rfl (ev_t rfl)) ?_
                refine WN.skip _ rfl rfl rfl rfl ?_
                refine WN.skip _ rfl rfl rfl rfl ?_
                refine WN.fork _ _ rfl rfl ?_ ?_
                · refine SO.skip rfl rfl rfl ?_
                  refine ⟨trivial, ?_⟩
                  refine WN.fork _ _ rfl rfl ?_ ?_
                  · refine SO.skip rfl rfl rfl ?_
                    refine ⟨trivial, ?_⟩
                    refine WN.step _ rfl (SO.skip rfl rfl rfl ?_)
                    refine ⟨trivial, ?_⟩
                    refine WN.skip _ rfl rfl rfl rfl ?_
                    refine WN.calm _ rfl rfl rfl rfl rfl (fun _ => r_pickF rfl (ev_t rfl) ev_c) ?_
                    refine WN.calm _ rfl rfl rfl rfl rfl (fun _ => r_assign rfl (ev_t rfl)) ?_
                    refine WN.done ?_
                    refine WX.keep [(2, _)] ⟨rfl, trivial⟩ ?_
                    refine WX.next ?_
                    refine WC.ret ?_
                    refine WX.retE1 rfl rfl ?_
                    first
                      | exact ⟨rfl, hU⟩
                      | exact ⟨by simp [hsv], hU⟩
                      | exact ⟨by simp, hU⟩
                  · refine SO.skip rfl rfl rfl ?_
                    refine ⟨trivial, ?_⟩
                    refine WN.step _ rfl (SO.skip rfl rfl rfl ?_)
                    refine ⟨trivial, ?_⟩
                    refine WN.skip _ rfl rfl rfl rfl ?_
                    refine WN.calm _ rfl rfl rfl rfl rfl (fun _ => r_pickF rfl (ev_t rfl) ev_c) ?_
                    refine WN.calm _ rfl rfl rfl rfl rfl (fun _ => r_assign rfl (ev_t rfl)) ?_
                    refine WN.done ?_
                    refine WX.keep [(2, _)] ⟨rfl, trivial⟩ ?_
                    refine WX.next ?_
                    refine WC.ret ?_
                    refine WX.retE1 rfl rfl ?_
                    first
                      | exact ⟨rfl, hU⟩
                      | exact ⟨by simp [hsv], hU⟩
                      | exact ⟨by simp, hU⟩
                · refine SO.skip rfl rfl rfl ?_
                  refine ⟨trivial, ?_⟩
                  refine WN.step _ rfl (SO.skip rfl rfl rfl ?_)
                  refine ⟨trivial, ?_⟩
                  refine WN.step _ rfl (SO.skip rfl rfl rfl ?_)
                  refine ⟨trivial, ?_⟩
                  refine WN.skip _ rfl rfl rfl rfl ?_
                  refine WN.calm _ rfl rfl rfl rfl rfl (fun _ => r_pickF rfl (ev_t rfl) ev_c) ?_
                  refine WN.calm _ rfl rfl rfl rfl rfl (fun _ => r_assign rfl (ev_t rfl)) ?_
                  refine WN.done ?_
                  refine WX.keep [(2, _)] ⟨rfl, trivial⟩ ?_
                  refine WX.next ?_
                  refine WC.ret ?_
                  refine WX.retE1 rfl rfl ?_
                  first
                    | exact ⟨rfl, hU⟩
                    | exact ⟨by simp [hsv], hU⟩
                    | exact ⟨by simp, hU⟩
              · refine SO.skip rfl rfl rfl ?_
                refine ⟨trivial, ?_⟩
                refine WN.fork _ _ rfl rfl ?_ ?_
                · refine SO.skip rfl rfl rfl ?_
                  refine ⟨trivial, ?_⟩
                  refine WN.step _ rfl (SO.skip rfl rfl rfl ?_)
                  refine ⟨trivial, ?_⟩
                  refine WN.skip _ rfl rfl rfl rfl ?_
                  refine WN.calm _ rfl rfl rfl rfl rfl (fun _ => r_pickF rfl (ev_t rfl) ev_c) ?_
                  refine WN.calm _ rfl rfl rfl rfl rfl (fun _ => r_move rfl (ev_t rfl)) ?_
                  refine WN.skip _ rfl rfl rfl rfl ?_
                  refine WN.skip _ rfl rfl rfl rfl ?_
                  refine WN.fork _ _ rfl rfl ?_ ?_
                  · refine SO.skip rfl rfl rfl ?_
                    refine ⟨trivial, ?_⟩
                    refine WN.fork _ _ rfl rfl ?_ ?_
                    · refine SO.skip rfl rfl rfl ?_
                      refine ⟨trivial, ?_⟩
                      refine WN.step _ rfl (SO.skip rfl rfl rfl ?_)
                      refine ⟨trivial, ?_⟩
                      refine WN.skip _ rfl rfl rfl rfl ?_
                      refine WN.calm _ rfl rfl rfl rfl rfl (fun _ => r_pickF rfl (ev_t rfl) ev_c) ?_
                      refine WN.calm _ rfl rfl rfl rfl rfl (fun _ => r_assign rfl (ev_t rfl)) ?_
                      refine WN.done ?_
                      refine WX.keep [(2, _)] ⟨rfl, trivial⟩ ?_
                      refine WX.next ?_
                      refine WC.ret ?_
                      refine WX.retE1 rfl rfl ?_
                      first
                        | exact ⟨rfl, hU⟩
                        | exact ⟨by simp [hsv], hU⟩
                        | exact ⟨by simp, hU⟩
                    · refine SO.skip rfl rfl rfl ?_
                      refine ⟨trivial, ?_⟩
                      refine WN.step _ rfl (SO.skip rfl rfl rfl ?_)
                      refine ⟨trivial, ?_⟩
                      refine WN.skip _ rfl rfl rfl rfl ?_
                      refine WN.calm _ rfl rfl rfl rfl rfl (fun _ => r_pickF rfl (ev_t rfl) ev_c) ?_
                      refine WN.calm _ rfl rfl rfl rfl rfl (fun _ => r_assign rfl (ev_t rfl)) ?_
                      refine WN.done ?_
                      refine WX.keep [(2, _)] ⟨rfl, trivial⟩ ?_
                      refine WX.next ?_
                      refine WC.ret ?_
                      refine WX.retE1 rfl rfl ?_
                      first
                        | exact ⟨rfl, hU⟩
                        | exact ⟨by simp [hsv], hU⟩
                        | exact ⟨by simp, hU⟩
                  · refine SO.skip rfl rfl rfl ?_
                    refine ⟨trivial, ?_⟩
                    refine WN.step _ rfl (SO.skip rfl rfl rfl ?_)
                    refine ⟨trivial, ?_⟩
                    refine WN.step _ rfl (SO.skip rfl rfl rfl ?_)
                    refine ⟨trivial, ?_⟩
                    refine WN.skip _ rfl rfl rfl rfl ?_
                    refine WN.calm _ rfl rfl rfl rfl rfl (fun _ => r_pickF rfl (ev_t rfl) ev_c) ?_
                    refine WN.calm _ rfl rfl rfl rfl rfl (fun _ => r_assign rfl (ev_t rfl)) ?_
                    refine WN.done ?_
                    refine WX.keep [(2, _)] ⟨rfl, trivial⟩ ?_
                    refine WX.next ?_
                    refine WC.ret ?_
                    refine WX.retE1 rfl rfl ?_
                    first
                      | exact ⟨rfl, hU⟩
                      | exact ⟨by simp [hsv], hU⟩
                      | exact ⟨by simp, hU⟩
                · refine SO.skip rfl rfl rfl ?_
                  refine ⟨trivial, ?_⟩
                  refine WN.step _ rfl (SO.skip rfl rfl rfl ?_)
                  refine ⟨trivial, ?_⟩
                  refine WN.skip _ rfl rfl rfl rfl ?_
                  refine WN.calm _ rfl rfl rfl rfl rfl (fun _ => r_pickF rfl (ev_t rfl) ev_c) ?_
                  refine WN.calm _ rfl rfl rfl rfl rfl (fun _ => r_move rfl (ev_t rfl)) ?_
                  refine WN.skip _ rfl rfl rfl rfl ?_
                  refine WN.skip _ rfl rfl rfl rfl ?_
                  refine WN.fork _ _ rfl rfl ?_ ?_
                  · refine SO.skip rfl rfl rfl ?_
                    refine ⟨trivial, ?_⟩
                    refine WN.fork _ _ rfl rfl ?_ ?_
                    · refine SO.skip rfl rfl rfl ?_
                      refine ⟨trivial, ?_⟩
                      refine WN.step _ rfl (SO.skip rfl rfl rfl ?_)
                      refine ⟨trivial, ?_⟩
                      refine WN.skip _ rfl rfl rfl rfl ?_
                      refine WN.calm _ rfl rfl rfl rfl rfl (fun _ => r_pickF rfl (ev_t rfl) ev_c) ?_
                      refine WN.calm _ rfl rfl rfl rfl rfl (fun _ => r_assign rfl (ev_t rfl)) ?_
                      refine WN.done ?_
                      refine WX.keep [(2, _)] ⟨rfl, trivial⟩ ?_
                      refine WX.next ?_
                      refine WC.ret ?_
                      refine WX.retE1 rfl rfl ?_
                      first
                        | exact ⟨rfl, hU⟩
                        | exact ⟨by simp [hsv], hU⟩
                        | exact ⟨by simp, hU⟩
                    · refine SO.skip rfl rfl rfl ?_
                      refine ⟨trivial, ?_⟩
                      refine WN.step _ rfl (SO.skip rfl rfl rfl ?_)
                      refine ⟨trivial, ?_⟩
                      refine WN.skip _ rfl rfl rfl rfl ?_
                      refine WN.calm _ rfl rfl rfl rfl rfl (fun _ => r_pickF rfl (ev_t rfl) ev_c) ?_
                      refine WN.calm _ rfl rfl rfl rfl rfl (fun _ => r_assign rfl (ev_t rfl)) ?_
                      refine WN.done ?_
                      refine WX.keep [(2, _)] ⟨rfl, trivial⟩ ?_
                      refine WX.next ?_
                      refine WC.ret ?_
                      refine WX.retE1 rfl rfl ?_
                      first
                        | exact ⟨rfl, hU⟩
                        | exact ⟨by simp [hsv], hU⟩
                        | exact ⟨by simp, hU⟩
                  · refine SO.skip rfl rfl rfl ?_
                    refine ⟨trivial, ?_⟩
                    refine WN.step _ rfl (SO.skip rfl rfl rfl ?_)
                    refine ⟨trivial, ?_⟩
                    refine WN.step _ rfl (SO.skip rfl rfl rfl ?_)
                    refine ⟨trivial, ?_⟩
                    refine WN.skip _ rfl rfl rfl rfl ?_
                    refine WN.calm _ rfl rfl rfl rfl rfl (fun _ => r_pickF rfl (ev_t rfl) ev_c) ?_
                    refine WN.calm _ rfl rfl rfl rfl rfl (fun _ => r_assign rfl (ev_t rfl)) ?_
                    refine WN.done ?_
                    refine WX.keep [(2, _)] ⟨rfl, trivial⟩ ?_
                    refine WX.next ?_
                    refine WC.ret ?_
                    refine WX.retE1 rfl rfl ?_
                    first
                      | exact ⟨rfl, hU⟩
                      | exact ⟨by simp [hsv], hU⟩
                      | exact ⟨by simp, hU⟩
end Go.Proofs.Ytipabhbnljadfaa

/-
  slices.Insert of a session, ahead of others.
-/
namespace Go.Proofs.Ytipabhbnljadfaa
open Go
set_option linter.unusedSimpArgs false
set_option linter.unusedVariables false

set_option maxHeartbeats 2000000 in
theorem insMid_ok {w : World} {G : Nat → Prop} {A : Option Addr} {b2 n c i : Nat} {xs : List Value} {r : LsV} (hO : Own w G 58 3 (.slice A n c) n xs) (hn : n ≤ 1000) (hi : i < n) (hvB : Blk w b2 r.cells.toArray 58) (hd : ¬ G b2) (h1 : r.v.oneCell' = true) (hx1 : ∀ u ∈ xs, u.oneCell' = true) :
    Ret Try.prog 22 #[.slice A n c, .int .i64 (i : Int), .slice (some ⟨b2, 0, none⟩) 1 1] w fun u w' => Own w' (Grow G w w') 58 3 u (n + 1) (xs.take (i * 3) ++ r.cells ++ xs.drop (i * 3)) ∧ Upd G w w' := by
  have hxl := hO.len
  have hr1 : ∀ u ∈ r.cells, u.oneCell' = true := by intro u hu; simp only [LsV.cells, lsC, List.mem_cons, List.not_mem_nil, or_false] at hu; rcases hu with rfl | rfl | rfl; rfl; rfl; exact h1
  have hOO := hO
  obtain ⟨g, cap, cur, eS, hg, hGg, hk1, hk2, hk3, hk4⟩ := hO.open (by omega)
  simp only [Value.slice.injEq, true_and] at eS
  obtain ⟨rfl, rfl⟩ := eS
  have hr := hOO.rd (by omega)
  have hgb : b2 ≠ g := fun e => hd (e ▸ hGg)
  have hgl := hg.lt
  have hbl2 := hvB.lt
  refine enterRet (vs := [_, _, _]) (N := 95) Try.func22 rfl rfl rfl ?_
  have hU := Upd.refl G w
  refine WC.keep [(0, _), (1, _), (2, _)] ⟨rfl, rfl, rfl, trivial⟩ ?_
  refine WC.seq ?_
  refine WC.region ?_
  refine WL.val rfl rfl rfl rfl (r_assign rfl ev_c) ?_
  refine WL.nil ?_
  refine WX.keep [(0, _), (1, _), (2, _)] ⟨rfl, rfl, rfl, trivial⟩ ?_
  refine WX.next ?_
  refine WC.seq ?_
  refine WC.region ?_
  refine WL.val rfl rfl rfl rfl (r_move rfl (ev_t rfl)) ?_
  refine WL.val rfl rfl rfl rfl (r_move rfl (ev_t rfl)) ?_
  refine WL.val rfl rfl rfl rfl (r_slice (l := i) (h := n) rfl (ev_t rfl) elem_53 size_58 (bnd_some (ev_t rfl) (by omega)) bnd_none (by omega) (by omega) (by omega)) ?_
  refine WL.nil ?_
  refine WX.keep [(0, _), (1, _), (2, _)] ⟨rfl, rfl, rfl, trivial⟩ ?_
  refine WX.next ?_
  refine WC.seq ?_
  refine WC.region ?_
  refine WL.val rfl rfl rfl rfl (r_move rfl (ev_t rfl)) ?_
  refine WL.val rfl rfl rfl rfl (r_lenSlice (ts := #[]) rfl (ev_t rfl) elem_53) ?_
  refine WL.val rfl rfl rfl rfl (r_assign rfl (ev_t rfl)) ?_
  refine WL.nil ?_
  refine WX.keep [(0, _), (1, _), (2, _), (7, _)] ⟨rfl, rfl, rfl, rfl, trivial⟩ ?_
  refine WX.next ?_
  refine WC.seq ?_
  refine WC.seq ?_
  refine WC.region ?_
  refine WL.val rfl rfl rfl rfl (r_move rfl (ev_t rfl)) ?_
  refine WL.val rfl rfl rfl rfl (r_eql rfl (ev_t rfl) ev_c) ?_
  refine WL.nil ?_
  refine WX.keep [(0, _), (1, _), (2, _), (7, _), (16, _)] ⟨rfl, rfl, rfl, rfl, rfl, trivial⟩ ?_
  refine WX.next ?_
  refine WC.cond rfl (ev_t rfl) (fun hc3 => ?_) (fun hc3 => ?_)
  · try (exfalso; first | (simp at hc3; done) | (simp only [decide_eq_true_eq, decide_eq_false_iff_not, Bool.not_eq_true', Bool.not_eq_false', Bool.not_eq_true, Bool.not_eq_false] at hc3; omega) | omega)
    all_goals
     try simp only [decide_eq_true_eq, decide_eq_false_iff_not, Bool.not_eq_true', Bool.not_eq_false', Bool.not_eq_true, Bool.not_eq_false, Option.isNone_none, Option.isNone_some, Option.isSome_none, Option.isSome_some, ne_eq, Decidable.not_not] at hc3
     refine WC.seq ?_
     refine WC.region ?_
     refine WL.val rfl rfl rfl rfl (r_move rfl (ev_t rfl)) ?_
     refine WL.val rfl rfl rfl rfl (r_assign rfl (ev_t rfl)) ?_
     refine WL.nil ?_
     refine WX.keep [(6, _)] ⟨rfl, trivial⟩ ?_
     refine WX.next ?_
     refine WC.ret ?_
     refine WX.thenRet ?_
     refine WX.retE1 rfl rfl ?_
     fail
  · try (exfalso; first | (simp at hc3; done) | (simp only [decide_eq_true_eq, decide_eq_false_iff_not, Bool.not_eq_true', Bool.not_eq_false', Bool.not_eq_true, Bool.not_eq_false] at hc3; omega) | omega)
    all_goals
     try simp only [decide_eq_true_eq, decide_eq_false_iff_not, Bool.not_eq_true', Bool.not_eq_false', Bool.not_eq_true, Bool.not_eq_false, Option.isNone_none, Option.isNone_some, Option.isSome_none, Option.isSome_some, ne_eq, Decidable.not_not] at hc3
     refine WC.skip ?_
     refine WX.next ?_
     refine WC.seq ?_
     refine WC.region ?_
     refine WL.val rfl rfl rfl rfl (r_move rfl (ev_t rfl)) ?_
     refine WL.val rfl rfl rfl rfl (r_lenSlice (ts := #[]) rfl (ev_t rfl) elem_53) ?_
     refine WL.val rfl rfl rfl rfl (r_assign rfl (ev_t rfl)) ?_
     refine WL.nil ?_
     refine WX.keep [(0, _), (1, _), (2, _), (7, _), (8, _)] ⟨rfl, rfl, rfl, rfl, rfl, trivial⟩ ?_
     refine WX.next ?_
     refine WC.seq ?_
     refine WC.seq ?_
     refine WC.region ?_
     refine WL.val rfl rfl rfl rfl (r_move rfl (ev_t rfl)) ?_
     refine WL.val rfl rfl rfl rfl (r_move rfl (ev_t rfl)) ?_
     refine WL.val rfl rfl rfl rfl (r_eql rfl (ev_t rfl) (ev_t rfl)) ?_
     refine WL.nil ?_
     refine WX.keep [(0, _), (1, _), (2, _), (7, _), (8, _), (22, _)] ⟨rfl, rfl, rfl, rfl, rfl, rfl, trivial⟩ ?_
     refine WX.next ?_
     refine WC.cond rfl (ev_t rfl) (fun hc6 => ?_) (fun hc6 => ?_)
     · try (exfalso; first | (simp at hc6; done) | (simp only [decide_eq_true_eq, decide_eq_false_iff_not, Bool.not_eq_true', Bool.not_eq_false', Bool.not_eq_true, Bool.not_eq_false] at hc6; omega) | omega)
       all_goals
        try simp only [decide_eq_true_eq, decide_eq_false_iff_not, Bool.not_eq_true', Bool.not_eq_false', Bool.not_eq_true, Bool.not_eq_false, Option.isNone_none, Option.isNone_some, Option.isSome_none, Option.isSome_some, ne_eq, Decidable.not_not] at hc6
        refine WC.seq ?_
        refine WC.region ?_
        refine WL.val rfl rfl rfl rfl (r_move rfl (ev_t rfl)) ?_
        refine WL.val rfl rfl rfl rfl (r_move rfl (ev_t rfl)) ?_
        fail -- ap 7.2: own fact, read fact, one-cell proof; names
     · try (exfalso; first | (simp at hc6; done) | (simp only [decide_eq_true_eq, decide_eq_false_iff_not, Bool.not_eq_true', Bool.not_eq_false', Bool.not_eq_true, Bool.not_eq_false] at hc6; omega) | omega)
       all_goals
        try simp only [decide_eq_true_eq, decide_eq_false_iff_not, Bool.not_eq_true', Bool.not_eq_false', Bool.not_eq_true, Bool.not_eq_false, Option.isNone_none, Option.isNone_some, Option.isSome_none, Option.isSome_some, ne_eq, Decidable.not_not] at hc6
        refine WC.skip ?_
        refine WX.next ?_
        refine WC.seq ?_
        refine WC.seq ?_
        refine WC.region ?_
        refine WL.val rfl rfl rfl rfl (r_move rfl (ev_t rfl)) ?_
        refine WL.val rfl rfl rfl rfl (r_move rfl (ev_t rfl)) ?_
        first | refine WL.val rfl rfl rfl rfl (r_addN rfl (ev_t rfl) (ev_t rfl) (by simp only [inK]; omega)) ?_ | refine WL.val rfl rfl rfl rfl (r_add rfl (ev_t rfl) (ev_t rfl)) ?_
        refine WL.val rfl rfl rfl rfl (r_move rfl (ev_t rfl)) ?_
        refine WL.val rfl rfl rfl rfl (r_capSlice (ts := #[]) rfl (ev_t rfl) elem_53) ?_
        refine WL.val rfl rfl rfl rfl (r_gtr rfl (ev_t rfl) (ev_t rfl)) ?_
        refine WL.nil ?_
        refine WX.keep [(0, _), (1, _), (2, _), (7, _), (8, _), (31, _)] ⟨rfl, rfl, rfl, rfl, rfl, rfl, trivial⟩ ?_
        refine WX.next ?_
        refine WC.cond rfl (ev_t rfl) (fun hc8 => ?_) (fun hc8 => ?_)
        · try (exfalso; first | (simp at hc8; done) | (simp only [decide_eq_true_eq, decide_eq_false_iff_not, Bool.not_eq_true', Bool.not_eq_false', Bool.not_eq_true, Bool.not_eq_false] at hc8; omega) | omega)
          all_goals
           try simp only [decide_eq_true_eq, decide_eq_false_iff_not, Bool.not_eq_true', Bool.not_eq_false', Bool.not_eq_true, Bool.not_eq_false, Option.isNone_none, Option.isNone_some, Option.isSome_none, Option.isSome_some, ne_eq, Decidable.not_not] at hc8
           refine WC.seq ?_
           refine WC.region ?_
           refine WL.val rfl rfl rfl rfl (r_move rfl (ev_t rfl)) ?_
           refine WL.val rfl rfl rfl rfl (r_move rfl (ev_t rfl)) ?_
           refine WL.val rfl rfl rfl rfl (r_slice (l := 0) (h := i) rfl (ev_t rfl) elem_53 size_58 bnd_none (bnd_some (ev_t rfl) (by omega)) (by omega) (by omega) (by omega)) ?_
           refine WL.val rfl rfl rfl rfl (r_move rfl (ev_t rfl)) ?_
           refine WL.val rfl rfl rfl rfl (r_move rfl (ev_t rfl)) ?_
           first | refine WL.val rfl rfl rfl rfl (r_addN rfl (ev_t rfl) (ev_t rfl) (by simp only [inK]; omega)) ?_ | refine WL.val rfl rfl rfl rfl (r_add rfl (ev_t rfl) (ev_t rfl)) ?_
           refine WL.val rfl rfl rfl rfl (r_move rfl (ev_t rfl)) ?_
           first | refine WL.val rfl rfl rfl rfl (r_subN rfl (ev_t rfl) (ev_t rfl) (by simp only [inK]; omega)) ?_ | refine WL.val rfl rfl rfl rfl (r_sub rfl (ev_t rfl) (ev_t rfl)) ?_
           rw [cutA_zero, Nat.sub_zero, Nat.sub_zero, show ((n : Int) + ((1 : Nat) : Int) - i) = ((n + 1 - i : Nat) : Int) by omega]
           refine WL.cons (SO.appendZeros (k := n + 1 - i) (xs := xs.take (i * 3)) (by have h9 := hr.slice (l := 0) (h := i) (by omega) (by omega); rw [cutA_zero, Nat.sub_zero, Nat.sub_zero, Nat.zero_mul, List.drop_zero] at h9; exact h9) row_53 int_3 (by omega) (by omega) (by omega) (by omega) (by decide) rfl (ev_t rfl) (ev_t rfl) rfl rfl rfl rfl ?_)
           intro w1 C cs2 hu1 hB9 hC1 hC2 hCs hCx hz9
           have hs1 := hu1.size
           replace hU := hU.trans hu1 (by first | exact (fun _ _ h => h) | exact (fun _ _ h => h.elim) | (intro k hl hk; (try simp only [At, New, Grow, From, No] at hk ⊢); omega) | (intro k hl hk; simp only [At] at hk; subst hk; first | exact hGg | omega))
           replace hg := hg.upd hu1 (by first | exact (fun h => h) | (simp only [At]; omega))
           replace hvB := hvB.upd hu1 (by first | exact (fun h => h) | (simp only [At]; omega))
           rw [show i + (n + 1 - i) = n + 1 by omega] at hC1 ⊢
           refine WL.val rfl rfl rfl rfl (r_assign rfl (ev_t rfl)) ?_
           refine WL.nil ?_
           refine WX.keep [(0, _), (1, _), (2, _), (7, _), (9, _)] ⟨rfl, rfl, rfl, rfl, rfl, trivial⟩ ?_
           refine WX.next ?_
           refine WC.seq ?_
           refine WC.region ?_
           refine WL.val rfl rfl rfl rfl (r_move rfl (ev_t rfl)) ?_
           refine WL.val rfl rfl rfl rfl (r_move rfl (ev_t rfl)) ?_
           refine WL.val rfl rfl rfl rfl (r_slice (l := i) (h := n + 1) rfl (ev_t rfl) elem_53 size_58 (bnd_some (ev_t rfl) (by omega)) bnd_none (by omega) (by omega) (by omega)) ?_
           refine WL.val rfl rfl rfl rfl (r_move rfl (ev_t rfl)) ?_
           rw [cutA_lt (by omega), Nat.zero_add]
           refine WL.cons (SO.copyAt (k := 1) (sz := 3) (xs := r.cells) (by rw [show Nat.min 1 (n + 1 - i) = min 1 (n + 1 - i) from rfl]; omega) hB9 rfl (fun j u hj => by rw [Nat.zero_add]; exact hvB.cell (by simpa using hj)) hr1 (by rw [LsV.cells_len, hCs]; omega) elem_53 size_58 rfl (ev_t rfl) (ev_t rfl) rfl rfl rfl rfl ?_)
           intro w2 hu2 hB9 hz10
           have hs2 := hu2.size
           replace hU := hU.trans hu2 (by first | exact (fun _ _ h => h) | exact (fun _ _ h => h.elim) | (intro k hl hk; (try simp only [At, New, Grow, From, No] at hk ⊢); omega) | (intro k hl hk; simp only [At] at hk; subst hk; first | exact hGg | omega))
           replace hg := hg.upd hu2 (by first | exact (fun h => h) | (simp only [At]; omega))
           replace hvB := hvB.upd hu2 (by first | exact (fun h => h) | (simp only [At]; omega))
           refine WL.nil ?_
           refine WX.keep [(0, _), (1, _), (7, _), (9, _)] ⟨rfl, rfl, rfl, rfl, trivial⟩ ?_
           refine WX.next ?_
           refine WC.seq ?_
           refine WC.draws' (fun u0_ u1_ => Upd No u0_ u1_) (fun j => [0, 0, 0, 0, 0, 0, 0, 0, 2].getD j 0) (.calm 0 (.calm 1 (.calm 2 (.calm 3 (.calm 4 (.calm 5 (.calm 6 (.calm 7 (.one 8 (.done)))))))))) mixed (by kernel_rfl) (by repeat (first | with_reducible exact Deaf.body | with_reducible apply Deaf.then | with_reducible apply Deaf.block)) ?_
           intro w3 hu3
           have hz3 := congrArg Array.size hu3.2.2.2
           replace hu3 := Upd.of_draw hu3
           have hs3 := hu3.size
           replace hU := hU.trans hu3 (by first | exact (fun _ _ h => h) | exact (fun _ _ h => h.elim) | (intro k hl hk; (try simp only [At, New, Grow, From, No] at hk ⊢); omega) | (intro k hl hk; simp only [At] at hk; subst hk; first | exact hGg | omega))
           replace hg := hg.upd hu3 (by first | exact (fun h => h) | (simp only [At]; omega))
           replace hvB := hvB.upd hu3 (by first | exact (fun h => h) | (simp only [At]; omega))
           replace hB9 := hB9.upd hu3 (by first | exact (fun h => h) | (simp only [At]; omega))
           refine WN.calm _ rfl rfl rfl rfl rfl (fun _ => r_move rfl (ev_t rfl)) ?_
           refine WN.calm _ rfl rfl rfl rfl rfl (fun _ => r_move rfl (ev_t rfl)) ?_
           refine WN.calm _ rfl rfl rfl rfl rfl (fun _ => r_move rfl (ev_t rfl)) ?_
           first | refine WN.calm _ rfl rfl rfl rfl rfl (fun _ => r_addN rfl (ev_t rfl) (ev_t rfl) (by simp only [inK]; omega)) ?_ | refine WN.calm _ rfl rfl rfl rfl rfl (fun _ => r_add rfl (ev_t rfl) (ev_t rfl)) ?_
           refine WN.calm _ rfl rfl rfl rfl rfl (fun _ => r_slice (l := i + 1) (h := n + 1) rfl (ev_t rfl) elem_53 size_58 (bnd_some (ev_t rfl) (by omega)) bnd_none (by omega) (by omega) (by omega)) ?_
           refine WN.calm _ rfl rfl rfl rfl rfl (fun _ => r_move rfl (ev_t rfl)) ?_
           refine WN.calm _ rfl rfl rfl rfl rfl (fun _ => r_move rfl (ev_t rfl)) ?_
           refine WN.calm _ rfl rfl rfl rfl rfl (fun _ => r_slice (l := i) (h := n) rfl (ev_t rfl) elem_53 size_58 (bnd_some (ev_t rfl) (by omega)) bnd_none (by omega) (by omega) (by omega)) ?_
           rw [cutA_lt (by omega), cutA_lt (by omega), Nat.zero_add, Nat.zero_add]
           refine WN.step _ rfl (SO.copyAt (k := n - i) (sz := 3) (xs := xs.drop (i * 3)) (by rw [show Nat.min (n - i) (n + 1 - (i + 1)) = min (n - i) (n + 1 - (i + 1)) from rfl]; omega) hB9 (by rw [List.length_drop, hxl, Nat.sub_mul]) (fun j u hj => by rw [List.getElem?_drop] at hj; exact hg.cell (by rw [← hk4, List.getElem?_take] at hj; split at hj; simpa using hj; cases hj)) (fun u hu => hx1 u (List.mem_of_mem_drop hu)) (by simp only [List.size_toArray, List.length_append, List.length_take, List.length_drop, Array.length_toList, LsV.cells_len, hCs, hxl]; omega) elem_53 size_58 rfl (ev_t rfl) (ev_t rfl) rfl rfl rfl rfl ?_)
           intro w4 hu4 hB9 hz11
           have hs4 := hu4.size
           replace hU := hU.trans hu4 (by first | exact (fun _ _ h => h) | exact (fun _ _ h => h.elim) | (intro k hl hk; (try simp only [At, New, Grow, From, No] at hk ⊢); omega) | (intro k hl hk; simp only [At] at hk; subst hk; first | exact hGg | omega))
           replace hg := hg.upd hu4 (by first | exact (fun h => h) | (simp only [At]; omega))
           replace hvB := hvB.upd hu4 (by first | exact (fun h => h) | (simp only [At]; omega))
           refine ⟨trivial, ?_⟩
           refine WN.done ?_
           refine WX.keep [(9, _)] ⟨rfl, trivial⟩ ?_
           refine WX.next ?_
           refine WC.seq ?_
           refine WC.region ?_
           refine WL.val rfl rfl rfl rfl (r_move rfl (ev_t rfl)) ?_
           refine WL.val rfl rfl rfl rfl (r_assign rfl (ev_t rfl)) ?_
           refine WL.nil ?_
           refine WX.keep [(6, _)] ⟨rfl, trivial⟩ ?_
           refine WX.next ?_
           refine WC.ret ?_
           refine WX.thenRet ?_
           refine WX.retE1 rfl rfl ?_
           refine ⟨?_, hU⟩
           have hO9 := Own.shut (F := Grow G w w4) (sz := 3) (n := n + 1) (cap := C) hB9 (.inr ⟨Nat.le_refl _, by omega⟩) hC1 hC2 (by simp only [List.size_toArray, List.length_append, List.length_take, List.length_drop, Array.length_toList, LsV.cells_len, hCs, hxl]; omega)
           rw [LsV.cells_len, show (i + 1) * 3 = i * 3 + 3 by omega, show (n + 1) * 3 = n * 3 + 3 by omega, ins_grow (N := n * 3) (by omega) hxl (LsV.cells_len r) (by rw [Array.length_toList, hCs]; omega) hCx (by rw [List.length_drop, hxl])] at hO9
           exact hO9
        · try (exfalso; first | (simp at hc8; done) | (simp only [decide_eq_true_eq, decide_eq_false_iff_not, Bool.not_eq_true', Bool.not_eq_false', Bool.not_eq_true, Bool.not_eq_false] at hc8; omega) | omega)
          all_goals
           try simp only [decide_eq_true_eq, decide_eq_false_iff_not, Bool.not_eq_true', Bool.not_eq_false', Bool.not_eq_true, Bool.not_eq_false, Option.isNone_none, Option.isNone_some, Option.isSome_none, Option.isSome_some, ne_eq, Decidable.not_not] at hc8
           refine WC.skip ?_
           refine WX.next ?_
           refine WC.seq ?_
           refine WC.region ?_
           refine WL.val rfl rfl rfl rfl (r_move rfl (ev_t rfl)) ?_
           refine WL.val rfl rfl rfl rfl (r_move rfl (ev_t rfl)) ?_
           refine WL.val rfl rfl rfl rfl (r_move rfl (ev_t rfl)) ?_
           first | refine WL.val rfl rfl rfl rfl (r_addN rfl (ev_t rfl) (ev_t rfl) (by simp only [inK]; omega)) ?_ | refine WL.val rfl rfl rfl rfl (r_add rfl (ev_t rfl) (ev_t rfl)) ?_
           refine WL.val rfl rfl rfl rfl (r_sliceC (l := 0) (h := n + 1) rfl (ev_t rfl) elem_53 size_58 bnd_none (bnd_some (ev_t rfl) (by omega)) (by omega) (by omega)) ?_
           rw [cutA_zero, Nat.sub_zero, Nat.sub_zero]
           refine WL.val rfl rfl rfl rfl (r_assign rfl (ev_t rfl)) ?_
           refine WL.nil ?_
           refine WX.keep [(0, _), (1, _), (2, _), (7, _), (8, _)] ⟨rfl, rfl, rfl, rfl, rfl, trivial⟩ ?_
           refine WX.next ?_
           refine WC.seq ?_
           refine WC.seq ?_
           refine WC.region ?_
           refine WL.val rfl rfl rfl rfl (r_move rfl (ev_t rfl)) ?_
           refine WL.val rfl rfl rfl rfl (r_move rfl (ev_t rfl)) ?_
           refine WL.val rfl rfl rfl rfl (r_move rfl (ev_t rfl)) ?_
           refine WL.val rfl rfl rfl rfl (r_move rfl (ev_t rfl)) ?_
           first | refine WL.val rfl rfl rfl rfl (r_addN rfl (ev_t rfl) (ev_t rfl) (by simp only [inK]; omega)) ?_ | refine WL.val rfl rfl rfl rfl (r_add rfl (ev_t rfl) (ev_t rfl)) ?_
           refine WL.val rfl rfl rfl rfl (r_slice (l := i + 1) (h := n + 1) rfl (ev_t rfl) elem_53 size_58 (bnd_some (ev_t rfl) (by omega)) bnd_none (by omega) (by omega) (by omega)) ?_
           rw [cutA_lt (by omega), Nat.zero_add]
           refine WL.cons (SO.overlaps (tR := 4) Try.func40 (by kernel_rfl) (by kernel_rfl) (by kernel_rfl) (by kernel_rfl) elem_53 size_58 hvB hg hgb (by omega) rfl (ev_t rfl) (ev_t rfl) rfl rfl rfl rfl ?_)
           refine WL.val rfl rfl rfl rfl (r_not rfl (ev_t rfl)) ?_
           refine WL.nil ?_
           refine WX.keep [(0, _), (1, _), (2, _), (7, _), (8, _), (68, _)] ⟨rfl, rfl, rfl, rfl, rfl, rfl, trivial⟩ ?_
           refine WX.next ?_
           refine WC.cond rfl (ev_t rfl) (fun hc14 => ?_) (fun hc14 => ?_)
           · try (exfalso; first | (simp at hc14; done) | (simp only [decide_eq_true_eq, decide_eq_false_iff_not, Bool.not_eq_true', Bool.not_eq_false', Bool.not_eq_true, Bool.not_eq_false] at hc14; omega) | omega)
             all_goals
              try simp only [decide_eq_true_eq, decide_eq_false_iff_not, Bool.not_eq_true', Bool.not_eq_false', Bool.not_eq_true, Bool.not_eq_false, Option.isNone_none, Option.isNone_some, Option.isSome_none, Option.isSome_some, ne_eq, Decidable.not_not] at hc14
              refine WC.seq ?_
              refine WC.draws' (fun u0_ u1_ => Upd No u0_ u1_) (fun j => [0, 0, 0, 0, 0, 0, 0, 0, 2].getD j 0) (.calm 0 (.calm 1 (.calm 2 (.calm 3 (.calm 4 (.calm 5 (.calm 6 (.calm 7 (.one 8 (.done)))))))))) mixed (by kernel_rfl) (by repeat (first | with_reducible exact Deaf.body | with_reducible apply Deaf.then | with_reducible apply Deaf.block)) ?_
              intro w6 hu6
              have hz6 := congrArg Array.size hu6.2.2.2
              replace hu6 := Upd.of_draw hu6
              have hs6 := hu6.size
              replace hU := hU.trans hu6 (by first | exact (fun _ _ h => h) | exact (fun _ _ h => h.elim) | (intro k hl hk; (try simp only [At, New, Grow, From, No] at hk ⊢); omega) | (intro k hl hk; simp only [At] at hk; subst hk; first | exact hGg | omega))
              replace hg := hg.upd hu6 (by first | exact (fun h => h) | (simp only [At]; omega))
              replace hvB := hvB.upd hu6 (by first | exact (fun h => h) | (simp only [At]; omega))
              refine WN.calm _ rfl rfl rfl rfl rfl (fun _ => r_move rfl (ev_t rfl)) ?_
              refine WN.calm _ rfl rfl rfl rfl rfl (fun _ => r_move rfl (ev_t rfl)) ?_
              refine WN.calm _ rfl rfl rfl rfl rfl (fun _ => r_move rfl (ev_t rfl)) ?_
              first | refine WN.calm _ rfl rfl rfl rfl rfl (fun _ => r_addN rfl (ev_t rfl) (ev_t rfl) (by simp only [inK]; omega)) ?_ | refine WN.calm _ rfl rfl rfl rfl rfl (fun _ => r_add rfl (ev_t rfl) (ev_t rfl)) ?_
              refine WN.calm _ rfl rfl rfl rfl rfl (fun _ => r_slice (l := i + 1) (h := n + 1) rfl (ev_t rfl) elem_53 size_58 (bnd_some (ev_t rfl) (by omega)) bnd_none (by omega) (by omega) (by omega)) ?_
              refine WN.calm _ rfl rfl rfl rfl rfl (fun _ => r_move rfl (ev_t rfl)) ?_
              refine WN.calm _ rfl rfl rfl rfl rfl (fun _ => r_move rfl (ev_t rfl)) ?_
              refine WN.calm _ rfl rfl rfl rfl rfl (fun _ => r_slice (l := i) (h := n + 1) rfl (ev_t rfl) elem_53 size_58 (bnd_some (ev_t rfl) (by omega)) bnd_none (by omega) (by omega) (by omega)) ?_
              rw [cutA_lt (by omega), cutA_lt (by omega), Nat.zero_add, Nat.zero_add]
              refine WN.step _ rfl (SO.copyAt (k := n - i) (sz := 3) (xs := xs.drop (i * 3)) (by rw [show Nat.min (n + 1 - i) (n + 1 - (i + 1)) = min (n + 1 - i) (n + 1 - (i + 1)) from rfl]; omega) hg (by rw [List.length_drop, hxl, Nat.sub_mul]) (fun j u hj => by rw [List.getElem?_drop] at hj; exact hg.cell (by rw [← hk4, List.getElem?_take] at hj; split at hj; simpa using hj; cases hj)) (fun u hu => hx1 u (List.mem_of_mem_drop hu)) (by rw [List.length_drop, hxl, hk3]; omega) elem_53 size_58 rfl (ev_t rfl) (ev_t rfl) rfl rfl rfl rfl ?_)
              intro w7 hu7 hg hz15
              have hs7 := hu7.size
              replace hU := hU.trans hu7 (by first | exact (fun _ _ h => h) | exact (fun _ _ h => h.elim) | (intro k hl hk; (try simp only [At, New, Grow, From, No] at hk ⊢); omega) | (intro k hl hk; simp only [At] at hk; subst hk; first | exact hGg | omega))
              replace hvB := hvB.upd hu7 (by first | exact (fun h => h) | (simp only [At]; omega))
              refine ⟨trivial, ?_⟩
              refine WN.done ?_
              refine WX.keep [(0, _), (1, _), (2, _)] ⟨rfl, rfl, rfl, trivial⟩ ?_
              refine WX.next ?_
              refine WC.seq ?_
              refine WC.region ?_
              refine WL.val rfl rfl rfl rfl (r_move rfl (ev_t rfl)) ?_
              refine WL.val rfl rfl rfl rfl (r_move rfl (ev_t rfl)) ?_
              refine WL.val rfl rfl rfl rfl (r_slice (l := i) (h := n + 1) rfl (ev_t rfl) elem_53 size_58 (bnd_some (ev_t rfl) (by omega)) bnd_none (by omega) (by omega) (by omega)) ?_
              refine WL.val rfl rfl rfl rfl (r_move rfl (ev_t rfl)) ?_
              rw [cutA_lt (by omega), Nat.zero_add]
              refine WL.cons (SO.copyAt (k := 1) (sz := 3) (xs := r.cells) (by rw [show Nat.min 1 (n + 1 - i) = min 1 (n + 1 - i) from rfl]; omega) hg rfl (fun j u hj => by rw [Nat.zero_add]; exact hvB.cell (by simpa using hj)) hr1 (by simp only [List.size_toArray, List.length_append, List.length_take, List.length_drop, Array.length_toList, LsV.cells_len, hk3, hxl]; omega) elem_53 size_58 rfl (ev_t rfl) (ev_t rfl) rfl rfl rfl rfl ?_)
              intro w8 hu8 hg hz16
              have hs8 := hu8.size
              replace hU := hU.trans hu8 (by first | exact (fun _ _ h => h) | exact (fun _ _ h => h.elim) | (intro k hl hk; (try simp only [At, New, Grow, From, No] at hk ⊢); omega) | (intro k hl hk; simp only [At] at hk; subst hk; first | exact hGg | omega))
              replace hvB := hvB.upd hu8 (by first | exact (fun h => h) | (simp only [At]; omega))
              refine WL.nil ?_
              refine WX.keep [(0, _)] ⟨rfl, trivial⟩ ?_
              refine WX.next ?_
              refine WC.seq ?_
              refine WC.region ?_
              refine WL.val rfl rfl rfl rfl (r_move rfl (ev_t rfl)) ?_
              refine WL.val rfl rfl rfl rfl (r_assign rfl (ev_t rfl)) ?_
              refine WL.nil ?_
              refine WX.keep [(6, _)] ⟨rfl, trivial⟩ ?_
              refine WX.next ?_
              refine WC.ret ?_
              refine WX.thenRet ?_
              refine WX.retE1 rfl rfl ?_
              refine ⟨?_, hU⟩
              have hO9 := Own.shut (F := Grow G w w8) (sz := 3) (n := n + 1) (cap := c) hg (.inl hGg) (by omega) hk2 (by simp only [List.size_toArray, List.length_append, List.length_take, List.length_drop, Array.length_toList, LsV.cells_len, hk3, hxl]; omega)
              rw [LsV.cells_len, show (i + 1) * 3 = i * 3 + 3 by omega, show (n + 1) * 3 = n * 3 + 3 by omega] at hO9
              simp only at hO9
              rw [ins_shift (N := n * 3) (by omega) hk4 (LsV.cells_len r) (by rw [Array.length_toList, hk3]; omega) (by rw [List.length_drop, hxl])] at hO9
              exact hO9
           · try (exfalso; first | (simp at hc14; done) | (simp only [decide_eq_true_eq, decide_eq_false_iff_not, Bool.not_eq_true', Bool.not_eq_false', Bool.not_eq_true, Bool.not_eq_false] at hc14; omega) | omega)
             all_goals
              try simp only [decide_eq_true_eq, decide_eq_false_iff_not, Bool.not_eq_true', Bool.not_eq_false', Bool.not_eq_true, Bool.not_eq_false, Option.isNone_none, Option.isNone_some, Option.isSome_none, Option.isSome_some, ne_eq, Decidable.not_not] at hc14
              refine WC.skip ?_
              refine WX.next ?_
              refine WC.seq ?_
              refine WC.region ?_
              refine WL.val rfl rfl rfl rfl (r_move rfl (ev_t rfl)) ?_
              refine WL.val rfl rfl rfl rfl (r_move rfl (ev_t rfl)) ?_
              refine WL.val rfl rfl rfl rfl (r_slice (l := _) (h := _) rfl (ev_t rfl) elem_53 size_58 (bnd_some (ev_t rfl) (by omega)) bnd_none (by omega) (by omega) (by omega)) ?_
              refine WL.val rfl rfl rfl rfl (r_move rfl (ev_t rfl)) ?_
              fail -- 18.4 slices.go:200: ["Op.call", ["Call.mk", ["Callee.builtin", "Builtin.copy"], ["arr", ["Operand.tmp", "86"], ["Operand.tmp", "87"]], ["arr", "53", "53"]]]
end Go.Proofs.Ytipabhbnljadfaa

/-
  session.Table.Put, whole.
-/
namespace Go.Proofs.Ytipabhbnljadfaa
open Go
set_option linter.unusedSimpArgs false
set_option linter.unusedVariables false

theorem flatMap_take {α : Type} {dec : α → List Value} {sz : Nat} (hd : ∀ a, (dec a).length = sz) : ∀ (V : List α) (i : Nat), (V.take i).flatMap dec = (V.flatMap dec).take (i * sz)
  | [], i => by simp
  | a :: V, 0 => by simp
  | a :: V, i + 1 => by
    have e1 : (i + 1) * sz = (dec a).length + i * sz := by rw [hd, Nat.add_mul, Nat.one_mul, Nat.add_comm]
    rw [List.take_succ_cons, List.flatMap_cons, List.flatMap_cons, flatMap_take hd V i, e1, List.take_length_add_append]
theorem flatMap_drop {α : Type} {dec : α → List Value} {sz : Nat} (hd : ∀ a, (dec a).length = sz) : ∀ (V : List α) (i : Nat), (V.drop i).flatMap dec = (V.flatMap dec).drop (i * sz)
  | [], i => by simp
  | a :: V, 0 => by simp
  | a :: V, i + 1 => by
    have e1 : (i + 1) * sz = (dec a).length + i * sz := by rw [hd, Nat.add_mul, Nat.one_mul, Nat.add_comm]
    rw [List.drop_succ_cons, List.flatMap_cons, flatMap_drop hd V i, e1, List.drop_length_add_append]
theorem ins_ok {w : World} {G : Nat → Prop} {A : Option Addr} {b2 n c i : Nat} {xs : List Value} {r : LsV} (hO : Own w G 58 3 (.slice A n c) n xs) (hn : n ≤ 1000) (hi : i ≤ n) (hvB : Blk w b2 r.cells.toArray 58) (hd : ¬ G b2) (h1 : r.v.oneCell' = true) (hx1 : ∀ u ∈ xs, u.oneCell' = true) :
    Ret Try.prog 22 #[.slice A n c, .int .i64 (i : Int), .slice (some ⟨b2, 0, none⟩) 1 1] w fun u w' => Own w' (Grow G w w') 58 3 u (n + 1) (xs.take (i * 3) ++ r.cells ++ xs.drop (i * 3)) ∧ Upd G w w' := by
  by_cases h : i = n
  · subst h
    have hl := hO.len
    rw [List.take_of_length_le (by omega), List.drop_of_length_le (by omega), List.append_nil]
    exact insEnd_ok hO hn (Rd.of_blk (F := At _) (n := 1) (sz := 3) hvB rfl rfl (by omega)) h1
  · exact insMid_ok hO hn (by omega) hvB hd h1 hx1

set_option maxHeartbeats 2000000 in
theorem PutA_ok {w : World} {R K : Nat → Prop} {t : Nat} {L : List Ls} {id num n : Nat} {pv : Value} {data : List UInt8} (hT : IsT w R t L) (hL : TOK L) (hid : id < 18446744073709551616) (hnum : num < 18446744073709551616)
    (hp : Rd w K pv n 1 (data.map U8)) :
    Ret Try.prog 11 #[.pointer (some ⟨t, 0, none⟩), .int .u64 (id : Int), .int .u64 (num : Int), pv] w fun u w' => u = .int .i64 ((putS L ⟨id, num, data⟩).2 : Int) ∧ IsT w' (Grow R w w') t (putS L ⟨id, num, data⟩).1 ∧ Upd R w w' := by
  have hpn := hp.lenB
  have hpm := hp.le
  have hput : putS L ⟨id, num, data⟩ = if (askS L id num).2 = 6 then (insS L ⟨id, num, data⟩, 0) else if (askS L id num).2 = 0 then (L, 7) else (L, (askS L id num).2) := rfl
  have hT' := hT
  obtain ⟨A, c, V, G, H, hB, hO, hD, hLV, hRt, htl, hG, hH⟩ := hT'
  have hm := hL.most
  rw [← hLV] at hm
  simp only [lsOf, List.length_map] at hm
  generalize hask : (askS L id num).2 = e at hput
  obtain ⟨i, hi⟩ : ∃ i, lbI L id = i := ⟨_, rfl⟩
  have hil : i ≤ V.length := by rw [← hi]; have := lbI_le L id; rw [← hLV] at this ⊢; simpa using this
  have hat : isAt L id = true → i < V.length := fun h => by
    unfold isAt at h
    rw [hi, ← hLV, List.getElem?_map] at h
    rcases Nat.lt_or_ge i V.length with h1 | h1
    · exact h1
    · rw [List.getElem?_eq_none h1] at h; cases h
  refine enterRet (vs := [_, _, _, _]) (N := 56) Try.func11 rfl rfl rfl ?_
  have hU := Upd.refl No w
  refine WC.keep [(0, _), (1, _), (2, _), (3, _)] ⟨rfl, rfl, rfl, rfl, trivial⟩ ?_
  refine WC.seq ?_
  refine WC.region ?_
  refine WL.val rfl rfl rfl rfl (r_assign rfl ev_c) ?_
  refine WL.nil ?_
  refine WX.keep [(0, _), (1, _), (2, _), (3, _)] ⟨rfl, rfl, rfl, rfl, trivial⟩ ?_
  refine WX.next ?_
  refine WC.seq ?_
  refine WC.seq ?_
  refine WC.region ?_
  refine WL.val rfl rfl rfl rfl (r_move rfl (ev_t rfl)) ?_
  refine WL.val rfl rfl rfl rfl (r_move rfl (ev_t rfl)) ?_
  refine WL.val rfl rfl rfl rfl (r_move rfl (ev_t rfl)) ?_
  refine WL.cons (SO.call (Ask_ok hT hL hid hnum) rfl body_12 ⟨(ev_t rfl), (ev_t rfl), (ev_t rfl), trivial⟩ rfl rfl rfl rfl ?_)
  rintro v w1 ⟨v9, rfl, _, hu1⟩
  rw [hask]
  have hs1 := hu1.size
  replace hU := hU.transA hu1
  replace hB := hB.upd hu1 (by first | exact (fun h => h) | (simp only [At]; omega))
  replace hO := hO.upd hu1 (by first | exact (fun _ _ _ h => h) | (intro k hk hl hS; have := hG k hk; simp only [At] at hS; omega))
  refine WL.val rfl rfl rfl rfl (r_move rfl (ev_t rfl)) ?_
  refine WL.val rfl rfl rfl rfl (r_extract rfl (ev_t rfl) rfl) ?_
  refine WL.val rfl rfl rfl rfl (r_extract rfl (ev_t rfl) rfl) ?_
  refine WL.val rfl rfl rfl rfl (r_assign rfl (ev_t rfl)) ?_
  refine WL.val rfl rfl rfl rfl (r_assign rfl (ev_t rfl)) ?_
  refine WL.nil ?_
  refine WX.keep [(0, _), (1, _), (2, _), (3, _), (10, _)] ⟨rfl, rfl, rfl, rfl, rfl, trivial⟩ ?_
  refine WX.next ?_
  refine WC.seq ?_
  refine WC.region ?_
  refine WL.val rfl rfl rfl rfl (r_move rfl (ev_t rfl)) ?_
  refine WL.val rfl rfl rfl rfl (r_neq rfl (ev_t rfl) ev_c) ?_
  refine WL.nil ?_
  refine WX.keep [(0, _), (1, _), (2, _), (3, _), (10, _), (22, _)] ⟨rfl, rfl, rfl, rfl, rfl, rfl, trivial⟩ ?_
  refine WX.next ?_
  refine WC.cond rfl (ev_t rfl) (fun hc2 => ?_) (fun hc2 => ?_)
  · try (exfalso; first | (simp at hc2; done) | (simp only [decide_eq_true_eq, decide_eq_false_iff_not, Bool.not_eq_true', Bool.not_eq_false', Bool.not_eq_true, Bool.not_eq_false] at hc2; omega) | omega)
    all_goals
     try simp only [decide_eq_true_eq, decide_eq_false_iff_not, Bool.not_eq_true', Bool.not_eq_false', Bool.not_eq_true, Bool.not_eq_false, Option.isNone_none, Option.isNone_some, Option.isSome_none, Option.isSome_some, ne_eq, Decidable.not_not] at hc2
     refine WC.seq ?_
     refine WC.seq ?_
     refine WC.region ?_
     refine WL.val rfl rfl rfl rfl (r_move rfl (ev_t rfl)) ?_
     refine WL.val rfl rfl rfl rfl (r_eql rfl (ev_t rfl) ev_c) ?_
     refine WL.nil ?_
     refine WX.keep [(10, _), (24, _)] ⟨rfl, rfl, trivial⟩ ?_
     refine WX.next ?_
     refine WC.cond rfl (ev_t rfl) (fun hc3 => ?_) (fun hc3 => ?_)
     · try (exfalso; first | (simp at hc3; done) | (simp only [decide_eq_true_eq, decide_eq_false_iff_not, Bool.not_eq_true', Bool.not_eq_false', Bool.not_eq_true, Bool.not_eq_false] at hc3; omega) | omega)
       all_goals
        try simp only [decide_eq_true_eq, decide_eq_false_iff_not, Bool.not_eq_true', Bool.not_eq_false', Bool.not_eq_true, Bool.not_eq_false, Option.isNone_none, Option.isNone_some, Option.isSome_none, Option.isSome_some, ne_eq, Decidable.not_not] at hc3
        refine WC.seq ?_
        refine WC.region ?_
        refine WL.val rfl rfl rfl rfl (r_assign rfl ev_c) ?_
        refine WL.nil ?_
        refine WX.keep [(8, _)] ⟨rfl, trivial⟩ ?_
        refine WX.next ?_
        refine WC.ret ?_
        refine WX.thenRet ?_
        refine WX.thenRet ?_
        refine WX.retE1 rfl rfl ?_
        have e9 : putS L ⟨id, num, data⟩ = (L, 7) := by rw [hput, if_neg (by omega), if_pos (by omega)]
        rw [e9]
        exact ⟨rfl, (hT.upd hU (fun _ _ _ h => h)).mono (fun k hk _ => .inl hk), hU.mono (fun _ _ h => h.elim)⟩
     · try (exfalso; first | (simp at hc3; done) | (simp only [decide_eq_true_eq, decide_eq_false_iff_not, Bool.not_eq_true', Bool.not_eq_false', Bool.not_eq_true, Bool.not_eq_false] at hc3; omega) | omega)
       all_goals
        try simp only [decide_eq_true_eq, decide_eq_false_iff_not, Bool.not_eq_true', Bool.not_eq_false', Bool.not_eq_true, Bool.not_eq_false, Option.isNone_none, Option.isNone_some, Option.isSome_none, Option.isSome_some, ne_eq, Decidable.not_not] at hc3
        refine WC.skip ?_
        refine WX.next ?_
        refine WC.seq ?_
        refine WC.region ?_
        refine WL.val rfl rfl rfl rfl (r_move rfl (ev_t rfl)) ?_
        refine WL.val rfl rfl rfl rfl (r_assign rfl (ev_t rfl)) ?_
        refine WL.nil ?_
        refine WX.keep [(8, _)] ⟨rfl, trivial⟩ ?_
        refine WX.next ?_
        refine WC.ret ?_
        refine WX.thenRet ?_
        refine WX.retE1 rfl rfl ?_
        have e9 : putS L ⟨id, num, data⟩ = (L, e) := by rw [hput, if_neg (by omega), if_neg (by omega)]
        rw [e9]
        exact ⟨rfl, (hT.upd hU (fun _ _ _ h => h)).mono (fun k hk _ => .inl hk), hU.mono (fun _ _ h => h.elim)⟩
  · try (exfalso; first | (simp at hc2; done) | (simp only [decide_eq_true_eq, decide_eq_false_iff_not, Bool.not_eq_true', Bool.not_eq_false', Bool.not_eq_true, Bool.not_eq_false] at hc2; omega) | omega)
    all_goals
     try simp only [decide_eq_true_eq, decide_eq_false_iff_not, Bool.not_eq_true', Bool.not_eq_false', Bool.not_eq_true, Bool.not_eq_false, Option.isNone_none, Option.isNone_some, Option.isSome_none, Option.isSome_some, ne_eq, Decidable.not_not] at hc2
     refine WC.skip ?_
     refine WX.next ?_
     refine WC.seq ?_
     refine WC.region ?_
     refine WL.val rfl rfl rfl rfl (r_move rfl (ev_t rfl)) ?_
     refine WL.val rfl rfl rfl rfl (r_move rfl (ev_t rfl)) ?_
     refine WL.val rfl rfl rfl rfl (r_move rfl (ev_t rfl)) ?_
     refine WL.cons (SO.call (clone_ok (hp.upd hU (fun _ _ _ h => h))) rfl body_20 ⟨(ev_t rfl), trivial⟩ rfl rfl rfl rfl ?_)
     rintro v w2 ⟨hcl, hu2⟩
     obtain ⟨As, cs, rfl, hcs⟩ := Own.form hcl
     have hCn : ∀ k, New w1 w2 k → w.heap.size ≤ k ∧ k < w2.heap.size := fun k hk => by simp only [New] at hk; omega
     generalize New w1 w2 = C at *
     have hs2 := hu2.size
     replace hU := hU.transA hu2
     replace hB := hB.upd hu2 (by first | exact (fun h => h) | (simp only [At]; omega))
     replace hO := hO.upd hu2 (by first | exact (fun _ _ _ h => h) | (intro k hk hl hS; have := hG k hk; simp only [At] at hS; omega))
     refine WL.val rfl rfl rfl rfl (r_build (cs := #[_, _, _]) (vs := [(0, _), (1, _), (2, _)]) rfl ⟨⟨rfl, (ev_t rfl)⟩, ⟨rfl, (ev_t rfl)⟩, ⟨rfl, (ev_t rfl)⟩, trivial⟩ plc_58 zero_58 rfl) ?_
     refine WL.cons (SO.alloc rfl rfl rfl rfl (r_alloc rfl zero_58) ?_)
     intro w3 hu3 hB3 hz3
     have hs3 := hu3.size
     replace hU := hU.transA hu3
     replace hB := hB.upd hu3 (by first | exact (fun h => h) | (simp only [At]; omega))
     replace hO := hO.upd hu3 (by first | exact (fun _ _ _ h => h) | (intro k hk hl hS; have := hG k hk; simp only [At] at hS; omega))
     replace hcl := hcl.upd hu3 (by first | exact (fun _ _ _ h => h) | (intro k hk hl hS; have := hCn k hk; simp only [At] at hS; omega))
     refine WL.cons (SO.storeAll (us := [_, _, _]) rfl (ev_t rfl) (ev_t rfl) size_58 hB3 rfl rfl rfl rfl rfl ?_)
     intro w4 hu4 hB3 hz4
     have hs4 := hu4.size
     replace hU := hU.transA hu4
     replace hB := hB.upd hu4 (by first | exact (fun h => h) | (simp only [At]; omega))
     replace hO := hO.upd hu4 (by first | exact (fun _ _ _ h => h) | (intro k hk hl hS; have := hG k hk; simp only [At] at hS; omega))
     replace hcl := hcl.upd hu4 (by first | exact (fun _ _ _ h => h) | (intro k hk hl hS; have := hCn k hk; simp only [At] at hS; omega))
     refine WL.nil ?_
     refine WX.keep [(0, _), (1, _), (11, _)] ⟨rfl, rfl, rfl, trivial⟩ ?_
     have hBx : Blk w4 _ #[.int .u64 (id : Int), .int .u64 (num : Int), .slice As n cs] 58 := hB3
     refine WX.next ?_
     refine WC.seq ?_
     refine WC.region ?_
     refine WL.val rfl rfl rfl rfl (r_move rfl (ev_t rfl)) ?_
     refine WL.val rfl rfl rfl rfl (r_move rfl (ev_t rfl)) ?_
     refine WL.cons (SO.call (find_ok (hT.upd hU (fun _ _ _ h => h)) hL hid) rfl body_21 ⟨(ev_t rfl), (ev_t rfl), trivial⟩ rfl rfl rfl rfl ?_)
     rintro v w5 ⟨rfl, hu5⟩
     rw [hi]
     have hs5 := hu5.size
     replace hU := hU.transA hu5
     replace hB := hB.upd hu5 (by first | exact (fun h => h) | (simp only [At]; omega))
     replace hO := hO.upd hu5 (by first | exact (fun _ _ _ h => h) | (intro k hk hl hS; have := hG k hk; simp only [At] at hS; omega))
     replace hcl := hcl.upd hu5 (by first | exact (fun _ _ _ h => h) | (intro k hk hl hS; have := hCn k hk; simp only [At] at hS; omega))
     replace hBx := hBx.upd hu5 (by first | exact (fun h => h) | (simp only [At]; omega))
     refine WL.val rfl rfl rfl rfl (r_move rfl (ev_t rfl)) ?_
     refine WL.val rfl rfl rfl rfl (r_extract rfl (ev_t rfl) rfl) ?_
     refine WL.val rfl rfl rfl rfl (r_extract rfl (ev_t rfl) rfl) ?_
     refine WL.val rfl rfl rfl rfl (r_assign rfl (ev_t rfl)) ?_
     refine WL.val rfl rfl rfl rfl (r_assign rfl (ev_t rfl)) ?_
     refine WL.nil ?_
     refine WX.keep [(0, _), (11, _), (12, _), (13, _)] ⟨rfl, rfl, rfl, rfl, trivial⟩ ?_
     refine WX.next ?_
     refine WC.seq ?_
     refine WC.seq ?_
     refine WC.region ?_
     refine WL.val rfl rfl rfl rfl (r_move rfl (ev_t rfl)) ?_
     refine WL.nil ?_
     refine WX.keep [(0, _), (11, _), (12, _), (37, _)] ⟨rfl, rfl, rfl, rfl, trivial⟩ ?_
     refine WX.next ?_
     refine WC.cond rfl (ev_t rfl) (fun hc8 => ?_) (fun hc8 => ?_)
     · try (exfalso; first | (simp at hc8; done) | (simp only [decide_eq_true_eq, decide_eq_false_iff_not, Bool.not_eq_true', Bool.not_eq_false', Bool.not_eq_true, Bool.not_eq_false] at hc8; omega) | omega)
       all_goals
        try simp only [decide_eq_true_eq, decide_eq_false_iff_not, Bool.not_eq_true', Bool.not_eq_false', Bool.not_eq_true, Bool.not_eq_false, Option.isNone_none, Option.isNone_some, Option.isSome_none, Option.isSome_some, ne_eq, Decidable.not_not] at hc8
        have hat' := hat (by assumption)
        obtain ⟨g, cap, cur, eS, hg, hGg, hc1, hc2, hc3, hc4⟩ := hO.open (by omega)
        simp only [Value.slice.injEq, true_and] at eS
        obtain ⟨rfl, rfl⟩ := eS
        refine WC.draws' (fun u0_ u1_ => Upd No u0_ u1_) (fun j => [0, 0, 0, 0, 0, 1, 0, 2].getD j 0) (.calm 0 (.calm 1 (.calm 2 (.calm 4 (.held 3 (.one 5 (.calm 6 (.one 7 (.done))))))))) mixed (by kernel_rfl) (by repeat (first | with_reducible exact Deaf.body | with_reducible apply Deaf.then | with_reducible apply Deaf.block)) ?_
        intro w6 hu6
        have hz6 := congrArg Array.size hu6.2.2.2
        replace hu6 := Upd.of_draw hu6
        have hs6 := hu6.size
        replace hU := hU.transA hu6
        replace hB := hB.upd hu6 (by first | exact (fun h => h) | (simp only [At]; omega))
        replace hcl := hcl.upd hu6 (by first | exact (fun _ _ _ h => h) | (intro k hk hl hS; have := hCn k hk; simp only [At] at hS; omega))
        replace hBx := hBx.upd hu6 (by first | exact (fun h => h) | (simp only [At]; omega))
        replace hg := hg.upd hu6 (by first | exact (fun h => h) | (simp only [At]; omega))
        have hS9 := Upd.refl No w6
        refine WN.calm _ rfl rfl rfl rfl rfl (fun _ => r_move rfl (ev_t rfl)) ?_
        refine WN.calm _ rfl rfl rfl rfl rfl (fun _ => r_nilCheck rfl (ev_t rfl)) ?_
        first | refine WN.calm _ rfl rfl rfl rfl rfl (fun _ => r_field0 rfl (ev_t rfl) fld_55_0) ?_ | refine WN.calm _ rfl rfl rfl rfl rfl (fun _ => r_fieldAt rfl (ev_t rfl) fld_55_0) ?_
        refine WN.calm _ rfl rfl rfl rfl rfl (fun _ => r_move rfl (ev_t rfl)) ?_
        refine WN.held _ rfl rfl rfl rfl rfl hS9 (fun w' hS => r_load rfl (ev_t rfl) flat_53 (Blk.cell (hB.upd hS (fun h => h)) rfl)) ?_
        refine WN.step _ rfl (SO.val rfl rfl rfl rfl (r_loadAgg (vs := [_, _, _]) rfl (ev_t rfl) agg_58 size_58 (Blk.cellsL hBx)) ?_)
        refine ⟨hS9, ?_⟩
        refine WN.calm _ rfl rfl rfl rfl rfl (fun _ => r_indexAddr rfl (ev_t rfl) (ev_t rfl) elem_53 size_58 (by omega) (by omega)) ?_
        refine WN.step _ rfl (SO.storeN (us := [_, _, _]) rfl (ev_t rfl) (ev_t rfl) size_58 hg (by simp only [List.length_cons, List.length_nil]; omega) rfl rfl rfl rfl ?_)
        intro w7 hu7 hg2 hz
        rw [show (0 : Nat) + ((i : Nat) : Int).toNat * 3 = i * 3 by omega] at hg2
        have hFin : IsT w7 (Grow R w w7) t (L.set i ⟨id, num, data⟩) ∧ Upd R w w7 := by
          have hgt := hG g hGg
          have hss := hu7.size
          refine ⟨?_, (hU.mono (fun _ _ h => h.elim)).trans hu7 (fun k _ hk => by simp only [At] at hk; subst hk; exact hgt.1)⟩
          unfold IsT
          refine ⟨some ⟨g, 0, none⟩, c, V.set i ⟨⟨id, num, data⟩, .slice As n cs⟩, G, fun k => H k ∨ C k, ?_, ?_, ?_, by rw [← hLV, lsOf, List.map_set], .inl hRt, by omega, fun k hk => ⟨.inl (hG k hk).1, (hG k hk).2.1, by have := (hG k hk).2.2; omega⟩, ?_⟩
          · rw [List.length_set]
            exact hB.upd hu7 (by simp only [At]; omega)
          · rw [List.length_set]
            have hO3 := Own.shut (sz := 3) (n := V.length) hg2 hGg hc1 hc2 (by simp only [List.size_toArray, List.length_append, List.length_take, List.length_drop, Array.length_toList, List.length_cons, List.length_nil]; omega)
            rw [← row_set hc4 hat']
            exact hO3
          · intro r hr
            rcases List.mem_or_eq_of_mem_set hr with hr | rfl
            · exact (((hD r hr).upd hU (fun _ _ _ h => h)).upd hu7 (fun k hk _ hS => by simp only [At] at hS; subst hS; exact (hH k hk).2.2.1 hGg)).mono (fun k hk => .inl hk)
            · have h9 := ((hcl.rd (by omega)).upd hu7 (fun k hk hl hS => by have := hCn k hk; simp only [At] at hS; omega)).mono (F' := fun k => H k ∨ C k) (fun k hk => .inr hk)
              simp only [hpn] at h9 ⊢
              exact h9
          · rintro k (hk | hk)
            · have := hH k hk; exact ⟨.inl this.1, this.2.1, this.2.2.1, by omega⟩
            · have := hCn k hk; exact ⟨.inr ⟨by omega, by omega⟩, by omega, fun h => by have := hG k h; omega, by omega⟩
        refine ⟨trivial, ?_⟩
        refine WN.done ?_
        refine WX.keep [] trivial ?_
        refine WX.next ?_
        refine WC.seq ?_
        refine WC.region ?_
        refine WL.val rfl rfl rfl rfl (r_assign rfl ev_c) ?_
        refine WL.nil ?_
        refine WX.keep [(8, _)] ⟨rfl, trivial⟩ ?_
        refine WX.next ?_
        refine WC.ret ?_
        refine WX.retE1 rfl rfl ?_
        first | (have e9 : putS L ⟨id, num, data⟩ = (L.set i ⟨id, num, data⟩, 0) := by (rw [hput, if_pos (by omega)]; unfold insS; rw [if_pos (by assumption), hi])); rw [e9]; exact ⟨rfl, hFin⟩ | (have e9 : putS L ⟨id, num, data⟩ = (L.take i ++ ⟨id, num, data⟩ :: L.drop i, 0) := by (rw [hput, if_pos (by omega)]; unfold insS; rw [if_neg (by simp_all)]; simp only [hi])); rw [e9]; exact ⟨rfl, hFin⟩
     · try (exfalso; first | (simp at hc8; done) | (simp only [decide_eq_true_eq, decide_eq_false_iff_not, Bool.not_eq_true', Bool.not_eq_false', Bool.not_eq_true, Bool.not_eq_false] at hc8; omega) | omega)
       all_goals
        try simp only [decide_eq_true_eq, decide_eq_false_iff_not, Bool.not_eq_true', Bool.not_eq_false', Bool.not_eq_true, Bool.not_eq_false, Option.isNone_none, Option.isNone_some, Option.isSome_none, Option.isSome_some, ne_eq, Decidable.not_not] at hc8
        refine WC.draws' (fun u0_ u1_ => Upd No u0_ u1_) (fun j => [0, 0, 0, 0, 0, 0, 1, 1, 2, 0, 0, 2].getD j 0) (.calm 0 (.calm 1 (.calm 2 (.calm 3 (.calm 5 (.held 4 (.one 6 (.one 7 (.one 8 (.calm 9 (.calm 10 (.one 11 (.done))))))))))))) mixed (by kernel_rfl) (by repeat (first | with_reducible exact Deaf.body | with_reducible apply Deaf.then | with_reducible apply Deaf.block)) ?_
        intro w8 hu8
        have hz8 := congrArg Array.size hu8.2.2.2
        replace hu8 := Upd.of_draw hu8
        have hs8 := hu8.size
        replace hU := hU.transA hu8
        replace hB := hB.upd hu8 (by first | exact (fun h => h) | (simp only [At]; omega))
        replace hO := hO.upd hu8 (by first | exact (fun _ _ _ h => h) | (intro k hk hl hS; have := hG k hk; simp only [At] at hS; omega))
        replace hcl := hcl.upd hu8 (by first | exact (fun _ _ _ h => h) | (intro k hk hl hS; have := hCn k hk; simp only [At] at hS; omega))
        replace hBx := hBx.upd hu8 (by first | exact (fun h => h) | (simp only [At]; omega))
        have hS10 := Upd.refl No w8
        refine WN.calm _ rfl rfl rfl rfl rfl (fun _ => r_move rfl (ev_t rfl)) ?_
        refine WN.calm _ rfl rfl rfl rfl rfl (fun _ => r_move rfl (ev_t rfl)) ?_
        refine WN.calm _ rfl rfl rfl rfl rfl (fun _ => r_nilCheck rfl (ev_t rfl)) ?_
        first | refine WN.calm _ rfl rfl rfl rfl rfl (fun _ => r_field0 rfl (ev_t rfl) fld_55_0) ?_ | refine WN.calm _ rfl rfl rfl rfl rfl (fun _ => r_fieldAt rfl (ev_t rfl) fld_55_0) ?_
        refine WN.calm _ rfl rfl rfl rfl rfl (fun _ => r_move rfl (ev_t rfl)) ?_
        refine WN.held _ rfl rfl rfl rfl rfl hS10 (fun w' hS => r_load rfl (ev_t rfl) flat_53 (Blk.cell (hB.upd hS (fun h => h)) rfl)) ?_
        refine WN.step _ rfl (SO.val rfl rfl rfl rfl (r_loadAgg (vs := [_, _, _]) rfl (ev_t rfl) agg_58 size_58 (Blk.cellsL hBx)) ?_)
        refine ⟨hS10, ?_⟩
        refine WN.step _ rfl (SO.alloc rfl rfl rfl rfl (r_buildSlice (cs := #[_, _, _]) (vs := [(0, _)]) rfl ⟨⟨rfl, (ev_t rfl)⟩, trivial⟩ row_53 rfl rfl) ?_)
        intro w9 hu9 hB9 hz9
        have hs9 := hu9.size
        replace hS10 := Upd.transA hS10 hu9
        replace hU := hU.transA hu9
        replace hB := hB.upd hu9 (by first | exact (fun h => h) | (simp only [At]; omega))
        replace hO := hO.upd hu9 (by first | exact (fun _ _ _ h => h) | (intro k hk hl hS; have := hG k hk; simp only [At] at hS; omega))
        replace hcl := hcl.upd hu9 (by first | exact (fun _ _ _ h => h) | (intro k hk hl hS; have := hCn k hk; simp only [At] at hS; omega))
        replace hBx := hBx.upd hu9 (by first | exact (fun h => h) | (simp only [At]; omega))
        refine ⟨hS10, ?_⟩
        have hbB := hB9.lt
        have hV1 : ∀ u ∈ V.flatMap LsV.cells, u.oneCell' = true := fun u hu => by
          obtain ⟨r, hr, hu⟩ := List.mem_flatMap.1 hu
          obtain ⟨_, _, e1, _⟩ := hD r hr
          simp only [LsV.cells, lsC, e1, List.mem_cons, List.not_mem_nil, or_false] at hu
          rcases hu with rfl | rfl | rfl <;> rfl
        refine WN.step _ rfl (SO.call (ins_ok (r := ⟨⟨id, num, data⟩, .slice As n cs⟩) hO (by omega) hil (show Blk _ _ (LsV.cells ⟨⟨id, num, data⟩, .slice As n cs⟩).toArray _ from hB9) (fun h => by have := hG _ h; omega) rfl hV1) rfl body_22 ⟨(ev_t rfl), (ev_t rfl), (ev_t rfl), trivial⟩ rfl rfl rfl rfl ?_)
        rintro v w10 ⟨hO2, hu10⟩
        replace hB := hB.upd hu10 (fun h => (hG t h).2.1 rfl)
        obtain ⟨A2, c2, rfl, hc2⟩ := Own.form hO2
        have hOp := hu10
        have hps := hOp.size
        have hpw : w.heap.size ≤ w9.heap.size := hU.size
        have hG2 : ∀ k, Grow G w9 w10 k → G k ∨ (w9.heap.size ≤ k ∧ k < w10.heap.size) := fun k hk => hk
        have hCp : ∀ k, C k → k < w9.heap.size := fun k hk => by have := hCn k hk; omega
        generalize Grow G w9 w10 = G2 at *
        refine ⟨trivial, ?_⟩
        refine WN.calm _ rfl rfl rfl rfl rfl (fun _ => r_nilCheck rfl (ev_t rfl)) ?_
        first | refine WN.calm _ rfl rfl rfl rfl rfl (fun _ => r_field0 rfl (ev_t rfl) fld_55_0) ?_ | refine WN.calm _ rfl rfl rfl rfl rfl (fun _ => r_fieldAt rfl (ev_t rfl) fld_55_0) ?_
        refine WN.step _ rfl (SO.store rfl (ev_t rfl) (ev_t rfl) size_53 hB rfl rfl rfl rfl rfl ?_)
        intro w11 hu11 hB2 hz
        have hFin : IsT w11 (Grow R w w11) t (L.take i ++ ⟨id, num, data⟩ :: L.drop i) ∧ Upd R w w11 := by
          have hvl : (V.take i ++ (⟨⟨id, num, data⟩, .slice As n cs⟩ : LsV) :: V.drop i).length = V.length + 1 := by simp only [List.length_append, List.length_take, List.length_cons, List.length_drop]; omega
          have hvf : (V.take i ++ (⟨⟨id, num, data⟩, .slice As n cs⟩ : LsV) :: V.drop i).flatMap LsV.cells = (V.flatMap LsV.cells).take (i * 3) ++ LsV.cells ⟨⟨id, num, data⟩, .slice As n cs⟩ ++ (V.flatMap LsV.cells).drop (i * 3) := by rw [List.flatMap_append, List.flatMap_cons, flatMap_take LsV.cells_len, flatMap_drop LsV.cells_len, List.append_assoc]
          have hss := hu11.size
          refine ⟨?_, ((hU.mono (fun _ _ h => h.elim)).trans hOp (fun k _ hk => (hG k hk).1)).trans hu11 (fun k _ hk => by simp only [At] at hk; subst hk; exact hRt)⟩
          unfold IsT
          refine ⟨A2, c2, V.take i ++ ⟨⟨id, num, data⟩, .slice As n cs⟩ :: V.drop i, G2, fun k => H k ∨ C k, ?_, ?_, ?_, by rw [← hLV, lsOf, List.map_append, List.map_cons, List.map_take, List.map_drop], .inl hRt, by omega, fun k hk => ?_, ?_⟩
          · rw [hvl]
            exact hB2
          · rw [hvl, hvf]
            exact hO2.upd hu11 (fun k hk hl hS => by simp only [At] at hS; subst hS; rcases hG2 k hk with h | h; exact (hG k h).2.1 rfl; omega)
          · intro r hr
            replace hr : r ∈ V ∨ r = ⟨⟨id, num, data⟩, .slice As n cs⟩ := by
              rcases List.mem_append.1 hr with hr | hr
              · exact .inl (List.mem_of_mem_take hr)
              · rcases List.mem_cons.1 hr with hr | hr
                · exact .inr hr
                · exact .inl (List.mem_of_mem_drop hr)
            rcases hr with hr | hr
            · exact ((((hD r hr).upd hU (fun _ _ _ h => h)).upd hOp (fun k hk _ hS => (hH k hk).2.2.1 hS)).upd hu11 (fun k hk _ hS => by simp only [At] at hS; subst hS; exact (hH k hk).2.1 rfl)).mono (fun k hk => .inl hk)
            · subst hr
              have h9 := (((hcl.rd (by omega)).upd hOp (fun k hk hl hS => by have h1 := hCn k hk; have h2 := hG k hS; omega)).upd hu11 (fun k hk hl hS => by have := hCn k hk; simp only [At] at hS; omega)).mono (F' := fun k => H k ∨ C k) (fun k hk => .inr hk)
              simp only [hpn] at h9 ⊢
              exact h9
          · rcases hG2 k hk with h | h
            · have := hG k h; exact ⟨.inl this.1, this.2.1, by omega⟩
            · exact ⟨.inr ⟨by omega, by omega⟩, by omega, by omega⟩
          · rintro k (hk | hk)
            · have := hH k hk; exact ⟨.inl this.1, this.2.1, fun h => (hG2 k h).elim this.2.2.1 (fun h => by omega), by omega⟩
            · have h1 := hCn k hk; have h2 := hCp k hk; exact ⟨.inr ⟨by omega, by omega⟩, by omega, fun h => (hG2 k h).elim (fun h => by have := hG k h; omega) (fun h => by omega), by omega⟩
        refine ⟨trivial, ?_⟩
        refine WN.done ?_
        refine WX.keep [] trivial ?_
        refine WX.next ?_
        refine WC.seq ?_
        refine WC.region ?_
        refine WL.val rfl rfl rfl rfl (r_assign rfl ev_c) ?_
        refine WL.nil ?_
        refine WX.keep [(8, _)] ⟨rfl, trivial⟩ ?_
        refine WX.next ?_
        refine WC.ret ?_
        refine WX.retE1 rfl rfl ?_
        first | (have e9 : putS L ⟨id, num, data⟩ = (L.set i ⟨id, num, data⟩, 0) := by (rw [hput, if_pos (by omega)]; unfold insS; rw [if_pos (by assumption), hi])); rw [e9]; exact ⟨rfl, hFin⟩ | (have e9 : putS L ⟨id, num, data⟩ = (L.take i ++ ⟨id, num, data⟩ :: L.drop i, 0) := by (rw [hput, if_pos (by omega)]; unfold insS; rw [if_neg (by simp_all)]; simp only [hi])); rw [e9]; exact ⟨rfl, hFin⟩
end Go.Proofs.Ytipabhbnljadfaa
