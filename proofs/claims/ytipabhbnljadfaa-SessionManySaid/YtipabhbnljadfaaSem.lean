/-
  law 17: as many sessions as may be.
-/
import Derived.Test.YtipabhbnljadfaaSed
namespace Go.Proofs.Ytipabhbnljadfaa
open Go
set_option linter.unusedSimpArgs false
set_option linter.unusedVariables false

def lM (k : Nat) (d : List UInt8) : List Ls := (List.range k).map fun i => ⟨(i + 1) * 1000, 1, d⟩
theorem lM_len (k : Nat) (d : List UInt8) : (lM k d).length = k := by simp [lM]
theorem lM_succ (k : Nat) (d : List UInt8) : lM (k + 1) d = lM k d ++ [⟨(k + 1) * 1000, 1, d⟩] := by simp [lM, List.range_succ]
theorem lM_get {k i : Nat} {d : List UInt8} {x : Ls} (h : (lM k d)[i]? = some x) : x = ⟨(i + 1) * 1000, 1, d⟩ ∧ i < k := by
  unfold lM at h
  rw [List.getElem?_map, Option.map_eq_some_iff] at h
  obtain ⟨j, hj, rfl⟩ := h
  have hlt : i < k := by have := (List.getElem?_eq_some_iff.1 hj).1; simpa using this
  rw [List.getElem?_range hlt] at hj
  have := Option.some.inj hj
  subst this
  exact ⟨rfl, hlt⟩
theorem lM_mem {k : Nat} {d : List UInt8} {x : Ls} : x ∈ lM k d ↔ ∃ i, i < k ∧ x = ⟨(i + 1) * 1000, 1, d⟩ := by
  unfold lM
  rw [List.mem_map]
  constructor
  · rintro ⟨i, hi, rfl⟩; exact ⟨i, List.mem_range.1 hi, rfl⟩
  · rintro ⟨i, hi, rfl⟩; exact ⟨i, List.mem_range.2 hi, rfl⟩
theorem lM_rise (k : Nat) (d : List UInt8) : Rise (lM k d) := by
  unfold Rise lM
  rw [List.pairwise_map]
  exact (List.pairwise_lt_range).imp (fun h => by simp only; omega)
theorem lM_tok {k : Nat} {d : List UInt8} (hk : k ≤ 64) (hd : d.length ≤ 1048576) : TOK (lM k d) := by
  refine ⟨lM_rise k d, by rw [lM_len]; exact hk, fun x hx => ?_⟩
  obtain ⟨i, hi, rfl⟩ := lM_mem.1 hx
  exact ⟨by simp only; omega, by simp only; omega, Nat.one_pos, by simp only; omega, hd⟩
theorem lM_lb (k : Nat) (d : List UInt8) : lbI (lM k d) ((k + 1) * 1000) = k :=
  lbI_eq (lM_rise k d) (by rw [lM_len]; exact Nat.le_refl _) (fun i x hx hi => by obtain ⟨rfl, h⟩ := lM_get hx; simp only; omega) (fun i x hx hi => by obtain ⟨rfl, h⟩ := lM_get hx; omega)
theorem lM_at {k id : Nat} {d : List UInt8} : isAt (lM k d) id = true ↔ id % 1000 = 0 ∧ 1000 ≤ id ∧ id ≤ k * 1000 := by
  rw [isAt_iff (lM_rise k d)]
  constructor
  · rintro ⟨x, hx, rfl⟩
    obtain ⟨i, hi, rfl⟩ := lM_mem.1 hx
    simp only
    omega
  · intro h
    exact ⟨_, lM_mem.2 ⟨id / 1000 - 1, by omega, rfl⟩, by simp only; omega⟩
theorem lM_put {k : Nat} {d : List UInt8} (hk : k < 64) : putS (lM k d) ⟨(k + 1) * 1000, 1, d⟩ = (lM (k + 1) d, 0) := by
  have h1 : ¬ isAt (lM k d) ((k + 1) * 1000) = true := by rw [lM_at]; omega
  unfold putS askS
  simp only
  have h2 : ¬ ((k + 1) * 1000 = 0 ∨ 1 = 0) := by omega
  have h3 : ¬ 64 ≤ k := by omega
  simp only [h1, h2, lM_len, h3, if_false, if_true, Bool.false_eq_true, insS]
  rw [lM_lb, List.take_of_length_le (by rw [lM_len]; exact Nat.le_refl _), List.drop_of_length_le (by rw [lM_len]; exact Nat.le_refl _), lM_succ]
theorem lM_full {id : Nat} {d : List UInt8} (h0 : id ≠ 0) (h : ¬ (id % 1000 = 0 ∧ 1000 ≤ id ∧ id ≤ 64000)) (e : List UInt8) : askS (lM 64 d) id 1 = ([], 2) ∧ putS (lM 64 d) ⟨id, 1, e⟩ = (lM 64 d, 2) := by
  have h1 : ¬ isAt (lM 64 d) id = true := by rw [lM_at]; omega
  have ha : askS (lM 64 d) id 1 = ([], 2) := by
    unfold askS
    rw [if_neg (by omega), if_neg h1, lM_len, if_pos (Nat.le_refl _)]
  refine ⟨ha, ?_⟩
  unfold putS
  simp only
  rw [ha]
  rfl
theorem lM_last (d : List UInt8) : ∃ L, putS (lM 64 d) ⟨5000, 2, []⟩ = (L, 0) ∧ L.length = 64 := by
  have h1 : isAt (lM 64 d) 5000 = true := lM_at.2 (by decide)
  have h2 : (askS (lM 64 d) 5000 2).2 = 6 := by
    unfold askS
    rw [if_neg (by decide), if_pos h1]
    obtain ⟨x, hx, hid⟩ := isAt_get h1
    obtain ⟨rfl, _⟩ := lM_get hx
    rw [hx]
    simp
  refine ⟨insS (lM 64 d) ⟨5000, 2, []⟩, ?_, ?_⟩
  · unfold putS
    simp only
    rw [if_pos h2]
  · rw [len_ins]
    simp only
    rw [if_pos h1, lM_len]

set_option maxHeartbeats 2000000 in
theorem sessionMany.walk {w : World} {v0 v1 : Value} {l : List Int} {p : List UInt8} (hl0 : Rd w (fun k => k < w.heap.size) v0 l.length 1 (l.map fun n => .int .u64 n)) (hz : ∀ n ∈ l, inK .u64 n) (hp : Rd w (fun k => k < w.heap.size) v1 p.length 1 (p.map U8)) :
    Ret Try.prog 3 #[v0, v1] w fun v w' => v = .bool true ∧ Upd No w w' := by
  obtain ⟨Al, cl, rfl, hcl⟩ := hl0.slice_form
  obtain ⟨Ap, cp, rfl, hcp⟩ := hp.slice_form
  have hlm := hl0.le
  have hpm := hp.le
  refine enterRet (vs := [_, _]) (N := 85) Try.func3 rfl rfl rfl ?_
  have hU := Upd.refl No w
  refine WC.keep [(0, _), (1, _)] ⟨rfl, rfl, trivial⟩ ?_
  refine WC.seq ?_
  refine WC.region ?_
  refine WL.val rfl rfl rfl rfl (r_assign rfl ev_c) ?_
  refine WL.nil ?_
  refine WX.keep [(0, _), (1, _)] ⟨rfl, rfl, trivial⟩ ?_
  refine WX.next ?_
  refine WC.seq ?_
  refine WC.seq ?_
  refine WC.region ?_
  refine WL.cons (SO.call (awake17_ok _) rfl body_9 trivial rfl rfl rfl rfl ?_)
  rintro v w1 ⟨rfl, hu1⟩
  have hs1 := hu1.size
  replace hU := hU.trans hu1 (by first | exact (fun _ _ h => h) | exact (fun _ _ h => h.elim) | (intro k hl hk; (try simp only [At, New, Grow, From, No] at hk ⊢); omega) | (intro k hl hk; first | (have := hRw k hk; omega) | (simp only [At, New, Grow, From, No] at *; omega)))
  refine WL.val rfl rfl rfl rfl (r_not rfl (ev_t rfl)) ?_
  refine WL.val rfl rfl rfl rfl (r_move rfl (ev_t rfl)) ?_
  refine WL.cases 14 rfl (fun hb1_2 => ?_) (fun hb1_2 => ?_)
  · try (exfalso; first | (simp at hb1_2; done) | (simp only [decide_eq_true_eq, decide_eq_false_iff_not, Bool.not_eq_true', Bool.not_eq_false', Bool.not_eq_true, Bool.not_eq_false] at hb1_2; omega) | omega)
    all_goals
     try simp only [decide_eq_true_eq, decide_eq_false_iff_not, Bool.not_eq_true', Bool.not_eq_false', Bool.not_eq_true, Bool.not_eq_false, Option.isNone_none, Option.isNone_some, Option.isSome_none, Option.isSome_some, ne_eq, Decidable.not_not] at hb1_2
     refine WL.skip rfl rfl rfl ?_
     refine WL.skip rfl rfl rfl ?_
     refine WL.skip rfl rfl rfl ?_
     refine WL.val rfl rfl rfl rfl (r_pickT rfl (ev_t rfl) ev_c) ?_
     refine WL.val rfl rfl rfl rfl (r_move rfl (ev_t rfl)) ?_
     refine WL.skip rfl rfl rfl ?_
     refine WL.skip rfl rfl rfl ?_
     refine WL.skip rfl rfl rfl ?_
     refine WL.val rfl rfl rfl rfl (r_pickT rfl (ev_t rfl) ev_c) ?_
     refine WL.nil ?_
     refine WX.keep [(0, _), (1, _), (23, _)] ⟨rfl, rfl, rfl, trivial⟩ ?_
     refine WX.next ?_
     refine WC.cond_true rfl (ev_t rfl) ?_
     refine WC.seq ?_
     refine WC.region ?_
     refine WL.cons (SO.call (awake17_ok _) rfl body_9 trivial rfl rfl rfl rfl ?_)
     rintro v w2 ⟨rfl, hu2⟩
     have hs2 := hu2.size
     replace hU := hU.trans hu2 (by first | exact (fun _ _ h => h) | exact (fun _ _ h => h.elim) | (intro k hl hk; (try simp only [At, New, Grow, From, No] at hk ⊢); omega) | (intro k hl hk; first | (have := hRw k hk; omega) | (simp only [At, New, Grow, From, No] at *; omega)))
     refine WL.val rfl rfl rfl rfl (r_assign rfl (ev_t rfl)) ?_
     refine WL.nil ?_
     refine WX.keep [(4, _)] ⟨rfl, trivial⟩ ?_
     refine WX.next ?_
     refine WC.ret ?_
     refine WX.thenRet ?_
     refine WX.retE1 rfl rfl ?_
     first
       | exact ⟨rfl, hU⟩
       | exact ⟨by simp [hn9], hU⟩
  · try (exfalso; first | (simp at hb1_2; done) | (simp only [decide_eq_true_eq, decide_eq_false_iff_not, Bool.not_eq_true', Bool.not_eq_false', Bool.not_eq_true, Bool.not_eq_false] at hb1_2; omega) | omega)
    all_goals
     try simp only [decide_eq_true_eq, decide_eq_false_iff_not, Bool.not_eq_true', Bool.not_eq_false', Bool.not_eq_true, Bool.not_eq_false, Option.isNone_none, Option.isNone_some, Option.isSome_none, Option.isSome_some, ne_eq, Decidable.not_not] at hb1_2
     refine WL.val rfl rfl rfl rfl (r_move rfl (ev_t rfl)) ?_
     refine WL.val rfl rfl rfl rfl (r_lenSlice (ts := #[]) rfl (ev_t rfl) elem_23) ?_
     refine WL.val rfl rfl rfl rfl (r_gtr rfl (ev_t rfl) ev_c) ?_
     refine WL.val rfl rfl rfl rfl (r_pickF rfl (ev_t rfl) (ev_t rfl)) ?_
     refine WL.val rfl rfl rfl rfl (r_move rfl (ev_t rfl)) ?_
     refine WL.cases 19 rfl (fun hb1_7 => ?_) (fun hb1_7 => ?_)
     · try (exfalso; first | (simp at hb1_7; done) | (simp only [decide_eq_true_eq, decide_eq_false_iff_not, Bool.not_eq_true', Bool.not_eq_false', Bool.not_eq_true, Bool.not_eq_false] at hb1_7; omega) | omega)
       all_goals
        try simp only [decide_eq_true_eq, decide_eq_false_iff_not, Bool.not_eq_true', Bool.not_eq_false', Bool.not_eq_true, Bool.not_eq_false, Option.isNone_none, Option.isNone_some, Option.isSome_none, Option.isSome_some, ne_eq, Decidable.not_not] at hb1_7
        refine WL.skip rfl rfl rfl ?_
        refine WL.skip rfl rfl rfl ?_
        refine WL.skip rfl rfl rfl ?_
        refine WL.val rfl rfl rfl rfl (r_pickT rfl (ev_t rfl) ev_c) ?_
        refine WL.nil ?_
        refine WX.keep [(0, _), (1, _), (23, _)] ⟨rfl, rfl, rfl, trivial⟩ ?_
        refine WX.next ?_
        refine WC.cond_true rfl (ev_t rfl) ?_
        refine WC.seq ?_
        refine WC.region ?_
        refine WL.cons (SO.call (awake17_ok _) rfl body_9 trivial rfl rfl rfl rfl ?_)
        rintro v w3 ⟨rfl, hu3⟩
        have hs3 := hu3.size
        replace hU := hU.trans hu3 (by first | exact (fun _ _ h => h) | exact (fun _ _ h => h.elim) | (intro k hl hk; (try simp only [At, New, Grow, From, No] at hk ⊢); omega) | (intro k hl hk; first | (have := hRw k hk; omega) | (simp only [At, New, Grow, From, No] at *; omega)))
        refine WL.val rfl rfl rfl rfl (r_assign rfl (ev_t rfl)) ?_
        refine WL.nil ?_
        refine WX.keep [(4, _)] ⟨rfl, trivial⟩ ?_
        refine WX.next ?_
        refine WC.ret ?_
        refine WX.thenRet ?_
        refine WX.retE1 rfl rfl ?_
        first
          | exact ⟨rfl, hU⟩
          | exact ⟨by simp [hn9], hU⟩
     · try (exfalso; first | (simp at hb1_7; done) | (simp only [decide_eq_true_eq, decide_eq_false_iff_not, Bool.not_eq_true', Bool.not_eq_false', Bool.not_eq_true, Bool.not_eq_false] at hb1_7; omega) | omega)
       all_goals
        try simp only [decide_eq_true_eq, decide_eq_false_iff_not, Bool.not_eq_true', Bool.not_eq_false', Bool.not_eq_true, Bool.not_eq_false, Option.isNone_none, Option.isNone_some, Option.isSome_none, Option.isSome_some, ne_eq, Decidable.not_not] at hb1_7
        refine WL.val rfl rfl rfl rfl (r_move rfl (ev_t rfl)) ?_
        refine WL.val rfl rfl rfl rfl (r_lenSlice (ts := #[]) rfl (ev_t rfl) elem_22) ?_
        refine WL.val rfl rfl rfl rfl (r_gtr rfl (ev_t rfl) ev_c) ?_
        refine WL.val rfl rfl rfl rfl (r_pickF rfl (ev_t rfl) (ev_t rfl)) ?_
        refine WL.nil ?_
        refine WX.keep [(0, _), (1, _), (23, _)] ⟨rfl, rfl, rfl, trivial⟩ ?_
        refine WX.next ?_
        refine WC.cond rfl (ev_t rfl) (fun hc1 => ?_) (fun hc1 => ?_)
        · try (exfalso; first | (simp at hc1; done) | (simp only [decide_eq_true_eq, decide_eq_false_iff_not, Bool.not_eq_true', Bool.not_eq_false', Bool.not_eq_true, Bool.not_eq_false] at hc1; omega) | omega)
          all_goals
           try simp only [decide_eq_true_eq, decide_eq_false_iff_not, Bool.not_eq_true', Bool.not_eq_false', Bool.not_eq_true, Bool.not_eq_false, Option.isNone_none, Option.isNone_some, Option.isSome_none, Option.isSome_some, ne_eq, Decidable.not_not] at hc1
           refine WC.seq ?_
           refine WC.region ?_
           refine WL.cons (SO.call (awake17_ok _) rfl body_9 trivial rfl rfl rfl rfl ?_)
           rintro v w4 ⟨rfl, hu4⟩
           have hs4 := hu4.size
           replace hU := hU.trans hu4 (by first | exact (fun _ _ h => h) | exact (fun _ _ h => h.elim) | (intro k hl hk; (try simp only [At, New, Grow, From, No] at hk ⊢); omega) | (intro k hl hk; first | (have := hRw k hk; omega) | (simp only [At, New, Grow, From, No] at *; omega)))
           refine WL.val rfl rfl rfl rfl (r_assign rfl (ev_t rfl)) ?_
           refine WL.nil ?_
           refine WX.keep [(4, _)] ⟨rfl, trivial⟩ ?_
           refine WX.next ?_
           refine WC.ret ?_
           refine WX.thenRet ?_
           refine WX.retE1 rfl rfl ?_
           first
             | exact ⟨rfl, hU⟩
             | exact ⟨by simp [hn9], hU⟩
        · try (exfalso; first | (simp at hc1; done) | (simp only [decide_eq_true_eq, decide_eq_false_iff_not, Bool.not_eq_true', Bool.not_eq_false', Bool.not_eq_true, Bool.not_eq_false] at hc1; omega) | omega)
          all_goals
           try simp only [decide_eq_true_eq, decide_eq_false_iff_not, Bool.not_eq_true', Bool.not_eq_false', Bool.not_eq_true, Bool.not_eq_false, Option.isNone_none, Option.isNone_some, Option.isSome_none, Option.isSome_some, ne_eq, Decidable.not_not] at hc1
           refine WC.skip ?_
           refine WX.next ?_
           refine WC.seq ?_
           refine WC.region ?_
           refine WL.cons (SO.call (SNew_ok) rfl body_10 trivial rfl rfl rfl rfl ?_)
           rintro v w5 ⟨t, rfl, hs, hu5⟩
           have hs5 := hu5.size
           replace hU := hU.trans hu5 (by first | exact (fun _ _ h => h) | exact (fun _ _ h => h.elim) | (intro k hl hk; (try simp only [At, New, Grow, From, No] at hk ⊢); omega) | (intro k hl hk; first | (have := hRw k hk; omega) | (simp only [At, New, Grow, From, No] at *; omega)))
           refine WL.val rfl rfl rfl rfl (r_assign rfl (ev_t rfl)) ?_
           refine WL.nil ?_
           refine WX.keep [(0, _), (1, _), (5, _)] ⟨rfl, rfl, rfl, trivial⟩ ?_
           refine WX.next ?_
           refine WC.seq ?_
           refine WC.seq ?_
           refine WC.region ?_
           refine WL.val rfl rfl rfl rfl (r_assign rfl ev_c) ?_
           refine WL.nil ?_
           refine WX.keep [(0, _), (1, _), (5, _), (6, _)] ⟨rfl, rfl, rfl, rfl, trivial⟩ ?_
           refine WX.next ?_
           refine WC.block ?_
           -- loop 1: live [0, 1, 5, 6]
           refine WC.keep [(0, _), (1, _), (5, _), (6, _)] ⟨rfl, rfl, rfl, rfl, trivial⟩ ?_
           refine WC.loop (fun q E w' => ∃ (i : Nat) (R : Nat → Prop), i ≤ 64 ∧ q = 64 - i ∧ Upd No w w' ∧ IsT w' R t (lM i p) ∧ (∀ k, R k → w.heap.size ≤ k) ∧ (∀ k, R k → k < w'.heap.size) ∧   E = [(0, .slice Al l.length cl), (1, .slice Ap p.length cp), (5, .pointer (some ⟨t, 0, none⟩)), (6, .int .u64 ((i + 1 : Nat) : Int))]) (64) ?_ ?_
           · exact ⟨0, _, by omega, by omega, hU, hs, (fun k hk => by simp only [New] at hk; omega), (fun k hk => by simp only [New] at hk; omega), rfl⟩
           · clear hU hs
             rintro q E w' ⟨i, R, hi, rfl, hU, hs, hRw, hRl, rfl⟩
             have hw0 := hU.size
             refine WC.seq ?_
             refine WC.seq ?_
             refine WC.region ?_
             refine WL.val rfl rfl rfl rfl (r_move rfl (ev_t rfl)) ?_
             refine WL.val rfl rfl rfl rfl (r_leq rfl (ev_t rfl) ev_c) ?_
             refine WL.nil ?_
             refine WX.keep [(0, _), (1, _), (5, _), (6, _), (27, _)] ⟨rfl, rfl, rfl, rfl, rfl, trivial⟩ ?_
             refine WX.next ?_
             refine WC.cond rfl (ev_t rfl) (fun hc5 => ?_) (fun hc5 => ?_)
             · try (exfalso; first | (simp at hc5; done) | (simp only [decide_eq_true_eq, decide_eq_false_iff_not, Bool.not_eq_true', Bool.not_eq_false', Bool.not_eq_true, Bool.not_eq_false] at hc5; omega) | omega)
               all_goals
                try simp only [decide_eq_true_eq, decide_eq_false_iff_not, Bool.not_eq_true', Bool.not_eq_false', Bool.not_eq_true, Bool.not_eq_false, Option.isNone_none, Option.isNone_some, Option.isSome_none, Option.isSome_some, ne_eq, Decidable.not_not] at hc5
                refine WC.skip ?_
                refine WX.next ?_
                refine WC.seq ?_
                refine WC.block ?_
                refine WC.seq ?_
                refine WC.region ?_
                refine WL.val rfl rfl rfl rfl (r_move rfl (ev_t rfl)) ?_
                refine WL.val rfl rfl rfl rfl (r_move rfl (ev_t rfl)) ?_
                first | refine WL.val rfl rfl rfl rfl (r_mulN rfl (ev_t rfl) ev_c (by simp only [inK]; omega)) ?_ | refine WL.val rfl rfl rfl rfl (r_mul rfl (ev_t rfl) ev_c) ?_
                refine WL.val rfl rfl rfl rfl (r_move rfl (ev_t rfl)) ?_
                rw [show ((i + 1 : Nat) : Int) * 1000 = (((i + 1) * 1000 : Nat) : Int) by omega]
                refine WL.cons (SO.call (Put_ok (num := 1) (id := (i + 1) * 1000) hs (lM_tok (by omega) (by omega)) (by omega) (by omega) (hp.upd hU (fun _ _ _ h => h)) (fun _ => .inr (by rw [lM_lb, lM_len]))) rfl body_11 ⟨(ev_t rfl), (ev_t rfl), ev_c, (ev_t rfl), trivial⟩ rfl rfl rfl rfl ?_)
                rw [lM_put (by omega)]
                clear hs
                rintro v w6 ⟨rfl, hs, hu6⟩
                have hs6 := hu6.size
                replace hU := hU.trans hu6 (by first | exact (fun _ _ h => h) | exact (fun _ _ h => h.elim) | (intro k hl hk; (try simp only [At, New, Grow, From, No] at hk ⊢); omega) | (intro k hl hk; first | (have := hRw k hk; omega) | (simp only [At, New, Grow, From, No] at *; omega)))
                replace hRw : ∀ k, Grow R w' w6 k → w.heap.size ≤ k := fun k hk => hk.elim (hRw k) (fun h => by omega)
                replace hRl : ∀ k, Grow R w' w6 k → k < w6.heap.size := fun k hk => hk.elim (fun h => by have := hRl k h; omega) (fun h => h.2)
                refine WL.val rfl rfl rfl rfl (r_neq rfl (ev_t rfl) ev_c) ?_
                refine WL.nil ?_
                refine WX.keep [(0, _), (1, _), (5, _), (6, _), (35, _)] ⟨rfl, rfl, rfl, rfl, rfl, trivial⟩ ?_
                refine WX.next ?_
                refine WC.cond rfl (ev_t rfl) (fun hc7 => ?_) (fun hc7 => ?_)
                · try (exfalso; first | (simp at hc7; done) | (simp only [decide_eq_true_eq, decide_eq_false_iff_not, Bool.not_eq_true', Bool.not_eq_false', Bool.not_eq_true, Bool.not_eq_false] at hc7; omega) | omega)
                  all_goals
                   try simp only [decide_eq_true_eq, decide_eq_false_iff_not, Bool.not_eq_true', Bool.not_eq_false', Bool.not_eq_true, Bool.not_eq_false, Option.isNone_none, Option.isNone_some, Option.isSome_none, Option.isSome_some, ne_eq, Decidable.not_not] at hc7
                   refine WC.seq ?_
                   refine WC.region ?_
                   refine WL.val rfl rfl rfl rfl (r_assign rfl ev_c) ?_
                   refine WL.nil ?_
                   refine WX.keep [(4, _)] ⟨rfl, trivial⟩ ?_
                   refine WX.next ?_
                   refine WC.ret ?_
                   refine WX.blockRet ?_
                   refine WX.thenRet ?_
                   refine WX.thenRet ?_
                   refine WX.blockRet ?_
                   refine WX.thenRet ?_
                   refine WX.retE1 rfl rfl ?_
                   first
                     | exact ⟨rfl, hU⟩
                     | exact ⟨by simp [hn9], hU⟩
                · try (exfalso; first | (simp at hc7; done) | (simp only [decide_eq_true_eq, decide_eq_false_iff_not, Bool.not_eq_true', Bool.not_eq_false', Bool.not_eq_true, Bool.not_eq_false] at hc7; omega) | omega)
                  all_goals
                   try simp only [decide_eq_true_eq, decide_eq_false_iff_not, Bool.not_eq_true', Bool.not_eq_false', Bool.not_eq_true, Bool.not_eq_false, Option.isNone_none, Option.isNone_some, Option.isSome_none, Option.isSome_some, ne_eq, Decidable.not_not] at hc7
                   refine WC.skip ?_
                   refine WX.blockNormal ?_
                   refine WX.next ?_
                   refine WC.region ?_
                   refine WL.val rfl rfl rfl rfl (r_move rfl (ev_t rfl)) ?_
                   first | refine WL.val rfl rfl rfl rfl (r_addN rfl (ev_t rfl) ev_c (by simp only [inK]; omega)) ?_ | refine WL.val rfl rfl rfl rfl (r_add rfl (ev_t rfl) ev_c) ?_
                   refine WL.val rfl rfl rfl rfl (r_assign rfl (ev_t rfl)) ?_
                   refine WL.nil ?_
                   refine WX.keep [(0, _), (1, _), (5, _), (6, _)] ⟨rfl, rfl, rfl, rfl, trivial⟩ ?_
                   refine WX.meet [(0, _), (1, _), (5, _), (6, _)] ⟨rfl, rfl, rfl, rfl, trivial⟩ ?_
                   exact ⟨64 - (i + 1), by omega, i + 1, _, by omega, rfl, hU, hs, hRw, (fun k hk => by have := hRl k hk; omega), rfl⟩
             · try (exfalso; first | (simp at hc5; done) | (simp only [decide_eq_true_eq, decide_eq_false_iff_not, Bool.not_eq_true', Bool.not_eq_false', Bool.not_eq_true, Bool.not_eq_false] at hc5; omega) | omega)
               all_goals
                try simp only [decide_eq_true_eq, decide_eq_false_iff_not, Bool.not_eq_true', Bool.not_eq_false', Bool.not_eq_true, Bool.not_eq_false, Option.isNone_none, Option.isNone_some, Option.isSome_none, Option.isSome_some, ne_eq, Decidable.not_not] at hc5
                refine WC.exit ?_
                refine WX.thenExit ?_
                refine WX.thenExit ?_
                refine WX.blockHere ?_
                refine WX.next ?_
                refine WC.seq ?_
                refine WC.seq ?_
                obtain rfl : i = 64 := by omega
                refine WC.region ?_
                refine WL.val rfl rfl rfl rfl (r_assign rfl ev_c) ?_
                refine WL.nil ?_
                refine WX.keep [(0, _), (1, _), (5, _), (7, _)] ⟨rfl, rfl, rfl, rfl, trivial⟩ ?_
                refine WX.next ?_
                refine WC.block ?_
                -- loop 2: live [0, 1, 5, 7]
                refine WC.keep [(0, _), (1, _), (5, _), (7, _)] ⟨rfl, rfl, rfl, rfl, trivial⟩ ?_
                refine WC.loop (fun q E w' => ∃ (j : Nat) (R : Nat → Prop), j ≤ l.length ∧ q = l.length - j ∧ Upd No w w' ∧ IsT w' R t (lM 64 p) ∧ (∀ k, R k → w.heap.size ≤ k) ∧ (∀ k, R k → k < w'.heap.size) ∧   E = [(0, .slice Al l.length cl), (1, .slice Ap p.length cp), (5, .pointer (some ⟨t, 0, none⟩)), (7, .int .i64 (j : Int))]) (l.length) ?_ ?_
                · exact ⟨0, _, by omega, by omega, hU, hs, hRw, hRl, rfl⟩
                · clear hU hs hRw hRl
                  rintro q E w2 ⟨j, R2, hj, rfl, hU, hs, hRw, hRl, rfl⟩
                  have hw2 := hU.size
                  refine WC.seq ?_
                  refine WC.seq ?_
                  refine WC.region ?_
                  refine WL.val rfl rfl rfl rfl (r_move rfl (ev_t rfl)) ?_
                  refine WL.val rfl rfl rfl rfl (r_move rfl (ev_t rfl)) ?_
                  refine WL.val rfl rfl rfl rfl (r_lenSlice (ts := #[]) rfl (ev_t rfl) elem_22) ?_
                  refine WL.val rfl rfl rfl rfl (r_lss rfl (ev_t rfl) (ev_t rfl)) ?_
                  refine WL.nil ?_
                  refine WX.keep [(0, _), (1, _), (5, _), (7, _), (39, _)] ⟨rfl, rfl, rfl, rfl, rfl, trivial⟩ ?_
                  refine WX.next ?_
                  refine WC.cond rfl (ev_t rfl) (fun hc10 => ?_) (fun hc10 => ?_)
                  · try (exfalso; first | (simp at hc10; done) | (simp only [decide_eq_true_eq, decide_eq_false_iff_not, Bool.not_eq_true', Bool.not_eq_false', Bool.not_eq_true, Bool.not_eq_false] at hc10; omega) | omega)
                    all_goals
                     try simp only [decide_eq_true_eq, decide_eq_false_iff_not, Bool.not_eq_true', Bool.not_eq_false', Bool.not_eq_true, Bool.not_eq_false, Option.isNone_none, Option.isNone_some, Option.isSome_none, Option.isSome_some, ne_eq, Decidable.not_not] at hc10
                     have hj' : j < l.length := by omega
                     obtain ⟨bl, ol, rfl, _⟩ := hl0.open (by omega)
                     have hg := List.getElem?_eq_getElem hj'
                     have hzi := hz _ (List.getElem_mem hj')
                     generalize l[j] = z at *
                     simp only [inK] at hzi
                     obtain ⟨m, rfl⟩ : ∃ m : Nat, z = m := ⟨z.toNat, by omega⟩
                     refine WC.skip ?_
                     refine WX.next ?_
                     refine WC.seq ?_
                     refine WC.block ?_
                     refine WC.seq ?_
                     refine WC.region ?_
                     refine WL.val rfl rfl rfl rfl (r_move rfl (ev_t rfl)) ?_
                     refine WL.val rfl rfl rfl rfl (r_move rfl (ev_t rfl)) ?_
                     refine WL.val rfl rfl rfl rfl (r_indexAddr rfl (ev_t rfl) (ev_t rfl) elem_22 size_27 (by omega) (by omega)) ?_
                     refine WL.val rfl rfl rfl rfl (r_load rfl (ev_t rfl) flat_27 (Rd.cell (hl0.upd hU (fun _ _ _ h => h)) (j := j) (u := .int .u64 (m : Int)) (by omega) (by rw [List.getElem?_map, hg]; rfl))) ?_
                     refine WL.val rfl rfl rfl rfl (r_assign rfl (ev_t rfl)) ?_
                     refine WL.nil ?_
                     refine WX.keep [(0, _), (1, _), (5, _), (7, _), (8, _)] ⟨rfl, rfl, rfl, rfl, rfl, trivial⟩ ?_
                     refine WX.next ?_
                     refine WC.seq ?_
                     refine WC.region ?_
                     refine WL.val rfl rfl rfl rfl (r_move rfl (ev_t rfl)) ?_
                     first | refine WL.val rfl rfl rfl rfl (r_remN rfl (ev_t rfl) ev_c (by omega) (by omega)) ?_ | refine WL.val rfl rfl rfl rfl (r_rem rfl (ev_t rfl) ev_c (by omega)) ?_
                     refine WL.val rfl rfl rfl rfl (r_eql rfl (ev_t rfl) ev_c) ?_
                     refine WL.val rfl rfl rfl rfl (r_move rfl (ev_t rfl)) ?_
                     refine WL.cases 49 rfl (fun hb13_3 => ?_) (fun hb13_3 => ?_)
                     · try (exfalso; first | (simp at hb13_3; done) | (simp only [decide_eq_true_eq, decide_eq_false_iff_not, Bool.not_eq_true', Bool.not_eq_false', Bool.not_eq_true, Bool.not_eq_false] at hb13_3; omega) | omega)
                       all_goals
                        try simp only [decide_eq_true_eq, decide_eq_false_iff_not, Bool.not_eq_true', Bool.not_eq_false', Bool.not_eq_true, Bool.not_eq_false, Option.isNone_none, Option.isNone_some, Option.isSome_none, Option.isSome_some, ne_eq, Decidable.not_not] at hb13_3
                        refine WL.val rfl rfl rfl rfl (r_move rfl (ev_t rfl)) ?_
                        refine WL.val rfl rfl rfl rfl (r_geq rfl (ev_t rfl) ev_c) ?_
                        refine WL.val rfl rfl rfl rfl (r_pickT rfl (ev_t rfl) (ev_t rfl)) ?_
                        refine WL.val rfl rfl rfl rfl (r_move rfl (ev_t rfl)) ?_
                        refine WL.cases 53 rfl (fun hb13_7 => ?_) (fun hb13_7 => ?_)
                        · try (exfalso; first | (simp at hb13_7; done) | (simp only [decide_eq_true_eq, decide_eq_false_iff_not, Bool.not_eq_true', Bool.not_eq_false', Bool.not_eq_true, Bool.not_eq_false] at hb13_7; omega) | omega)
                          all_goals
                           try simp only [decide_eq_true_eq, decide_eq_false_iff_not, Bool.not_eq_true', Bool.not_eq_false', Bool.not_eq_true, Bool.not_eq_false, Option.isNone_none, Option.isNone_some, Option.isSome_none, Option.isSome_some, ne_eq, Decidable.not_not] at hb13_7
                           refine WL.val rfl rfl rfl rfl (r_move rfl (ev_t rfl)) ?_
                           refine WL.val rfl rfl rfl rfl (r_leq rfl (ev_t rfl) ev_c) ?_
                           refine WL.val rfl rfl rfl rfl (r_pickT rfl (ev_t rfl) (ev_t rfl)) ?_
                           refine WL.val rfl rfl rfl rfl (r_assign rfl (ev_t rfl)) ?_
                           refine WL.nil ?_
                           refine WX.keep [(0, _), (1, _), (5, _), (7, _), (8, _), (9, _)] ⟨rfl, rfl, rfl, rfl, rfl, rfl, trivial⟩ ?_
                           refine WX.next ?_
                           refine WC.seq ?_
                           refine WC.seq ?_
                           refine WC.region ?_
                           refine WL.val rfl rfl rfl rfl (r_move rfl (ev_t rfl)) ?_
                           refine WL.val rfl rfl rfl rfl (r_eql rfl (ev_t rfl) ev_c) ?_
                           refine WL.val rfl rfl rfl rfl (r_move rfl (ev_t rfl)) ?_
                           refine WL.cases 59 rfl (fun hb14_2 => ?_) (fun hb14_2 => ?_)
                           · try (exfalso; first | (simp at hb14_2; done) | (simp only [decide_eq_true_eq, decide_eq_false_iff_not, Bool.not_eq_true', Bool.not_eq_false', Bool.not_eq_true, Bool.not_eq_false] at hb14_2; omega) | omega)
                             all_goals
                              try simp only [decide_eq_true_eq, decide_eq_false_iff_not, Bool.not_eq_true', Bool.not_eq_false', Bool.not_eq_true, Bool.not_eq_false, Option.isNone_none, Option.isNone_some, Option.isSome_none, Option.isSome_some, ne_eq, Decidable.not_not] at hb14_2
                              refine WL.skip rfl rfl rfl ?_
                              refine WL.val rfl rfl rfl rfl (r_pickT rfl (ev_t rfl) ev_c) ?_
                              refine WL.nil ?_
                              refine WX.keep [(0, _), (1, _), (5, _), (7, _), (8, _), (61, _)] ⟨rfl, rfl, rfl, rfl, rfl, rfl, trivial⟩ ?_
                              refine WX.next ?_
                              refine WC.cond_true rfl (ev_t rfl) ?_
                              refine WC.exit ?_
                              refine WX.thenExit ?_
                              refine WX.blockHere ?_
                              refine WX.next ?_
                              refine WC.region ?_
                              refine WL.val rfl rfl rfl rfl (r_move rfl (ev_t rfl)) ?_
                              first | refine WL.val rfl rfl rfl rfl (r_addN rfl (ev_t rfl) ev_c (by simp only [inK]; omega)) ?_ | refine WL.val rfl rfl rfl rfl (r_add rfl (ev_t rfl) ev_c) ?_
                              refine WL.val rfl rfl rfl rfl (r_assign rfl (ev_t rfl)) ?_
                              refine WL.nil ?_
                              refine WX.keep [(0, _), (1, _), (5, _), (7, _)] ⟨rfl, rfl, rfl, rfl, trivial⟩ ?_
                              refine WX.meet [(0, _), (1, _), (5, _), (7, _)] ⟨rfl, rfl, rfl, rfl, trivial⟩ ?_
                              exact ⟨l.length - (j + 1), by omega, j + 1, _, by omega, rfl, hU, hs, hRw, (fun k hk => by have := hRl k hk; omega), rfl⟩
                           · try (exfalso; first | (simp at hb14_2; done) | (simp only [decide_eq_true_eq, decide_eq_false_iff_not, Bool.not_eq_true', Bool.not_eq_false', Bool.not_eq_true, Bool.not_eq_false] at hb14_2; omega) | omega)
                             all_goals
                              try simp only [decide_eq_true_eq, decide_eq_false_iff_not, Bool.not_eq_true', Bool.not_eq_false', Bool.not_eq_true, Bool.not_eq_false, Option.isNone_none, Option.isNone_some, Option.isSome_none, Option.isSome_some, ne_eq, Decidable.not_not] at hb14_2
                              refine WL.val rfl rfl rfl rfl (r_move rfl (ev_t rfl)) ?_
                              refine WL.val rfl rfl rfl rfl (r_pickF rfl (ev_t rfl) (ev_t rfl)) ?_
                              refine WL.nil ?_
                              refine WX.keep [(0, _), (1, _), (5, _), (7, _), (8, _), (61, _)] ⟨rfl, rfl, rfl, rfl, rfl, rfl, trivial⟩ ?_
                              refine WX.next ?_
                              refine WC.cond rfl (ev_t rfl) (fun hc14 => ?_) (fun hc14 => ?_)
                              · try (exfalso; first | (simp at hc14; done) | (simp only [decide_eq_true_eq, decide_eq_false_iff_not, Bool.not_eq_true', Bool.not_eq_false', Bool.not_eq_true, Bool.not_eq_false] at hc14; omega) | omega)
                                all_goals
                                 try simp only [decide_eq_true_eq, decide_eq_false_iff_not, Bool.not_eq_true', Bool.not_eq_false', Bool.not_eq_true, Bool.not_eq_false, Option.isNone_none, Option.isNone_some, Option.isSome_none, Option.isSome_some, ne_eq, Decidable.not_not] at hc14
                                 refine WC.exit ?_
                                 refine WX.thenExit ?_
                                 refine WX.blockHere ?_
                                 refine WX.next ?_
                                 refine WC.region ?_
                                 refine WL.val rfl rfl rfl rfl (r_move rfl (ev_t rfl)) ?_
                                 first | refine WL.val rfl rfl rfl rfl (r_addN rfl (ev_t rfl) ev_c (by simp only [inK]; omega)) ?_ | refine WL.val rfl rfl rfl rfl (r_add rfl (ev_t rfl) ev_c) ?_
                                 refine WL.val rfl rfl rfl rfl (r_assign rfl (ev_t rfl)) ?_
                                 refine WL.nil ?_
                                 refine WX.keep [(0, _), (1, _), (5, _), (7, _)] ⟨rfl, rfl, rfl, rfl, trivial⟩ ?_
                                 refine WX.meet [(0, _), (1, _), (5, _), (7, _)] ⟨rfl, rfl, rfl, rfl, trivial⟩ ?_
                                 exact ⟨l.length - (j + 1), by omega, j + 1, _, by omega, rfl, hU, hs, hRw, (fun k hk => by have := hRl k hk; omega), rfl⟩
                              · try (exfalso; first | (simp at hc14; done) | (simp only [decide_eq_true_eq, decide_eq_false_iff_not, Bool.not_eq_true', Bool.not_eq_false', Bool.not_eq_true, Bool.not_eq_false] at hc14; omega) | omega)
                                all_goals
                                 try simp only [decide_eq_true_eq, decide_eq_false_iff_not, Bool.not_eq_true', Bool.not_eq_false', Bool.not_eq_true, Bool.not_eq_false, Option.isNone_none, Option.isNone_some, Option.isSome_none, Option.isSome_some, ne_eq, Decidable.not_not] at hc14
                                 refine WC.skip ?_
                                 refine WX.next ?_
                                 refine WC.seq ?_
                                 refine WC.region ?_
                                 refine WL.val rfl rfl rfl rfl (r_move rfl (ev_t rfl)) ?_
                                 refine WL.val rfl rfl rfl rfl (r_move rfl (ev_t rfl)) ?_
                                 refine WL.cons (SO.call (Ask_ok (id := m) (num := 1) hs (lM_tok (by omega) (by omega)) (by omega) (by omega)) rfl body_12 ⟨(ev_t rfl), (ev_t rfl), ev_c, trivial⟩ rfl rfl rfl rfl ?_)
                                 obtain ⟨hf1, hf2⟩ := lM_full (id := m) (d := p) (by omega) (by omega) p
                                 rw [hf1]
                                 rintro v w7 ⟨v10, rfl, hcl, hu7⟩
                                 have hs7 := hu7.size
                                 replace hU := hU.trans hu7 (by first | exact (fun _ _ h => h) | exact (fun _ _ h => h.elim) | (intro k hl hk; (try simp only [At, New, Grow, From, No] at hk ⊢); omega) | (intro k hl hk; first | (have := hRw k hk; omega) | (simp only [At, New, Grow, From, No] at *; omega)))
                                 replace hs := hs.upd hu7 (by first | exact (fun _ _ _ h => h) | (intro k hk hl hS; simp only [At] at hS; subst hS; have := hRl _ hk; omega))
                                 refine WL.val rfl rfl rfl rfl (r_move rfl (ev_t rfl)) ?_
                                 refine WL.val rfl rfl rfl rfl (r_extract rfl (ev_t rfl) rfl) ?_
                                 refine WL.val rfl rfl rfl rfl (r_extract rfl (ev_t rfl) rfl) ?_
                                 refine WL.val rfl rfl rfl rfl (r_assign rfl (ev_t rfl)) ?_
                                 refine WL.val rfl rfl rfl rfl (r_assign rfl (ev_t rfl)) ?_
                                 refine WL.nil ?_
                                 refine WX.keep [(0, _), (1, _), (5, _), (7, _), (8, _), (11, _)] ⟨rfl, rfl, rfl, rfl, rfl, rfl, trivial⟩ ?_
                                 refine WX.next ?_
                                 refine WC.seq ?_
                                 refine WC.region ?_
                                 refine WL.val rfl rfl rfl rfl (r_move rfl (ev_t rfl)) ?_
                                 refine WL.val rfl rfl rfl rfl (r_neq rfl (ev_t rfl) ev_c) ?_
                                 refine WL.val rfl rfl rfl rfl (r_move rfl (ev_t rfl)) ?_
                                 refine WL.cases 70 rfl (fun hb16_2 => ?_) (fun hb16_2 => ?_)
                                 · try (exfalso; first | (simp at hb16_2; done) | (simp only [decide_eq_true_eq, decide_eq_false_iff_not, Bool.not_eq_true', Bool.not_eq_false', Bool.not_eq_true, Bool.not_eq_false] at hb16_2; omega) | omega)
                                   all_goals
                                    try simp only [decide_eq_true_eq, decide_eq_false_iff_not, Bool.not_eq_true', Bool.not_eq_false', Bool.not_eq_true, Bool.not_eq_false, Option.isNone_none, Option.isNone_some, Option.isSome_none, Option.isSome_some, ne_eq, Decidable.not_not] at hb16_2
                                    refine WL.skip rfl rfl rfl ?_
                                    refine WL.skip rfl rfl rfl ?_
                                    refine WL.skip rfl rfl rfl ?_
                                    refine WL.skip rfl rfl rfl ?_
                                    refine WL.skip rfl rfl rfl ?_
                                    refine WL.val rfl rfl rfl rfl (r_pickT rfl (ev_t rfl) ev_c) ?_
                                    refine WL.nil ?_
                                    refine WX.keep [(0, _), (1, _), (5, _), (7, _), (76, _)] ⟨rfl, rfl, rfl, rfl, rfl, trivial⟩ ?_
                                    refine WX.next ?_
                                    refine WC.cond_true rfl (ev_t rfl) ?_
                                    refine WC.seq ?_
                                    refine WC.region ?_
                                    refine WL.val rfl rfl rfl rfl (r_assign rfl ev_c) ?_
                                    refine WL.nil ?_
                                    refine WX.keep [(4, _)] ⟨rfl, trivial⟩ ?_
                                    refine WX.next ?_
                                    refine WC.ret ?_
                                    refine WX.blockRet ?_
                                    refine WX.thenRet ?_
                                    refine WX.thenRet ?_
                                    refine WX.blockRet ?_
                                    refine WX.thenRet ?_
                                    refine WX.retE1 rfl rfl ?_
                                    first
                                      | exact ⟨rfl, hU⟩
                                      | exact ⟨by simp [hn9], hU⟩
                                 · try (exfalso; first | (simp at hb16_2; done) | (simp only [decide_eq_true_eq, decide_eq_false_iff_not, Bool.not_eq_true', Bool.not_eq_false', Bool.not_eq_true, Bool.not_eq_false] at hb16_2; omega) | omega)
                                   all_goals
                                    try simp only [decide_eq_true_eq, decide_eq_false_iff_not, Bool.not_eq_true', Bool.not_eq_false', Bool.not_eq_true, Bool.not_eq_false, Option.isNone_none, Option.isNone_some, Option.isSome_none, Option.isSome_some, ne_eq, Decidable.not_not] at hb16_2
                                    refine WL.val rfl rfl rfl rfl (r_move rfl (ev_t rfl)) ?_
                                    refine WL.val rfl rfl rfl rfl (r_move rfl (ev_t rfl)) ?_
                                    refine WL.val rfl rfl rfl rfl (r_move rfl (ev_t rfl)) ?_
                                    refine WL.cons (SO.call (Put_ok (id := m) (num := 1) hs (lM_tok (by omega) (by omega)) (by omega) (by omega) (hp.upd hU (fun _ _ _ h => h)) (fun h => by rw [hf1] at h; cases h)) rfl body_11 ⟨(ev_t rfl), (ev_t rfl), ev_c, (ev_t rfl), trivial⟩ rfl rfl rfl rfl ?_)
                                    rw [hf2]
                                    clear hs
                                    rintro v w8 ⟨rfl, hs, hu8⟩
                                    have hs8 := hu8.size
                                    replace hU := hU.trans hu8 (by first | exact (fun _ _ h => h) | exact (fun _ _ h => h.elim) | (intro k hl hk; (try simp only [At, New, Grow, From, No] at hk ⊢); omega) | (intro k hl hk; first | (have := hRw k hk; omega) | (simp only [At, New, Grow, From, No] at *; omega)))
                                    replace hRw : ∀ k, Grow R2 w7 w8 k → w.heap.size ≤ k := fun k hk => hk.elim (hRw k) (fun h => by omega)
                                    replace hRl : ∀ k, Grow R2 w7 w8 k → k < w8.heap.size := fun k hk => hk.elim (fun h => by have := hRl k h; omega) (fun h => h.2)
                                    refine WL.val rfl rfl rfl rfl (r_neq rfl (ev_t rfl) ev_c) ?_
                                    refine WL.val rfl rfl rfl rfl (r_pickF rfl (ev_t rfl) (ev_t rfl)) ?_
                                    refine WL.nil ?_
                                    refine WX.keep [(0, _), (1, _), (5, _), (7, _), (76, _)] ⟨rfl, rfl, rfl, rfl, rfl, trivial⟩ ?_
                                    refine WX.next ?_
                                    refine WC.cond rfl (ev_t rfl) (fun hc16 => ?_) (fun hc16 => ?_)
                                    · try (exfalso; first | (simp at hc16; done) | (simp only [decide_eq_true_eq, decide_eq_false_iff_not, Bool.not_eq_true', Bool.not_eq_false', Bool.not_eq_true, Bool.not_eq_false] at hc16; omega) | omega)
                                      all_goals
                                       try simp only [decide_eq_true_eq, decide_eq_false_iff_not, Bool.not_eq_true', Bool.not_eq_false', Bool.not_eq_true, Bool.not_eq_false, Option.isNone_none, Option.isNone_some, Option.isSome_none, Option.isSome_some, ne_eq, Decidable.not_not] at hc16
                                       refine WC.seq ?_
                                       refine WC.region ?_
                                       refine WL.val rfl rfl rfl rfl (r_assign rfl ev_c) ?_
                                       refine WL.nil ?_
                                       refine WX.keep [(4, _)] ⟨rfl, trivial⟩ ?_
                                       refine WX.next ?_
                                       refine WC.ret ?_
                                       refine WX.blockRet ?_
                                       refine WX.thenRet ?_
                                       refine WX.thenRet ?_
                                       refine WX.blockRet ?_
                                       refine WX.thenRet ?_
                                       refine WX.retE1 rfl rfl ?_
                                       first
                                         | exact ⟨rfl, hU⟩
                                         | exact ⟨by simp [hn9], hU⟩
                                    · try (exfalso; first | (simp at hc16; done) | (simp only [decide_eq_true_eq, decide_eq_false_iff_not, Bool.not_eq_true', Bool.not_eq_false', Bool.not_eq_true, Bool.not_eq_false] at hc16; omega) | omega)
                                      all_goals
                                       try simp only [decide_eq_true_eq, decide_eq_false_iff_not, Bool.not_eq_true', Bool.not_eq_false', Bool.not_eq_true, Bool.not_eq_false, Option.isNone_none, Option.isNone_some, Option.isSome_none, Option.isSome_some, ne_eq, Decidable.not_not] at hc16
                                       refine WC.skip ?_
                                       refine WX.blockNormal ?_
                                       refine WX.next ?_
                                       refine WC.region ?_
                                       refine WL.val rfl rfl rfl rfl (r_move rfl (ev_t rfl)) ?_
                                       first | refine WL.val rfl rfl rfl rfl (r_addN rfl (ev_t rfl) ev_c (by simp only [inK]; omega)) ?_ | refine WL.val rfl rfl rfl rfl (r_add rfl (ev_t rfl) ev_c) ?_
                                       refine WL.val rfl rfl rfl rfl (r_assign rfl (ev_t rfl)) ?_
                                       refine WL.nil ?_
                                       refine WX.keep [(0, _), (1, _), (5, _), (7, _)] ⟨rfl, rfl, rfl, rfl, trivial⟩ ?_
                                       refine WX.meet [(0, _), (1, _), (5, _), (7, _)] ⟨rfl, rfl, rfl, rfl, trivial⟩ ?_
                                       exact ⟨l.length - (j + 1), by omega, j + 1, _, by omega, rfl, hU, hs, hRw, (fun k hk => by have := hRl k hk; omega), rfl⟩
                        · try (exfalso; first | (simp at hb13_7; done) | (simp only [decide_eq_true_eq, decide_eq_false_iff_not, Bool.not_eq_true', Bool.not_eq_false', Bool.not_eq_true, Bool.not_eq_false] at hb13_7; omega) | omega)
                          all_goals
                           try simp only [decide_eq_true_eq, decide_eq_false_iff_not, Bool.not_eq_true', Bool.not_eq_false', Bool.not_eq_true, Bool.not_eq_false, Option.isNone_none, Option.isNone_some, Option.isSome_none, Option.isSome_some, ne_eq, Decidable.not_not] at hb13_7
                           refine WL.skip rfl rfl rfl ?_
                           refine WL.skip rfl rfl rfl ?_
                           refine WL.val rfl rfl rfl rfl (r_pickF rfl (ev_t rfl) ev_c) ?_
                           refine WL.val rfl rfl rfl rfl (r_assign rfl (ev_t rfl)) ?_
                           refine WL.nil ?_
                           refine WX.keep [(0, _), (1, _), (5, _), (7, _), (8, _), (9, _)] ⟨rfl, rfl, rfl, rfl, rfl, rfl, trivial⟩ ?_
                           refine WX.next ?_
                           refine WC.seq ?_
                           refine WC.seq ?_
                           refine WC.region ?_
                           refine WL.val rfl rfl rfl rfl (r_move rfl (ev_t rfl)) ?_
                           refine WL.val rfl rfl rfl rfl (r_eql rfl (ev_t rfl) ev_c) ?_
                           refine WL.val rfl rfl rfl rfl (r_move rfl (ev_t rfl)) ?_
                           refine WL.cases 59 rfl (fun hb14_2 => ?_) (fun hb14_2 => ?_)
                           · try (exfalso; first | (simp at hb14_2; done) | (simp only [decide_eq_true_eq, decide_eq_false_iff_not, Bool.not_eq_true', Bool.not_eq_false', Bool.not_eq_true, Bool.not_eq_false] at hb14_2; omega) | omega)
                             all_goals
                              try simp only [decide_eq_true_eq, decide_eq_false_iff_not, Bool.not_eq_true', Bool.not_eq_false', Bool.not_eq_true, Bool.not_eq_false, Option.isNone_none, Option.isNone_some, Option.isSome_none, Option.isSome_some, ne_eq, Decidable.not_not] at hb14_2
                              refine WL.skip rfl rfl rfl ?_
                              refine WL.val rfl rfl rfl rfl (r_pickT rfl (ev_t rfl) ev_c) ?_
                              refine WL.nil ?_
                              refine WX.keep [(0, _), (1, _), (5, _), (7, _), (8, _), (61, _)] ⟨rfl, rfl, rfl, rfl, rfl, rfl, trivial⟩ ?_
                              refine WX.next ?_
                              refine WC.cond_true rfl (ev_t rfl) ?_
                              refine WC.exit ?_
                              refine WX.thenExit ?_
                              refine WX.blockHere ?_
                              refine WX.next ?_
                              refine WC.region ?_
                              refine WL.val rfl rfl rfl rfl (r_move rfl (ev_t rfl)) ?_
                              first | refine WL.val rfl rfl rfl rfl (r_addN rfl (ev_t rfl) ev_c (by simp only [inK]; omega)) ?_ | refine WL.val rfl rfl rfl rfl (r_add rfl (ev_t rfl) ev_c) ?_
                              refine WL.val rfl rfl rfl rfl (r_assign rfl (ev_t rfl)) ?_
                              refine WL.nil ?_
                              refine WX.keep [(0, _), (1, _), (5, _), (7, _)] ⟨rfl, rfl, rfl, rfl, trivial⟩ ?_
                              refine WX.meet [(0, _), (1, _), (5, _), (7, _)] ⟨rfl, rfl, rfl, rfl, trivial⟩ ?_
                              exact ⟨l.length - (j + 1), by omega, j + 1, _, by omega, rfl, hU, hs, hRw, (fun k hk => by have := hRl k hk; omega), rfl⟩
                           · try (exfalso; first | (simp at hb14_2; done) | (simp only [decide_eq_true_eq, decide_eq_false_iff_not, Bool.not_eq_true', Bool.not_eq_false', Bool.not_eq_true, Bool.not_eq_false] at hb14_2; omega) | omega)
                             all_goals
                              try simp only [decide_eq_true_eq, decide_eq_false_iff_not, Bool.not_eq_true', Bool.not_eq_false', Bool.not_eq_true, Bool.not_eq_false, Option.isNone_none, Option.isNone_some, Option.isSome_none, Option.isSome_some, ne_eq, Decidable.not_not] at hb14_2
                              refine WL.val rfl rfl rfl rfl (r_move rfl (ev_t rfl)) ?_
                              refine WL.val rfl rfl rfl rfl (r_pickF rfl (ev_t rfl) (ev_t rfl)) ?_
                              refine WL.nil ?_
                              refine WX.keep [(0, _), (1, _), (5, _), (7, _), (8, _), (61, _)] ⟨rfl, rfl, rfl, rfl, rfl, rfl, trivial⟩ ?_
                              refine WX.next ?_
                              refine WC.cond_false rfl (ev_t rfl) ?_
                              refine WC.skip ?_
                              refine WX.next ?_
                              refine WC.seq ?_
                              refine WC.region ?_
                              refine WL.val rfl rfl rfl rfl (r_move rfl (ev_t rfl)) ?_
                              refine WL.val rfl rfl rfl rfl (r_move rfl (ev_t rfl)) ?_
                              refine WL.cons (SO.call (Ask_ok (id := m) (num := 1) hs (lM_tok (by omega) (by omega)) (by omega) (by omega)) rfl body_12 ⟨(ev_t rfl), (ev_t rfl), ev_c, trivial⟩ rfl rfl rfl rfl ?_)
                              obtain ⟨hf1, hf2⟩ := lM_full (id := m) (d := p) (by omega) (by omega) p
                              rw [hf1]
                              rintro v w9 ⟨v10, rfl, hcl, hu9⟩
                              have hs9 := hu9.size
                              replace hU := hU.trans hu9 (by first | exact (fun _ _ h => h) | exact (fun _ _ h => h.elim) | (intro k hl hk; (try simp only [At, New, Grow, From, No] at hk ⊢); omega) | (intro k hl hk; first | (have := hRw k hk; omega) | (simp only [At, New, Grow, From, No] at *; omega)))
                              replace hs := hs.upd hu9 (by first | exact (fun _ _ _ h => h) | (intro k hk hl hS; simp only [At] at hS; subst hS; have := hRl _ hk; omega))
                              refine WL.val rfl rfl rfl rfl (r_move rfl (ev_t rfl)) ?_
                              refine WL.val rfl rfl rfl rfl (r_extract rfl (ev_t rfl) rfl) ?_
                              refine WL.val rfl rfl rfl rfl (r_extract rfl (ev_t rfl) rfl) ?_
                              refine WL.val rfl rfl rfl rfl (r_assign rfl (ev_t rfl)) ?_
                              refine WL.val rfl rfl rfl rfl (r_assign rfl (ev_t rfl)) ?_
                              refine WL.nil ?_
                              refine WX.keep [(0, _), (1, _), (5, _), (7, _), (8, _), (11, _)] ⟨rfl, rfl, rfl, rfl, rfl, rfl, trivial⟩ ?_
                              refine WX.next ?_
                              refine WC.seq ?_
                              refine WC.region ?_
                              refine WL.val rfl rfl rfl rfl (r_move rfl (ev_t rfl)) ?_
                              refine WL.val rfl rfl rfl rfl (r_neq rfl (ev_t rfl) ev_c) ?_
                              refine WL.val rfl rfl rfl rfl (r_move rfl (ev_t rfl)) ?_
                              refine WL.cases 70 rfl (fun hb16_2 => ?_) (fun hb16_2 => ?_)
                              · try (exfalso; first | (simp at hb16_2; done) | (simp only [decide_eq_true_eq, decide_eq_false_iff_not, Bool.not_eq_true', Bool.not_eq_false', Bool.not_eq_true, Bool.not_eq_false] at hb16_2; omega) | omega)
                                all_goals
                                 try simp only [decide_eq_true_eq, decide_eq_false_iff_not, Bool.not_eq_true', Bool.not_eq_false', Bool.not_eq_true, Bool.not_eq_false, Option.isNone_none, Option.isNone_some, Option.isSome_none, Option.isSome_some, ne_eq, Decidable.not_not] at hb16_2
                                 refine WL.skip rfl rfl rfl ?_
                                 refine WL.skip rfl rfl rfl ?_
                                 refine WL.skip rfl rfl rfl ?_
                                 refine WL.skip rfl rfl rfl ?_
                                 refine WL.skip rfl rfl rfl ?_
                                 refine WL.val rfl rfl rfl rfl (r_pickT rfl (ev_t rfl) ev_c) ?_
                                 refine WL.nil ?_
                                 refine WX.keep [(0, _), (1, _), (5, _), (7, _), (76, _)] ⟨rfl, rfl, rfl, rfl, rfl, trivial⟩ ?_
                                 refine WX.next ?_
                                 refine WC.cond_true rfl (ev_t rfl) ?_
                                 refine WC.seq ?_
                                 refine WC.region ?_
                                 refine WL.val rfl rfl rfl rfl (r_assign rfl ev_c) ?_
                                 refine WL.nil ?_
                                 refine WX.keep [(4, _)] ⟨rfl, trivial⟩ ?_
                                 refine WX.next ?_
                                 refine WC.ret ?_
                                 refine WX.blockRet ?_
                                 refine WX.thenRet ?_
                                 refine WX.thenRet ?_
                                 refine WX.blockRet ?_
                                 refine WX.thenRet ?_
                                 refine WX.retE1 rfl rfl ?_
                                 first
                                   | exact ⟨rfl, hU⟩
                                   | exact ⟨by simp [hn9], hU⟩
                              · try (exfalso; first | (simp at hb16_2; done) | (simp only [decide_eq_true_eq, decide_eq_false_iff_not, Bool.not_eq_true', Bool.not_eq_false', Bool.not_eq_true, Bool.not_eq_false] at hb16_2; omega) | omega)
                                all_goals
                                 try simp only [decide_eq_true_eq, decide_eq_false_iff_not, Bool.not_eq_true', Bool.not_eq_false', Bool.not_eq_true, Bool.not_eq_false, Option.isNone_none, Option.isNone_some, Option.isSome_none, Option.isSome_some, ne_eq, Decidable.not_not] at hb16_2
                                 refine WL.val rfl rfl rfl rfl (r_move rfl (ev_t rfl)) ?_
                                 refine WL.val rfl rfl rfl rfl (r_move rfl (ev_t rfl)) ?_
                                 refine WL.val rfl rfl rfl rfl (r_move rfl (ev_t rfl)) ?_
                                 refine WL.cons (SO.call (Put_ok (id := m) (num := 1) hs (lM_tok (by omega) (by omega)) (by omega) (by omega) (hp.upd hU (fun _ _ _ h => h)) (fun h => by rw [hf1] at h; cases h)) rfl body_11 ⟨(ev_t rfl), (ev_t rfl), ev_c, (ev_t rfl), trivial⟩ rfl rfl rfl rfl ?_)
                                 rw [hf2]
                                 clear hs
                                 rintro v w10 ⟨rfl, hs, hu10⟩
                                 have hs10 := hu10.size
                                 replace hU := hU.trans hu10 (by first | exact (fun _ _ h => h) | exact (fun _ _ h => h.elim) | (intro k hl hk; (try simp only [At, New, Grow, From, No] at hk ⊢); omega) | (intro k hl hk; first | (have := hRw k hk; omega) | (simp only [At, New, Grow, From, No] at *; omega)))
                                 replace hRw : ∀ k, Grow R2 w9 w10 k → w.heap.size ≤ k := fun k hk => hk.elim (hRw k) (fun h => by omega)
                                 replace hRl : ∀ k, Grow R2 w9 w10 k → k < w10.heap.size := fun k hk => hk.elim (fun h => by have := hRl k h; omega) (fun h => h.2)
                                 refine WL.val rfl rfl rfl rfl (r_neq rfl (ev_t rfl) ev_c) ?_
                                 refine WL.val rfl rfl rfl rfl (r_pickF rfl (ev_t rfl) (ev_t rfl)) ?_
                                 refine WL.nil ?_
                                 refine WX.keep [(0, _), (1, _), (5, _), (7, _), (76, _)] ⟨rfl, rfl, rfl, rfl, rfl, trivial⟩ ?_
                                 refine WX.next ?_
                                 refine WC.cond rfl (ev_t rfl) (fun hc16 => ?_) (fun hc16 => ?_)
                                 · try (exfalso; first | (simp at hc16; done) | (simp only [decide_eq_true_eq, decide_eq_false_iff_not, Bool.not_eq_true', Bool.not_eq_false', Bool.not_eq_true, Bool.not_eq_false] at hc16; omega) | omega)
                                   all_goals
                                    try simp only [decide_eq_true_eq, decide_eq_false_iff_not, Bool.not_eq_true', Bool.not_eq_false', Bool.not_eq_true, Bool.not_eq_false, Option.isNone_none, Option.isNone_some, Option.isSome_none, Option.isSome_some, ne_eq, Decidable.not_not] at hc16
                                    refine WC.seq ?_
                                    refine WC.region ?_
                                    refine WL.val rfl rfl rfl rfl (r_assign rfl ev_c) ?_
                                    refine WL.nil ?_
                                    refine WX.keep [(4, _)] ⟨rfl, trivial⟩ ?_
                                    refine WX.next ?_
                                    refine WC.ret ?_
                                    refine WX.blockRet ?_
                                    refine WX.thenRet ?_
                                    refine WX.thenRet ?_
                                    refine WX.blockRet ?_
                                    refine WX.thenRet ?_
                                    refine WX.retE1 rfl rfl ?_
                                    first
                                      | exact ⟨rfl, hU⟩
                                      | exact ⟨by simp [hn9], hU⟩
                                 · try (exfalso; first | (simp at hc16; done) | (simp only [decide_eq_true_eq, decide_eq_false_iff_not, Bool.not_eq_true', Bool.not_eq_false', Bool.not_eq_true, Bool.not_eq_false] at hc16; omega) | omega)
                                   all_goals
                                    try simp only [decide_eq_true_eq, decide_eq_false_iff_not, Bool.not_eq_true', Bool.not_eq_false', Bool.not_eq_true, Bool.not_eq_false, Option.isNone_none, Option.isNone_some, Option.isSome_none, Option.isSome_some, ne_eq, Decidable.not_not] at hc16
                                    refine WC.skip ?_
                                    refine WX.blockNormal ?_
                                    refine WX.next ?_
                                    refine WC.region ?_
                                    refine WL.val rfl rfl rfl rfl (r_move rfl (ev_t rfl)) ?_
                                    first | refine WL.val rfl rfl rfl rfl (r_addN rfl (ev_t rfl) ev_c (by simp only [inK]; omega)) ?_ | refine WL.val rfl rfl rfl rfl (r_add rfl (ev_t rfl) ev_c) ?_
                                    refine WL.val rfl rfl rfl rfl (r_assign rfl (ev_t rfl)) ?_
                                    refine WL.nil ?_
                                    refine WX.keep [(0, _), (1, _), (5, _), (7, _)] ⟨rfl, rfl, rfl, rfl, trivial⟩ ?_
                                    refine WX.meet [(0, _), (1, _), (5, _), (7, _)] ⟨rfl, rfl, rfl, rfl, trivial⟩ ?_
                                    exact ⟨l.length - (j + 1), by omega, j + 1, _, by omega, rfl, hU, hs, hRw, (fun k hk => by have := hRl k hk; omega), rfl⟩
                     · try (exfalso; first | (simp at hb13_3; done) | (simp only [decide_eq_true_eq, decide_eq_false_iff_not, Bool.not_eq_true', Bool.not_eq_false', Bool.not_eq_true, Bool.not_eq_false] at hb13_3; omega) | omega)
                       all_goals
                        try simp only [decide_eq_true_eq, decide_eq_false_iff_not, Bool.not_eq_true', Bool.not_eq_false', Bool.not_eq_true, Bool.not_eq_false, Option.isNone_none, Option.isNone_some, Option.isSome_none, Option.isSome_some, ne_eq, Decidable.not_not] at hb13_3
                        refine WL.skip rfl rfl rfl ?_
                        refine WL.skip rfl rfl rfl ?_
                        refine WL.val rfl rfl rfl rfl (r_pickF rfl (ev_t rfl) ev_c) ?_
                        refine WL.val rfl rfl rfl rfl (r_move rfl (ev_t rfl)) ?_
                        refine WL.skip rfl rfl rfl ?_
                        refine WL.skip rfl rfl rfl ?_
                        refine WL.val rfl rfl rfl rfl (r_pickF rfl (ev_t rfl) ev_c) ?_
                        refine WL.val rfl rfl rfl rfl (r_assign rfl (ev_t rfl)) ?_
                        refine WL.nil ?_
                        refine WX.keep [(0, _), (1, _), (5, _), (7, _), (8, _), (9, _)] ⟨rfl, rfl, rfl, rfl, rfl, rfl, trivial⟩ ?_
                        refine WX.next ?_
                        refine WC.seq ?_
                        refine WC.seq ?_
                        refine WC.region ?_
                        refine WL.val rfl rfl rfl rfl (r_move rfl (ev_t rfl)) ?_
                        refine WL.val rfl rfl rfl rfl (r_eql rfl (ev_t rfl) ev_c) ?_
                        refine WL.val rfl rfl rfl rfl (r_move rfl (ev_t rfl)) ?_
                        refine WL.cases 59 rfl (fun hb14_2 => ?_) (fun hb14_2 => ?_)
                        · try (exfalso; first | (simp at hb14_2; done) | (simp only [decide_eq_true_eq, decide_eq_false_iff_not, Bool.not_eq_true', Bool.not_eq_false', Bool.not_eq_true, Bool.not_eq_false] at hb14_2; omega) | omega)
                          all_goals
                           try simp only [decide_eq_true_eq, decide_eq_false_iff_not, Bool.not_eq_true', Bool.not_eq_false', Bool.not_eq_true, Bool.not_eq_false, Option.isNone_none, Option.isNone_some, Option.isSome_none, Option.isSome_some, ne_eq, Decidable.not_not] at hb14_2
                           refine WL.skip rfl rfl rfl ?_
                           refine WL.val rfl rfl rfl rfl (r_pickT rfl (ev_t rfl) ev_c) ?_
                           refine WL.nil ?_
                           refine WX.keep [(0, _), (1, _), (5, _), (7, _), (8, _), (61, _)] ⟨rfl, rfl, rfl, rfl, rfl, rfl, trivial⟩ ?_
                           refine WX.next ?_
                           refine WC.cond_true rfl (ev_t rfl) ?_
                           refine WC.exit ?_
                           refine WX.thenExit ?_
                           refine WX.blockHere ?_
                           refine WX.next ?_
                           refine WC.region ?_
                           refine WL.val rfl rfl rfl rfl (r_move rfl (ev_t rfl)) ?_
                           first | refine WL.val rfl rfl rfl rfl (r_addN rfl (ev_t rfl) ev_c (by simp only [inK]; omega)) ?_ | refine WL.val rfl rfl rfl rfl (r_add rfl (ev_t rfl) ev_c) ?_
                           refine WL.val rfl rfl rfl rfl (r_assign rfl (ev_t rfl)) ?_
                           refine WL.nil ?_
                           refine WX.keep [(0, _), (1, _), (5, _), (7, _)] ⟨rfl, rfl, rfl, rfl, trivial⟩ ?_
                           refine WX.meet [(0, _), (1, _), (5, _), (7, _)] ⟨rfl, rfl, rfl, rfl, trivial⟩ ?_
                           exact ⟨l.length - (j + 1), by omega, j + 1, _, by omega, rfl, hU, hs, hRw, (fun k hk => by have := hRl k hk; omega), rfl⟩
                        · try (exfalso; first | (simp at hb14_2; done) | (simp only [decide_eq_true_eq, decide_eq_false_iff_not, Bool.not_eq_true', Bool.not_eq_false', Bool.not_eq_true, Bool.not_eq_false] at hb14_2; omega) | omega)
                          all_goals
                           try simp only [decide_eq_true_eq, decide_eq_false_iff_not, Bool.not_eq_true', Bool.not_eq_false', Bool.not_eq_true, Bool.not_eq_false, Option.isNone_none, Option.isNone_some, Option.isSome_none, Option.isSome_some, ne_eq, Decidable.not_not] at hb14_2
                           refine WL.val rfl rfl rfl rfl (r_move rfl (ev_t rfl)) ?_
                           refine WL.val rfl rfl rfl rfl (r_pickF rfl (ev_t rfl) (ev_t rfl)) ?_
                           refine WL.nil ?_
                           refine WX.keep [(0, _), (1, _), (5, _), (7, _), (8, _), (61, _)] ⟨rfl, rfl, rfl, rfl, rfl, rfl, trivial⟩ ?_
                           refine WX.next ?_
                           refine WC.cond_false rfl (ev_t rfl) ?_
                           refine WC.skip ?_
                           refine WX.next ?_
                           refine WC.seq ?_
                           refine WC.region ?_
                           refine WL.val rfl rfl rfl rfl (r_move rfl (ev_t rfl)) ?_
                           refine WL.val rfl rfl rfl rfl (r_move rfl (ev_t rfl)) ?_
                           refine WL.cons (SO.call (Ask_ok (id := m) (num := 1) hs (lM_tok (by omega) (by omega)) (by omega) (by omega)) rfl body_12 ⟨(ev_t rfl), (ev_t rfl), ev_c, trivial⟩ rfl rfl rfl rfl ?_)
                           obtain ⟨hf1, hf2⟩ := lM_full (id := m) (d := p) (by omega) (by omega) p
                           rw [hf1]
                           rintro v w11 ⟨v10, rfl, hcl, hu11⟩
                           have hs11 := hu11.size
                           replace hU := hU.trans hu11 (by first | exact (fun _ _ h => h) | exact (fun _ _ h => h.elim) | (intro k hl hk; (try simp only [At, New, Grow, From, No] at hk ⊢); omega) | (intro k hl hk; first | (have := hRw k hk; omega) | (simp only [At, New, Grow, From, No] at *; omega)))
                           replace hs := hs.upd hu11 (by first | exact (fun _ _ _ h => h) | (intro k hk hl hS; simp only [At] at hS; subst hS; have := hRl _ hk; omega))
                           refine WL.val rfl rfl rfl rfl (r_move rfl (ev_t rfl)) ?_
                           refine WL.val rfl rfl rfl rfl (r_extract rfl (ev_t rfl) rfl) ?_
                           refine WL.val rfl rfl rfl rfl (r_extract rfl (ev_t rfl) rfl) ?_
                           refine WL.val rfl rfl rfl rfl (r_assign rfl (ev_t rfl)) ?_
                           refine WL.val rfl rfl rfl rfl (r_assign rfl (ev_t rfl)) ?_
                           refine WL.nil ?_
                           refine WX.keep [(0, _), (1, _), (5, _), (7, _), (8, _), (11, _)] ⟨rfl, rfl, rfl, rfl, rfl, rfl, trivial⟩ ?_
                           refine WX.next ?_
                           refine WC.seq ?_
                           refine WC.region ?_
                           refine WL.val rfl rfl rfl rfl (r_move rfl (ev_t rfl)) ?_
                           refine WL.val rfl rfl rfl rfl (r_neq rfl (ev_t rfl) ev_c) ?_
                           refine WL.val rfl rfl rfl rfl (r_move rfl (ev_t rfl)) ?_
                           refine WL.cases 70 rfl (fun hb16_2 => ?_) (fun hb16_2 => ?_)
                           · try (exfalso; first | (simp at hb16_2; done) | (simp only [decide_eq_true_eq, decide_eq_false_iff_not, Bool.not_eq_true', Bool.not_eq_false', Bool.not_eq_true, Bool.not_eq_false] at hb16_2; omega) | omega)
                             all_goals
                              try simp only [decide_eq_true_eq, decide_eq_false_iff_not, Bool.not_eq_true', Bool.not_eq_false', Bool.not_eq_true, Bool.not_eq_false, Option.isNone_none, Option.isNone_some, Option.isSome_none, Option.isSome_some, ne_eq, Decidable.not_not] at hb16_2
                              refine WL.skip rfl rfl rfl ?_
                              refine WL.skip rfl rfl rfl ?_
                              refine WL.skip rfl rfl rfl ?_
                              refine WL.skip rfl rfl rfl ?_
                              refine WL.skip rfl rfl rfl ?_
                              refine WL.val rfl rfl rfl rfl (r_pickT rfl (ev_t rfl) ev_c) ?_
                              refine WL.nil ?_
                              refine WX.keep [(0, _), (1, _), (5, _), (7, _), (76, _)] ⟨rfl, rfl, rfl, rfl, rfl, trivial⟩ ?_
                              refine WX.next ?_
                              refine WC.cond_true rfl (ev_t rfl) ?_
                              refine WC.seq ?_
                              refine WC.region ?_
                              refine WL.val rfl rfl rfl rfl (r_assign rfl ev_c) ?_
                              refine WL.nil ?_
                              refine WX.keep [(4, _)] ⟨rfl, trivial⟩ ?_
                              refine WX.next ?_
                              refine WC.ret ?_
                              refine WX.blockRet ?_
                              refine WX.thenRet ?_
                              refine WX.thenRet ?_
                              refine WX.blockRet ?_
                              refine WX.thenRet ?_
                              refine WX.retE1 rfl rfl ?_
                              first
                                | exact ⟨rfl, hU⟩
                                | exact ⟨by simp [hn9], hU⟩
                           · try (exfalso; first | (simp at hb16_2; done) | (simp only [decide_eq_true_eq, decide_eq_false_iff_not, Bool.not_eq_true', Bool.not_eq_false', Bool.not_eq_true, Bool.not_eq_false] at hb16_2; omega) | omega)
                             all_goals
                              try simp only [decide_eq_true_eq, decide_eq_false_iff_not, Bool.not_eq_true', Bool.not_eq_false', Bool.not_eq_true, Bool.not_eq_false, Option.isNone_none, Option.isNone_some, Option.isSome_none, Option.isSome_some, ne_eq, Decidable.not_not] at hb16_2
                              refine WL.val rfl rfl rfl rfl (r_move rfl (ev_t rfl)) ?_
                              refine WL.val rfl rfl rfl rfl (r_move rfl (ev_t rfl)) ?_
                              refine WL.val rfl rfl rfl rfl (r_move rfl (ev_t rfl)) ?_
                              refine WL.cons (SO.call (Put_ok (id := m) (num := 1) hs (lM_tok (by omega) (by omega)) (by omega) (by omega) (hp.upd hU (fun _ _ _ h => h)) (fun h => by rw [hf1] at h; cases h)) rfl body_11 ⟨(ev_t rfl), (ev_t rfl), ev_c, (ev_t rfl), trivial⟩ rfl rfl rfl rfl ?_)
                              rw [hf2]
                              clear hs
                              rintro v w12 ⟨rfl, hs, hu12⟩
                              have hs12 := hu12.size
                              replace hU := hU.trans hu12 (by first | exact (fun _ _ h => h) | exact (fun _ _ h => h.elim) | (intro k hl hk; (try simp only [At, New, Grow, From, No] at hk ⊢); omega) | (intro k hl hk; first | (have := hRw k hk; omega) | (simp only [At, New, Grow, From, No] at *; omega)))
                              replace hRw : ∀ k, Grow R2 w11 w12 k → w.heap.size ≤ k := fun k hk => hk.elim (hRw k) (fun h => by omega)
                              replace hRl : ∀ k, Grow R2 w11 w12 k → k < w12.heap.size := fun k hk => hk.elim (fun h => by have := hRl k h; omega) (fun h => h.2)
                              refine WL.val rfl rfl rfl rfl (r_neq rfl (ev_t rfl) ev_c) ?_
                              refine WL.val rfl rfl rfl rfl (r_pickF rfl (ev_t rfl) (ev_t rfl)) ?_
                              refine WL.nil ?_
                              refine WX.keep [(0, _), (1, _), (5, _), (7, _), (76, _)] ⟨rfl, rfl, rfl, rfl, rfl, trivial⟩ ?_
                              refine WX.next ?_
                              refine WC.cond rfl (ev_t rfl) (fun hc16 => ?_) (fun hc16 => ?_)
                              · try (exfalso; first | (simp at hc16; done) | (simp only [decide_eq_true_eq, decide_eq_false_iff_not, Bool.not_eq_true', Bool.not_eq_false', Bool.not_eq_true, Bool.not_eq_false] at hc16; omega) | omega)
                                all_goals
                                 try simp only [decide_eq_true_eq, decide_eq_false_iff_not, Bool.not_eq_true', Bool.not_eq_false', Bool.not_eq_true, Bool.not_eq_false, Option.isNone_none, Option.isNone_some, Option.isSome_none, Option.isSome_some, ne_eq, Decidable.not_not] at hc16
                                 refine WC.seq ?_
                                 refine WC.region ?_
                                 refine WL.val rfl rfl rfl rfl (r_assign rfl ev_c) ?_
                                 refine WL.nil ?_
                                 refine WX.keep [(4, _)] ⟨rfl, trivial⟩ ?_
                                 refine WX.next ?_
                                 refine WC.ret ?_
                                 refine WX.blockRet ?_
                                 refine WX.thenRet ?_
                                 refine WX.thenRet ?_
                                 refine WX.blockRet ?_
                                 refine WX.thenRet ?_
                                 refine WX.retE1 rfl rfl ?_
                                 first
                                   | exact ⟨rfl, hU⟩
                                   | exact ⟨by simp [hn9], hU⟩
                              · try (exfalso; first | (simp at hc16; done) | (simp only [decide_eq_true_eq, decide_eq_false_iff_not, Bool.not_eq_true', Bool.not_eq_false', Bool.not_eq_true, Bool.not_eq_false] at hc16; omega) | omega)
                                all_goals
                                 try simp only [decide_eq_true_eq, decide_eq_false_iff_not, Bool.not_eq_true', Bool.not_eq_false', Bool.not_eq_true, Bool.not_eq_false, Option.isNone_none, Option.isNone_some, Option.isSome_none, Option.isSome_some, ne_eq, Decidable.not_not] at hc16
                                 refine WC.skip ?_
                                 refine WX.blockNormal ?_
                                 refine WX.next ?_
                                 refine WC.region ?_
                                 refine WL.val rfl rfl rfl rfl (r_move rfl (ev_t rfl)) ?_
                                 first | refine WL.val rfl rfl rfl rfl (r_addN rfl (ev_t rfl) ev_c (by simp only [inK]; omega)) ?_ | refine WL.val rfl rfl rfl rfl (r_add rfl (ev_t rfl) ev_c) ?_
                                 refine WL.val rfl rfl rfl rfl (r_assign rfl (ev_t rfl)) ?_
                                 refine WL.nil ?_
                                 refine WX.keep [(0, _), (1, _), (5, _), (7, _)] ⟨rfl, rfl, rfl, rfl, trivial⟩ ?_
                                 refine WX.meet [(0, _), (1, _), (5, _), (7, _)] ⟨rfl, rfl, rfl, rfl, trivial⟩ ?_
                                 exact ⟨l.length - (j + 1), by omega, j + 1, _, by omega, rfl, hU, hs, hRw, (fun k hk => by have := hRl k hk; omega), rfl⟩
                  · try (exfalso; first | (simp at hc10; done) | (simp only [decide_eq_true_eq, decide_eq_false_iff_not, Bool.not_eq_true', Bool.not_eq_false', Bool.not_eq_true, Bool.not_eq_false] at hc10; omega) | omega)
                    all_goals
                     try simp only [decide_eq_true_eq, decide_eq_false_iff_not, Bool.not_eq_true', Bool.not_eq_false', Bool.not_eq_true, Bool.not_eq_false, Option.isNone_none, Option.isNone_some, Option.isSome_none, Option.isSome_some, ne_eq, Decidable.not_not] at hc10
                     refine WC.exit ?_
                     refine WX.thenExit ?_
                     refine WX.thenExit ?_
                     refine WX.blockHere ?_
                     refine WX.next ?_
                     refine WC.seq ?_
                     refine WC.region ?_
                     obtain ⟨L9, hL9, hn9⟩ := lM_last p
                     refine WL.val rfl rfl rfl rfl (r_move rfl (ev_t rfl)) ?_
                     refine WL.cons (SO.call (Put_ok (id := 5000) (num := 2) (data := []) (K := No) (n := 0) hs (lM_tok (by omega) (by omega)) (by omega) (by omega) (Rd.nil _ _ _) (fun _ => .inl (lM_at.2 (by decide)))) rfl body_11 ⟨(ev_t rfl), ev_c, ev_c, ev_c, trivial⟩ rfl rfl rfl rfl ?_)
                     rw [hL9]
                     clear hs
                     rintro v w13 ⟨rfl, hs, hu13⟩
                     have hs13 := hu13.size
                     replace hU := hU.trans hu13 (by first | exact (fun _ _ h => h) | exact (fun _ _ h => h.elim) | (intro k hl hk; (try simp only [At, New, Grow, From, No] at hk ⊢); omega) | (intro k hl hk; first | (have := hRw k hk; omega) | (simp only [At, New, Grow, From, No] at *; omega)))
                     replace hRw : ∀ k, Grow R2 w2 w13 k → w.heap.size ≤ k := fun k hk => hk.elim (hRw k) (fun h => by omega)
                     replace hRl : ∀ k, Grow R2 w2 w13 k → k < w13.heap.size := fun k hk => hk.elim (fun h => by have := hRl k h; omega) (fun h => h.2)
                     refine WL.val rfl rfl rfl rfl (r_eql rfl (ev_t rfl) ev_c) ?_
                     refine WL.val rfl rfl rfl rfl (r_move rfl (ev_t rfl)) ?_
                     refine WL.cases 80 rfl (fun hb18_3 => ?_) (fun hb18_3 => ?_)
                     · try (exfalso; first | (simp at hb18_3; done) | (simp only [decide_eq_true_eq, decide_eq_false_iff_not, Bool.not_eq_true', Bool.not_eq_false', Bool.not_eq_true, Bool.not_eq_false] at hb18_3; omega) | omega)
                       all_goals
                        try simp only [decide_eq_true_eq, decide_eq_false_iff_not, Bool.not_eq_true', Bool.not_eq_false', Bool.not_eq_true, Bool.not_eq_false, Option.isNone_none, Option.isNone_some, Option.isSome_none, Option.isSome_some, ne_eq, Decidable.not_not] at hb18_3
                        refine WL.val rfl rfl rfl rfl (r_move rfl (ev_t rfl)) ?_
                        refine WL.cons (SO.call (Len_ok hs) rfl body_13 ⟨(ev_t rfl), trivial⟩ rfl rfl rfl rfl ?_)
                        rintro v w14 ⟨rfl, hu14⟩
                        have hs14 := hu14.size
                        replace hU := hU.trans hu14 (by first | exact (fun _ _ h => h) | exact (fun _ _ h => h.elim) | (intro k hl hk; (try simp only [At, New, Grow, From, No] at hk ⊢); omega) | (intro k hl hk; first | (have := hRw k hk; omega) | (simp only [At, New, Grow, From, No] at *; omega)))
                        replace hs := hs.upd hu14 (by first | exact (fun _ _ _ h => h) | (intro k hk hl hS; simp only [At] at hS; subst hS; have := hRl _ hk; omega))
                        refine WL.val rfl rfl rfl rfl (r_eql rfl (ev_t rfl) ev_c) ?_
                        refine WL.val rfl rfl rfl rfl (r_pickT rfl (ev_t rfl) (ev_t rfl)) ?_
                        refine WL.val rfl rfl rfl rfl (r_assign rfl (ev_t rfl)) ?_
                        refine WL.nil ?_
                        refine WX.keep [(4, _)] ⟨rfl, trivial⟩ ?_
                        refine WX.next ?_
                        refine WC.ret ?_
                        refine WX.retE1 rfl rfl ?_
                        first
                          | exact ⟨rfl, hU⟩
                          | exact ⟨by simp [hn9], hU⟩
                     · try (exfalso; first | (simp at hb18_3; done) | (simp only [decide_eq_true_eq, decide_eq_false_iff_not, Bool.not_eq_true', Bool.not_eq_false', Bool.not_eq_true, Bool.not_eq_false] at hb18_3; omega) | omega)
                       all_goals
                        try simp only [decide_eq_true_eq, decide_eq_false_iff_not, Bool.not_eq_true', Bool.not_eq_false', Bool.not_eq_true, Bool.not_eq_false, Option.isNone_none, Option.isNone_some, Option.isSome_none, Option.isSome_some, ne_eq, Decidable.not_not] at hb18_3
                        refine WL.skip rfl rfl rfl ?_
                        refine WL.skip rfl rfl rfl ?_
                        refine WL.skip rfl rfl rfl ?_
                        refine WL.val rfl rfl rfl rfl (r_pickF rfl (ev_t rfl) ev_c) ?_
                        refine WL.val rfl rfl rfl rfl (r_assign rfl (ev_t rfl)) ?_
                        refine WL.nil ?_
                        refine WX.keep [(4, _)] ⟨rfl, trivial⟩ ?_
                        refine WX.next ?_
                        refine WC.ret ?_
                        refine WX.retE1 rfl rfl ?_
                        first
                          | exact ⟨rfl, hU⟩
                          | exact ⟨by simp [hn9], hU⟩
end Go.Proofs.Ytipabhbnljadfaa
