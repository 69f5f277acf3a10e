/-
  HeapTwice: collected twice it is as collected once; saved and loaded it is the same.
-/
import Derived.Test.YtdpnnclkkbfihaaDoorHevc
namespace Go.Proofs.YtdpnnclkkbfihaaDoor
open Go
set_option linter.unusedSimpArgs false
set_option linter.unusedVariables false

/-- Collect, with an owned row of roots -/
theorem collectO_ok {w : World} {G Gr R : Nat → Prop} {p : Nat} {A : Option Addr} {c : Nat} {mem st ys : List Nat} {q n g : Nat} {vr vR : Value} (hH : HS w G p A c mem q n) (hn : n + 1 ≤ 1000000000) (hv : Vd mem st)
    (hO : Own w Gr tWord 1 vr ys.length (ys.map Wd)) (hGr : ∀ k, Gr k → k ≠ p ∧ ¬ G k) (hyl : ys.length ≤ 1000000) (hy : ∀ y ∈ ys, y < 18446744073709551616 ∧ (y % 2 = 1 ∨ y / 2 ∈ st))
    (hr : Rd w R vR (rowAt g ys.length).length 1 ((rowAt g ys.length).map ptrV)) (hg : 0 < ys.length → ∃ c, vr = .slice (some ⟨g, 0, none⟩) ys.length c) (hRl : ∀ k, R k → k < w.heap.size) (hRB : ∀ k, R k → k ≠ p ∧ (0 < ys.length → k ≠ g)) :
    Ret Tryd.prog 14 #[.pointer (some ⟨p, 0, none⟩), vR] w fun v w' => ∃ (fin to mv : List Nat) (bt : Nat), Bfs mem 0 (ys.foldl come []) fin ∧ (∀ y ∈ ys, y % 2 = 1 ∨ y / 2 ∈ fin) ∧ PI mem st fin to mv to.length ∧ HS w' (At bt) p (some ⟨bt, 0, none⟩) mem.length to q (n + 1) ∧ w.heap.size ≤ bt ∧
      Own w' Gr tWord 1 vr ys.length ((ys.map (there mem fin)).map Wd) ∧ Upd (fun k => k = p ∨ Gr k) w w' := by
  obtain ⟨g2, A2, c2, hvr, hpos, hro, hbl, hback⟩ := hO.roots
  have hgg : 0 < ys.length → g2 = g := fun h0 => by
    obtain ⟨c3, e1⟩ := hg h0
    obtain ⟨e2, _⟩ := hpos h0
    rw [hvr] at e1
    injection e1 with e1
    rw [e2] at e1
    injection e1 with e1
    injection e1 with e1
  have hrow : rowAt g ys.length = rowAt g2 ys.length := by
    rcases Nat.eq_zero_or_pos ys.length with h0 | h0
    · rw [h0]; rfl
    · rw [hgg h0]
  rw [hrow] at hr
  have hgF : ∀ k o, (k, o) ∈ rowAt g2 ys.length → Gr k ∧ k = g ∧ 0 < ys.length := fun k o ho => by
    obtain ⟨rfl, ho2⟩ := rowAt_mem ho
    obtain ⟨_, e2, _⟩ := hpos (by omega)
    exact ⟨e2, hgg (by omega), by omega⟩
  refine Calls.mono (collect_ok hH hn hv hr (rowAt_nodup _ _) hro hbl (fun e he => (hGr _ (hgF e.1 e.2 he).1).2) (fun k hk o ho => (hRB k hk).2 (hgF k o ho).2.2 (hgF k o ho).2.1) hRl (fun h => (hRB p h).1 rfl) hy (by rw [rowAt_len]; omega)) ?_
  rintro e w' ⟨v, rfl, fin, to, mv, bt, hbfs, ⟨r0, hr0⟩, hPI, hH2, hbt, hro2, hu⟩
  refine ⟨_, rfl, fin, to, mv, bt, hbfs, fun y hy2 => ?_, hPI, hH2, hbt, hback w' _ _ hu (fun h0 k hk hl hS => ?_) hro2, hu.mono fun k hl hk => ?_⟩
  · rcases come_fold_mem (ys := []) (ord := []) hy2 with h | h
    · exact .inl h
    · rw [hr0]; exact .inr (List.mem_append_left _ h)
  · rcases hS with h | ⟨o, ho⟩
    · exact (hGr k hk).1 h
    · have := (hgF k o ho).2.2; omega
  · rcases hk with h | ⟨o, ho⟩
    · exact .inl h
    · exact .inr (hgF k o ho).1
section
variable {P : Program} {o : Oper} {w : World} {x y : Operand} {t : TypeId} {N : Nat} {ops : Array Oper} {Q : Exit → Act → World → Prop} {K : Env → World → Prop} {E : Env}
theorem SO.ownSet1 {F : Nat → Prop} {T : TypeId} {n i c g q : Nat} {A : Option Addr} {ys : List Nat} {z : Nat} (h : Own w F T 1 (.slice A n c) n (ys.map Wd)) (hA : A = some ⟨g, 0, none⟩) (hi : i < n) (hq : q = i) (hop : o.op = .store t x y) (hx : Env.ev E x = .pointer (some ⟨g, q, none⟩)) (hy : Env.ev E y = Wd z) (hz : sizeIs P t 1 = true)
    (hd : o.dst = none) (ho : opsOK E o = true) (hw : wantedE ops E o = some true)
    (k : ∀ w', Upd F w w' → Own w' F T 1 (.slice A n c) n ((ys.set i z).map Wd) → w'.heap.size = w.heap.size → K E w') : SO P N ops Q o K E w := by
  obtain ⟨g', cap, cur, e, hb, hF, hnc, hcm, hcs, htake⟩ := h.open (by omega)
  subst hA hq
  injection e with e1 e2 e3
  injection e1 with e1
  injection e1 with e1 _
  subst e1 e3
  refine SO.store hop hx hy hz hb (by rw [Nat.blt_eq]; omega) rfl hd ho hw fun w' hu hb' hs => k w' (hu.mono fun k _ hk => by simp only [At] at hk; subst hk; exact hF) ?_ hs
  have h2 := Own.shut (sz := 1) (n := n) hb' hF hnc hcm (by rw [Array.size_setIfInBounds]; exact hcs)
  rw [Array.toList_setIfInBounds, List.take_set, htake, ← List.map_set] at h2
  exact h2
end
namespace heapTwice
set_option maxHeartbeats 8000000 in
theorem walk {w : World} {F F2 : Nat → Prop} {v v2 : Value} {l ro : List Nat} (hr : Rd w F v l.length 1 (l.map Wd)) (hF : ∀ k, F k → k < w.heap.size) (hw : ∀ y ∈ l, y < 18446744073709551616)
    (hr2 : Rd w F2 v2 ro.length 1 (ro.map Wd)) (hF2 : ∀ k, F2 k → k < w.heap.size) (hw2 : ∀ y ∈ ro, y < 18446744073709551616) : Ret Tryd.prog 6 #[v, v2] w fun v w' => v = .bool true ∧ Upd No w w' := by
  have hlm := hr.le
  have hlm2 := hr2.le
  obtain ⟨A, c, rfl, hc⟩ := hr.slice_form
  obtain ⟨A2, c2, rfl, hc2⟩ := hr2.slice_form
  generalize hB : w.heap.size = B at *
  refine enterRet (vs := [_, _]) (N := 137) Tryd.func6 rfl rfl rfl ?_
  have hU := Upd.refl No w
  refine WC.keep [(0, _), (1, _)] ⟨rfl, rfl, trivial⟩ ?_
  refine WC.seq ?_
  refine WC.region ?_
  refine WL.val rfl rfl rfl rfl (r_assign rfl ev_c) ?_
  refine WL.nil ?_
  refine WX.keep [(0, _), (1, _)] ⟨rfl, rfl, trivial⟩ ?_
  refine WX.next ?_
  refine WC.seq ?_
  refine WC.seq ?_
  refine WC.region ?_
  refine WL.cons (SO.call (awake_ok) rfl body_9 trivial rfl rfl rfl rfl ?_)
  rintro v w1 ⟨rfl, hu1⟩
  have hs1 := hu1.size
  replace hU := hU.trans hu1 (by first | exact (fun _ _ h => h) | exact (fun _ _ h => h.elim) | (intro k hl hk; (try simp only [At, New, Grow, From, No] at hk ⊢); omega) | (intro k hl hk; first | exact (show False from hk).elim | (simp only [At] at hk; omega) | (have h2 := hGr k hk; omega) | (have h2 := hGs k hk; omega) | (rcases hk with h | h; omega; have h2 := hGs k h; omega)))
  replace hr := hr.upd hu1 (fun k hk hl hS => by have h1 := hF k hk; first | exact (show False from hS).elim | (simp only [At] at hS; omega) | (have h2 := hGr k hS; omega) | (have h2 := hGs k hS; omega) | (rcases hS with h | h; omega; have h2 := hGs k h; omega))
  replace hr2 := hr2.upd hu1 (fun k hk hl hS => by have h1 := hF2 k hk; first | exact (show False from hS).elim | (simp only [At] at hS; omega) | (have h2 := hGr k hS; omega) | (have h2 := hGs k hS; omega) | (rcases hS with h | h; omega; have h2 := hGs k h; omega))
  refine WL.val rfl rfl rfl rfl (r_not rfl (ev_t rfl)) ?_
  refine WL.val rfl rfl rfl rfl (r_move rfl (ev_t rfl)) ?_
  refine WL.cases 19 rfl (fun hb1_2 => ?_) (fun hb1_2 => ?_)
  · try (exfalso; first | (simp at hb1_2; done) | (simp only [decide_eq_true_eq, decide_eq_false_iff_not, Bool.not_eq_true', Bool.not_eq_false', Bool.not_eq_true, Bool.not_eq_false] at hb1_2; omega) | omega)
    all_goals
     try simp only [decide_eq_true_eq, decide_eq_false_iff_not, Bool.not_eq_true', Bool.not_eq_false', Bool.not_eq_true, Bool.not_eq_false, Option.isNone_none, Option.isNone_some, Option.isSome_none, Option.isSome_some, ne_eq, Decidable.not_not] at hb1_2
     refine WL.skip rfl rfl rfl ?_
     refine WL.skip rfl rfl rfl ?_
     refine WL.skip rfl rfl rfl ?_
     refine WL.val rfl rfl rfl rfl (r_pickT rfl (ev_t rfl) ev_c) ?_
     refine WL.val rfl rfl rfl rfl (r_move rfl (ev_t rfl)) ?_
     refine WL.skip rfl rfl rfl ?_
     refine WL.skip rfl rfl rfl ?_
     refine WL.skip rfl rfl rfl ?_
     refine WL.val rfl rfl rfl rfl (r_pickT rfl (ev_t rfl) ev_c) ?_
     refine WL.val rfl rfl rfl rfl (r_move rfl (ev_t rfl)) ?_
     refine WL.skip rfl rfl rfl ?_
     refine WL.skip rfl rfl rfl ?_
     refine WL.skip rfl rfl rfl ?_
     refine WL.val rfl rfl rfl rfl (r_pickT rfl (ev_t rfl) ev_c) ?_
     refine WL.nil ?_
     refine WX.keep [(0, _), (1, _), (33, _)] ⟨rfl, rfl, rfl, trivial⟩ ?_
     refine WX.next ?_
     refine WC.cond_true rfl (ev_t rfl) ?_
     refine WC.seq ?_
     refine WC.region ?_
     refine WL.cons (SO.call (awake_ok) rfl body_9 trivial rfl rfl rfl rfl ?_)
     rintro v w2 ⟨rfl, hu2⟩
     have hs2 := hu2.size
     replace hU := hU.trans hu2 (by first | exact (fun _ _ h => h) | exact (fun _ _ h => h.elim) | (intro k hl hk; (try simp only [At, New, Grow, From, No] at hk ⊢); omega) | (intro k hl hk; first | exact (show False from hk).elim | (simp only [At] at hk; omega) | (have h2 := hGr k hk; omega) | (have h2 := hGs k hk; omega) | (rcases hk with h | h; omega; have h2 := hGs k h; omega)))
     replace hr := hr.upd hu2 (fun k hk hl hS => by have h1 := hF k hk; first | exact (show False from hS).elim | (simp only [At] at hS; omega) | (have h2 := hGr k hS; omega) | (have h2 := hGs k hS; omega) | (rcases hS with h | h; omega; have h2 := hGs k h; omega))
     replace hr2 := hr2.upd hu2 (fun k hk hl hS => by have h1 := hF2 k hk; first | exact (show False from hS).elim | (simp only [At] at hS; omega) | (have h2 := hGr k hS; omega) | (have h2 := hGs k hS; omega) | (rcases hS with h | h; omega; have h2 := hGs k h; omega))
     refine WL.val rfl rfl rfl rfl (r_assign rfl (ev_t rfl)) ?_
     refine WL.nil ?_
     refine WX.keep [(4, _)] ⟨rfl, trivial⟩ ?_
     refine WX.next ?_
     refine WC.ret ?_
     refine WX.thenRet ?_
     refine WX.retE1 rfl rfl ?_
     exact ⟨rfl, hU⟩
  · try (exfalso; first | (simp at hb1_2; done) | (simp only [decide_eq_true_eq, decide_eq_false_iff_not, Bool.not_eq_true', Bool.not_eq_false', Bool.not_eq_true, Bool.not_eq_false] at hb1_2; omega) | omega)
    all_goals
     try simp only [decide_eq_true_eq, decide_eq_false_iff_not, Bool.not_eq_true', Bool.not_eq_false', Bool.not_eq_true, Bool.not_eq_false, Option.isNone_none, Option.isNone_some, Option.isSome_none, Option.isSome_some, ne_eq, Decidable.not_not] at hb1_2
     refine WL.val rfl rfl rfl rfl (r_move rfl (ev_t rfl)) ?_
     refine WL.val rfl rfl rfl rfl (r_lenSlice (ts := #[]) rfl (ev_t rfl) elem_46) ?_
     refine WL.val rfl rfl rfl rfl (r_gtr rfl (ev_t rfl) ev_c) ?_
     refine WL.val rfl rfl rfl rfl (r_pickF rfl (ev_t rfl) (ev_t rfl)) ?_
     refine WL.val rfl rfl rfl rfl (r_move rfl (ev_t rfl)) ?_
     refine WL.cases 24 rfl (fun hb1_7 => ?_) (fun hb1_7 => ?_)
     · try (exfalso; first | (simp at hb1_7; done) | (simp only [decide_eq_true_eq, decide_eq_false_iff_not, Bool.not_eq_true', Bool.not_eq_false', Bool.not_eq_true, Bool.not_eq_false] at hb1_7; omega) | omega)
       all_goals
        try simp only [decide_eq_true_eq, decide_eq_false_iff_not, Bool.not_eq_true', Bool.not_eq_false', Bool.not_eq_true, Bool.not_eq_false, Option.isNone_none, Option.isNone_some, Option.isSome_none, Option.isSome_some, ne_eq, Decidable.not_not] at hb1_7
        refine WL.skip rfl rfl rfl ?_
        refine WL.skip rfl rfl rfl ?_
        refine WL.skip rfl rfl rfl ?_
        refine WL.val rfl rfl rfl rfl (r_pickT rfl (ev_t rfl) ev_c) ?_
        refine WL.val rfl rfl rfl rfl (r_move rfl (ev_t rfl)) ?_
        refine WL.skip rfl rfl rfl ?_
        refine WL.skip rfl rfl rfl ?_
        refine WL.skip rfl rfl rfl ?_
        refine WL.val rfl rfl rfl rfl (r_pickT rfl (ev_t rfl) ev_c) ?_
        refine WL.nil ?_
        refine WX.keep [(0, _), (1, _), (33, _)] ⟨rfl, rfl, rfl, trivial⟩ ?_
        refine WX.next ?_
        refine WC.cond_true rfl (ev_t rfl) ?_
        refine WC.seq ?_
        refine WC.region ?_
        refine WL.cons (SO.call (awake_ok) rfl body_9 trivial rfl rfl rfl rfl ?_)
        rintro v w3 ⟨rfl, hu3⟩
        have hs3 := hu3.size
        replace hU := hU.trans hu3 (by first | exact (fun _ _ h => h) | exact (fun _ _ h => h.elim) | (intro k hl hk; (try simp only [At, New, Grow, From, No] at hk ⊢); omega) | (intro k hl hk; first | exact (show False from hk).elim | (simp only [At] at hk; omega) | (have h2 := hGr k hk; omega) | (have h2 := hGs k hk; omega) | (rcases hk with h | h; omega; have h2 := hGs k h; omega)))
        replace hr := hr.upd hu3 (fun k hk hl hS => by have h1 := hF k hk; first | exact (show False from hS).elim | (simp only [At] at hS; omega) | (have h2 := hGr k hS; omega) | (have h2 := hGs k hS; omega) | (rcases hS with h | h; omega; have h2 := hGs k h; omega))
        replace hr2 := hr2.upd hu3 (fun k hk hl hS => by have h1 := hF2 k hk; first | exact (show False from hS).elim | (simp only [At] at hS; omega) | (have h2 := hGr k hS; omega) | (have h2 := hGs k hS; omega) | (rcases hS with h | h; omega; have h2 := hGs k h; omega))
        refine WL.val rfl rfl rfl rfl (r_assign rfl (ev_t rfl)) ?_
        refine WL.nil ?_
        refine WX.keep [(4, _)] ⟨rfl, trivial⟩ ?_
        refine WX.next ?_
        refine WC.ret ?_
        refine WX.thenRet ?_
        refine WX.retE1 rfl rfl ?_
        exact ⟨rfl, hU⟩
     · try (exfalso; first | (simp at hb1_7; done) | (simp only [decide_eq_true_eq, decide_eq_false_iff_not, Bool.not_eq_true', Bool.not_eq_false', Bool.not_eq_true, Bool.not_eq_false] at hb1_7; omega) | omega)
       all_goals
        try simp only [decide_eq_true_eq, decide_eq_false_iff_not, Bool.not_eq_true', Bool.not_eq_false', Bool.not_eq_true, Bool.not_eq_false, Option.isNone_none, Option.isNone_some, Option.isSome_none, Option.isSome_some, ne_eq, Decidable.not_not] at hb1_7
        refine WL.val rfl rfl rfl rfl (r_move rfl (ev_t rfl)) ?_
        refine WL.val rfl rfl rfl rfl (r_lenSlice (ts := #[]) rfl (ev_t rfl) elem_46) ?_
        refine WL.val rfl rfl rfl rfl (r_gtr rfl (ev_t rfl) ev_c) ?_
        refine WL.val rfl rfl rfl rfl (r_pickF rfl (ev_t rfl) (ev_t rfl)) ?_
        refine WL.val rfl rfl rfl rfl (r_move rfl (ev_t rfl)) ?_
        refine WL.cases 29 rfl (fun hb1_12 => ?_) (fun hb1_12 => ?_)
        · try (exfalso; first | (simp at hb1_12; done) | (simp only [decide_eq_true_eq, decide_eq_false_iff_not, Bool.not_eq_true', Bool.not_eq_false', Bool.not_eq_true, Bool.not_eq_false] at hb1_12; omega) | omega)
          all_goals
           try simp only [decide_eq_true_eq, decide_eq_false_iff_not, Bool.not_eq_true', Bool.not_eq_false', Bool.not_eq_true, Bool.not_eq_false, Option.isNone_none, Option.isNone_some, Option.isSome_none, Option.isSome_some, ne_eq, Decidable.not_not] at hb1_12
           refine WL.skip rfl rfl rfl ?_
           refine WL.skip rfl rfl rfl ?_
           refine WL.skip rfl rfl rfl ?_
           refine WL.val rfl rfl rfl rfl (r_pickT rfl (ev_t rfl) ev_c) ?_
           refine WL.nil ?_
           refine WX.keep [(0, _), (1, _), (33, _)] ⟨rfl, rfl, rfl, trivial⟩ ?_
           refine WX.next ?_
           refine WC.cond_true rfl (ev_t rfl) ?_
           refine WC.seq ?_
           refine WC.region ?_
           refine WL.cons (SO.call (awake_ok) rfl body_9 trivial rfl rfl rfl rfl ?_)
           rintro v w4 ⟨rfl, hu4⟩
           have hs4 := hu4.size
           replace hU := hU.trans hu4 (by first | exact (fun _ _ h => h) | exact (fun _ _ h => h.elim) | (intro k hl hk; (try simp only [At, New, Grow, From, No] at hk ⊢); omega) | (intro k hl hk; first | exact (show False from hk).elim | (simp only [At] at hk; omega) | (have h2 := hGr k hk; omega) | (have h2 := hGs k hk; omega) | (rcases hk with h | h; omega; have h2 := hGs k h; omega)))
           replace hr := hr.upd hu4 (fun k hk hl hS => by have h1 := hF k hk; first | exact (show False from hS).elim | (simp only [At] at hS; omega) | (have h2 := hGr k hS; omega) | (have h2 := hGs k hS; omega) | (rcases hS with h | h; omega; have h2 := hGs k h; omega))
           replace hr2 := hr2.upd hu4 (fun k hk hl hS => by have h1 := hF2 k hk; first | exact (show False from hS).elim | (simp only [At] at hS; omega) | (have h2 := hGr k hS; omega) | (have h2 := hGs k hS; omega) | (rcases hS with h | h; omega; have h2 := hGs k h; omega))
           refine WL.val rfl rfl rfl rfl (r_assign rfl (ev_t rfl)) ?_
           refine WL.nil ?_
           refine WX.keep [(4, _)] ⟨rfl, trivial⟩ ?_
           refine WX.next ?_
           refine WC.ret ?_
           refine WX.thenRet ?_
           refine WX.retE1 rfl rfl ?_
           exact ⟨rfl, hU⟩
        · try (exfalso; first | (simp at hb1_12; done) | (simp only [decide_eq_true_eq, decide_eq_false_iff_not, Bool.not_eq_true', Bool.not_eq_false', Bool.not_eq_true, Bool.not_eq_false] at hb1_12; omega) | omega)
          all_goals
           try simp only [decide_eq_true_eq, decide_eq_false_iff_not, Bool.not_eq_true', Bool.not_eq_false', Bool.not_eq_true, Bool.not_eq_false, Option.isNone_none, Option.isNone_some, Option.isSome_none, Option.isSome_some, ne_eq, Decidable.not_not] at hb1_12
           refine WL.val rfl rfl rfl rfl (r_move rfl (ev_t rfl)) ?_
           refine WL.cons (SO.call (right_ok hr (by omega) (fun k hk => by have := hF k hk; have := hU.size; omega) hw) rfl body_25 ⟨(ev_t rfl), trivial⟩ rfl rfl rfl rfl ?_)
           rintro v w5 ⟨b, rfl, hu5, hb⟩
           have hs5 := hu5.size
           replace hU := hU.trans hu5 (by first | exact (fun _ _ h => h) | exact (fun _ _ h => h.elim) | (intro k hl hk; (try simp only [At, New, Grow, From, No] at hk ⊢); omega) | (intro k hl hk; first | exact (show False from hk).elim | (simp only [At] at hk; omega) | (have h2 := hGr k hk; omega) | (have h2 := hGs k hk; omega) | (rcases hk with h | h; omega; have h2 := hGs k h; omega)))
           replace hr := hr.upd hu5 (fun k hk hl hS => by have h1 := hF k hk; first | exact (show False from hS).elim | (simp only [At] at hS; omega) | (have h2 := hGr k hS; omega) | (have h2 := hGs k hS; omega) | (rcases hS with h | h; omega; have h2 := hGs k h; omega))
           replace hr2 := hr2.upd hu5 (fun k hk hl hS => by have h1 := hF2 k hk; first | exact (show False from hS).elim | (simp only [At] at hS; omega) | (have h2 := hGr k hS; omega) | (have h2 := hGs k hS; omega) | (rcases hS with h | h; omega; have h2 := hGs k h; omega))
           refine WL.val rfl rfl rfl rfl (r_not rfl (ev_t rfl)) ?_
           refine WL.val rfl rfl rfl rfl (r_pickF rfl (ev_t rfl) (ev_t rfl)) ?_
           refine WL.nil ?_
           refine WX.keep [(0, _), (1, _), (33, _)] ⟨rfl, rfl, rfl, trivial⟩ ?_
           refine WX.next ?_
           refine WC.cond rfl (ev_t rfl) (fun hc1 => ?_) (fun hc1 => ?_)
           · try (exfalso; first | (simp at hc1; done) | (simp only [decide_eq_true_eq, decide_eq_false_iff_not, Bool.not_eq_true', Bool.not_eq_false', Bool.not_eq_true, Bool.not_eq_false] at hc1; omega) | omega)
             all_goals
              try simp only [decide_eq_true_eq, decide_eq_false_iff_not, Bool.not_eq_true', Bool.not_eq_false', Bool.not_eq_true, Bool.not_eq_false, Option.isNone_none, Option.isNone_some, Option.isSome_none, Option.isSome_some, ne_eq, Decidable.not_not] at hc1
              refine WC.seq ?_
              refine WC.region ?_
              refine WL.cons (SO.call (awake_ok) rfl body_9 trivial rfl rfl rfl rfl ?_)
              rintro v w6 ⟨rfl, hu6⟩
              have hs6 := hu6.size
              replace hU := hU.trans hu6 (by first | exact (fun _ _ h => h) | exact (fun _ _ h => h.elim) | (intro k hl hk; (try simp only [At, New, Grow, From, No] at hk ⊢); omega) | (intro k hl hk; first | exact (show False from hk).elim | (simp only [At] at hk; omega) | (have h2 := hGr k hk; omega) | (have h2 := hGs k hk; omega) | (rcases hk with h | h; omega; have h2 := hGs k h; omega)))
              replace hr := hr.upd hu6 (fun k hk hl hS => by have h1 := hF k hk; first | exact (show False from hS).elim | (simp only [At] at hS; omega) | (have h2 := hGr k hS; omega) | (have h2 := hGs k hS; omega) | (rcases hS with h | h; omega; have h2 := hGs k h; omega))
              replace hr2 := hr2.upd hu6 (fun k hk hl hS => by have h1 := hF2 k hk; first | exact (show False from hS).elim | (simp only [At] at hS; omega) | (have h2 := hGr k hS; omega) | (have h2 := hGs k hS; omega) | (rcases hS with h | h; omega; have h2 := hGs k h; omega))
              refine WL.val rfl rfl rfl rfl (r_assign rfl (ev_t rfl)) ?_
              refine WL.nil ?_
              refine WX.keep [(4, _)] ⟨rfl, trivial⟩ ?_
              refine WX.next ?_
              refine WC.ret ?_
              refine WX.thenRet ?_
              refine WX.retE1 rfl rfl ?_
              exact ⟨rfl, hU⟩
           · try (exfalso; first | (simp at hc1; done) | (simp only [decide_eq_true_eq, decide_eq_false_iff_not, Bool.not_eq_true', Bool.not_eq_false', Bool.not_eq_true, Bool.not_eq_false] at hc1; omega) | omega)
             all_goals
              try simp only [decide_eq_true_eq, decide_eq_false_iff_not, Bool.not_eq_true', Bool.not_eq_false', Bool.not_eq_true, Bool.not_eq_false, Option.isNone_none, Option.isNone_some, Option.isSome_none, Option.isSome_some, ne_eq, Decidable.not_not] at hc1
              have hb' : b = true := by first | (simpa using hc1) | (simp_all)
              have hl2000 : l.length ≤ 2000 ∧ ro.length ≤ 50 := by omega
              obtain ⟨st, hg⟩ := hb hb'
              have hTl := hg.vd.tile
              refine WC.skip ?_
              refine WX.next ?_
              refine WC.seq ?_
              refine WC.region ?_
              refine WL.val rfl rfl rfl rfl (r_move rfl (ev_t rfl)) ?_
              refine WL.cons (SO.call (back_ok hr (by omega)) rfl body_27 ⟨(ev_t rfl), trivial⟩ rfl rfl rfl rfl ?_)
              rintro v w7 ⟨how, hu7⟩
              have hs7 := hu7.size
              replace hU := hU.trans hu7 (by first | exact (fun _ _ h => h) | exact (fun _ _ h => h.elim) | (intro k hl hk; (try simp only [At, New, Grow, From, No] at hk ⊢); omega) | (intro k hl hk; first | exact (show False from hk).elim | (simp only [At] at hk; omega) | (have h2 := hGr k hk; omega) | (have h2 := hGs k hk; omega) | (rcases hk with h | h; omega; have h2 := hGs k h; omega)))
              replace hr := hr.upd hu7 (fun k hk hl hS => by have h1 := hF k hk; first | exact (show False from hS).elim | (simp only [At] at hS; omega) | (have h2 := hGr k hS; omega) | (have h2 := hGs k hS; omega) | (rcases hS with h | h; omega; have h2 := hGs k h; omega))
              replace hr2 := hr2.upd hu7 (fun k hk hl hS => by have h1 := hF2 k hk; first | exact (show False from hS).elim | (simp only [At] at hS; omega) | (have h2 := hGr k hS; omega) | (have h2 := hGs k hS; omega) | (rcases hS with h | h; omega; have h2 := hGs k h; omega))
              have hsz3 := (hu7).size
              refine WL.cons (SO.call (load_ok (how.rd (by omega)) (by omega) (fun k hk => hk.2) hg) rfl body_26 ⟨ev_c, (ev_t rfl), trivial⟩ rfl rfl rfl rfl ?_)
              rintro v w8 ⟨G, p, A1, c1, rfl, hH, hBp, hGB, hu8⟩
              have hs8 := hu8.size
              replace hU := hU.trans hu8 (by first | exact (fun _ _ h => h) | exact (fun _ _ h => h.elim) | (intro k hl hk; (try simp only [At, New, Grow, From, No] at hk ⊢); omega) | (intro k hl hk; first | exact (show False from hk).elim | (simp only [At] at hk; omega) | (have h2 := hGr k hk; omega) | (have h2 := hGs k hk; omega) | (rcases hk with h | h; omega; have h2 := hGs k h; omega)))
              replace hr := hr.upd hu8 (fun k hk hl hS => by have h1 := hF k hk; first | exact (show False from hS).elim | (simp only [At] at hS; omega) | (have h2 := hGr k hS; omega) | (have h2 := hGs k hS; omega) | (rcases hS with h | h; omega; have h2 := hGs k h; omega))
              replace hr2 := hr2.upd hu8 (fun k hk hl hS => by have h1 := hF2 k hk; first | exact (show False from hS).elim | (simp only [At] at hS; omega) | (have h2 := hGr k hS; omega) | (have h2 := hGs k hS; omega) | (rcases hS with h | h; omega; have h2 := hGs k h; omega))
              have hpB : B ≤ p := by have := hU.size; omega
              refine WL.val rfl rfl rfl rfl (r_move rfl (ev_t rfl)) ?_
              refine WL.val rfl rfl rfl rfl (r_extract rfl (ev_t rfl) rfl) ?_
              refine WL.val rfl rfl rfl rfl (r_extract rfl (ev_t rfl) rfl) ?_
              refine WL.val rfl rfl rfl rfl (r_assign rfl (ev_t rfl)) ?_
              refine WL.val rfl rfl rfl rfl (r_assign rfl (ev_t rfl)) ?_
              refine WL.nil ?_
              refine WX.keep [(0, _), (1, _), (5, _), (6, _)] ⟨rfl, rfl, rfl, rfl, trivial⟩ ?_
              refine WX.next ?_
              refine WC.seq ?_
              refine WC.seq ?_
              refine WC.region ?_
              refine WL.val rfl rfl rfl rfl (r_move rfl (ev_t rfl)) ?_
              refine WL.val rfl rfl rfl rfl (r_neq rfl (ev_t rfl) ev_c) ?_
              refine WL.nil ?_
              refine WX.keep [(0, _), (1, _), (5, _), (42, _)] ⟨rfl, rfl, rfl, rfl, trivial⟩ ?_
              refine WX.next ?_
              refine WC.cond rfl (ev_t rfl) (fun hc4 => ?_) (fun hc4 => ?_)
              · try (exfalso; first | (simp at hc4; done) | (simp only [decide_eq_true_eq, decide_eq_false_iff_not, Bool.not_eq_true', Bool.not_eq_false', Bool.not_eq_true, Bool.not_eq_false] at hc4; omega) | omega)
                all_goals
                 try simp only [decide_eq_true_eq, decide_eq_false_iff_not, Bool.not_eq_true', Bool.not_eq_false', Bool.not_eq_true, Bool.not_eq_false, Option.isNone_none, Option.isNone_some, Option.isSome_none, Option.isSome_some, ne_eq, Decidable.not_not] at hc4
                 refine WC.seq ?_
                 refine WC.region ?_
                 refine WL.val rfl rfl rfl rfl (r_assign rfl ev_c) ?_
                 refine WL.nil ?_
                 refine WX.keep [(4, _)] ⟨rfl, trivial⟩ ?_
                 refine WX.next ?_
                 refine WC.ret ?_
                 refine WX.thenRet ?_
                 refine WX.retE1 rfl rfl ?_
                 refine ⟨?_, hU⟩
                 first
                   | rfl
                   | (simp; done)
                   | trace_state
              · try (exfalso; first | (simp at hc4; done) | (simp only [decide_eq_true_eq, decide_eq_false_iff_not, Bool.not_eq_true', Bool.not_eq_false', Bool.not_eq_true, Bool.not_eq_false] at hc4; omega) | omega)
                all_goals
                 try simp only [decide_eq_true_eq, decide_eq_false_iff_not, Bool.not_eq_true', Bool.not_eq_false', Bool.not_eq_true, Bool.not_eq_false, Option.isNone_none, Option.isNone_some, Option.isSome_none, Option.isSome_some, ne_eq, Decidable.not_not] at hc4
                 refine WC.skip ?_
                 refine WX.next ?_
                 refine WC.seq ?_
                 refine WC.region ?_
                 refine WL.val rfl rfl rfl rfl (r_assign rfl ev_c) ?_
                 refine WL.nil ?_
                 refine WX.keep [(0, _), (1, _), (5, _), (7, _)] ⟨rfl, rfl, rfl, rfl, trivial⟩ ?_
                 refine WX.next ?_
                 refine WC.seq ?_
                 refine WC.seq ?_
                 refine WC.region ?_
                 refine WL.val rfl rfl rfl rfl (r_assign rfl ev_c) ?_
                 refine WL.nil ?_
                 refine WX.keep [(0, _), (1, _), (5, _), (7, _), (8, _)] ⟨rfl, rfl, rfl, rfl, rfl, trivial⟩ ?_
                 refine WX.next ?_
                 refine WC.block ?_
                 -- loop 1: live [0, 1, 5, 7, 8]
                 refine WC.keep [(0, _), (1, _), (5, _), (7, _), (8, _)] ⟨rfl, rfl, rfl, rfl, rfl, trivial⟩ ?_
                 refine WC.loop (fun qq E wC => ∃ (j : Nat) (ys : List Nat) (vr : Value) (Gr : Nat → Prop), j ≤ ro.length ∧ qq = ro.length - j ∧ ys.length = j ∧ (∀ y ∈ ys, y < 18446744073709551616 ∧ y % 2 = 1) ∧ Upd No w wC ∧ Rd wC F (.slice A l.length c) l.length 1 (l.map Wd) ∧ Rd wC F2 (.slice A2 ro.length c2) ro.length 1 (ro.map Wd) ∧ HS wC G p A1 c1 l 5000 0 ∧ Own wC Gr tWord 1 vr j (ys.map Wd) ∧ (∀ k, Gr k → B ≤ k ∧ k ≠ p ∧ ¬ G k) ∧ E = [(0, .slice A l.length c), (1, .slice A2 ro.length c2), (5, .pointer (some ⟨p, 0, none⟩)), (7, vr), (8, .int .i64 (j : Int))]) (ro.length) ?_ ?_
                 · exact ⟨0, [], _, No, by omega, by omega, rfl, fun _ h => (by cases h), hU, hr, hr2, hH, Own.nil _ _ _ _, fun k h => h.elim, rfl⟩
                 · clear hU hr hr2 hH
                   rintro qq E wC ⟨j, ys, vr, Gr, hj, rfl, hyl, hyo, hU, hr, hr2, hH, hO, hGr, rfl⟩
                   have hUs := hU.size
                   have hGl := hH.lt
                   have hpl := hH.hd.lt
                   refine WC.seq ?_
                   refine WC.seq ?_
                   refine WC.region ?_
                   refine WL.val rfl rfl rfl rfl (r_move rfl (ev_t rfl)) ?_
                   refine WL.val rfl rfl rfl rfl (r_move rfl (ev_t rfl)) ?_
                   refine WL.val rfl rfl rfl rfl (r_lenSlice (ts := #[]) rfl (ev_t rfl) elem_46) ?_
                   refine WL.val rfl rfl rfl rfl (r_lss rfl (ev_t rfl) (ev_t rfl)) ?_
                   refine WL.nil ?_
                   refine WX.keep [(0, _), (1, _), (5, _), (7, _), (8, _), (46, _)] ⟨rfl, rfl, rfl, rfl, rfl, rfl, trivial⟩ ?_
                   refine WX.next ?_
                   refine WC.cond rfl (ev_t rfl) (fun hc8 => ?_) (fun hc8 => ?_)
                   · try (exfalso; first | (simp at hc8; done) | (simp only [decide_eq_true_eq, decide_eq_false_iff_not, Bool.not_eq_true', Bool.not_eq_false', Bool.not_eq_true, Bool.not_eq_false] at hc8; omega) | omega)
                     all_goals
                      try simp only [decide_eq_true_eq, decide_eq_false_iff_not, Bool.not_eq_true', Bool.not_eq_false', Bool.not_eq_true, Bool.not_eq_false, Option.isNone_none, Option.isNone_some, Option.isSome_none, Option.isSome_some, ne_eq, Decidable.not_not] at hc8
                      have hjl : j < ro.length := by omega
                      obtain ⟨b1, off1, rfl, _⟩ := hr2.open (by omega)
                      obtain ⟨x, hxj⟩ : ∃ x, ro[j]? = some x := ⟨_, List.getElem?_eq_getElem hjl⟩
                      refine WC.skip ?_
                      refine WX.next ?_
                      refine WC.seq ?_
                      refine WC.block ?_
                      refine WC.region ?_
                      refine WL.val rfl rfl rfl rfl (r_move rfl (ev_t rfl)) ?_
                      refine WL.val rfl rfl rfl rfl (r_move rfl (ev_t rfl)) ?_
                      refine WL.val rfl rfl rfl rfl (r_move rfl (ev_t rfl)) ?_
                      refine WL.val rfl rfl rfl rfl (r_indexAddr rfl (ev_t rfl) (ev_t rfl) elem_46 size_31 (by omega) (by omega)) ?_
                      refine WL.val rfl rfl rfl rfl (r_load rfl (ev_t rfl) flat_31 (hr2.cell (j := j) (u := Wd x) (show off1 + (j : Int).toNat * 1 = off1 + j by omega) (by rw [List.getElem?_map, hxj]; rfl))) ?_
                      first | refine WL.val rfl rfl rfl rfl (r_convN rfl (ev_t rfl) some_31 int_2 (by simp only [inK]; omega)) ?_ | refine WL.val rfl rfl rfl rfl (r_conv rfl (ev_t rfl) some_31 int_2) ?_
                      refine WL.cons (SO.call (num_ok) rfl body_17 ⟨(ev_t rfl), trivial⟩ rfl rfl rfl rfl ?_)
                      rintro v w9 ⟨rfl, rfl⟩
                      generalize hzz : numW (IntKind.i64.wrap (x : Int)) = z at *
                      have hz1 : z < 18446744073709551616 ∧ z % 2 = 1 := by rw [← hzz]; exact ⟨numW_lt _, numW_odd _⟩
                      refine WL.cons (SO.alloc rfl rfl rfl rfl (r_buildSlice1 (vs := [_]) rfl ⟨(ev_t rfl), trivial⟩ rfl row_30 rfl rfl) ?_)
                      intro w10 hu10 hB10 hz10
                      have hs10 := hu10.size
                      replace hU := hU.trans hu10 (by first | exact (fun _ _ h => h) | exact (fun _ _ h => h.elim) | (intro k hl hk; (try simp only [At, New, Grow, From, No] at hk ⊢); omega) | (intro k hl hk; first | exact (show False from hk).elim | (simp only [At] at hk; omega) | (have h2 := hGr k hk; omega) | (have h2 := hGs k hk; omega) | (rcases hk with h | h; omega; have h2 := hGs k h; omega)))
                      replace hr := hr.upd hu10 (fun k hk hl hS => by have h1 := hF k hk; first | exact (show False from hS).elim | (simp only [At] at hS; omega) | (have h2 := hGr k hS; omega) | (have h2 := hGs k hS; omega) | (rcases hS with h | h; omega; have h2 := hGs k h; omega))
                      replace hr2 := hr2.upd hu10 (fun k hk hl hS => by have h1 := hF2 k hk; first | exact (show False from hS).elim | (simp only [At] at hS; omega) | (have h2 := hGr k hS; omega) | (have h2 := hGs k hS; omega) | (rcases hS with h | h; omega; have h2 := hGs k h; omega))
                      replace hH := hH.upd hu10 (fun k hk hl hS => by first | exact (show False from hS).elim | (have h2 := hGr k hS; rcases hk with hk | hk; exact h2.2.1 hk; exact h2.2.2 hk) | (have h2 := hGs k hS; rcases hk with hk | hk; exact h2.2.1 hk; exact h2.2.2.1 hk) | (simp only [At] at hS; rcases hk with hk | hk; omega; have := hGl k hk; omega))
                      replace hO := hO.upd hu10 (fun k hk hl hS => by first | exact (show False from hS).elim | (simp only [At] at hS; have := hGs k hk; omega) | (have := hGs k hk; have := hGl k hS; omega))
                      refine WL.cons (SO.append hO (show Rd _ _ _ 1 1 [Wd z] from Rd.of_blk (F := At _) (n := 1) (sz := 1) hB10 rfl rfl (by omega)) row_30 (fun u hu => by simp at hu; subst hu; rfl) (le_maxLen (by omega)) (by omega) rfl (ev_t rfl) (ev_t rfl) rfl rfl rfl rfl ?_)
                      intro v11 w11 hO hu11
                      have hs11 := hu11.size
                      replace hU := hU.trans hu11 (by first | exact (fun _ _ h => h) | exact (fun _ _ h => h.elim) | (intro k hl hk; (try simp only [At, New, Grow, From, No] at hk ⊢); omega) | (intro k hl hk; first | exact (show False from hk).elim | (simp only [At] at hk; omega) | (have h2 := hGr k hk; omega) | (have h2 := hGs k hk; omega) | (rcases hk with h | h; omega; have h2 := hGs k h; omega)))
                      replace hr := hr.upd hu11 (fun k hk hl hS => by have h1 := hF k hk; first | exact (show False from hS).elim | (simp only [At] at hS; omega) | (have h2 := hGr k hS; omega) | (have h2 := hGs k hS; omega) | (rcases hS with h | h; omega; have h2 := hGs k h; omega))
                      replace hr2 := hr2.upd hu11 (fun k hk hl hS => by have h1 := hF2 k hk; first | exact (show False from hS).elim | (simp only [At] at hS; omega) | (have h2 := hGr k hS; omega) | (have h2 := hGs k hS; omega) | (rcases hS with h | h; omega; have h2 := hGs k h; omega))
                      replace hH := hH.upd hu11 (fun k hk hl hS => by first | exact (show False from hS).elim | (have h2 := hGr k hS; rcases hk with hk | hk; exact h2.2.1 hk; exact h2.2.2 hk) | (have h2 := hGs k hS; rcases hk with hk | hk; exact h2.2.1 hk; exact h2.2.2.1 hk) | (simp only [At] at hS; rcases hk with hk | hk; omega; have := hGl k hk; omega))
                      obtain ⟨A11, c11, rfl, hc11⟩ := Own.form hO
                      refine WL.val rfl rfl rfl rfl (r_assign rfl (ev_t rfl)) ?_
                      refine WL.nil ?_
                      refine WX.keep [(0, _), (1, _), (5, _), (7, _), (8, _)] ⟨rfl, rfl, rfl, rfl, rfl, trivial⟩ ?_
                      refine WX.blockNormal ?_
                      refine WX.next ?_
                      refine WC.region ?_
                      refine WL.val rfl rfl rfl rfl (r_move rfl (ev_t rfl)) ?_
                      first | refine WL.val rfl rfl rfl rfl (r_addN rfl (ev_t rfl) ev_c (by simp only [inK]; omega)) ?_ | refine WL.val rfl rfl rfl rfl (r_add rfl (ev_t rfl) ev_c) ?_
                      refine WL.val rfl rfl rfl rfl (r_assign rfl (ev_t rfl)) ?_
                      refine WL.nil ?_
                      refine WX.keep [(0, _), (1, _), (5, _), (7, _), (8, _)] ⟨rfl, rfl, rfl, rfl, rfl, trivial⟩ ?_
                      refine WX.meet [(0, _), (1, _), (5, _), (7, _), (8, _)] ⟨rfl, rfl, rfl, rfl, rfl, trivial⟩ ?_
                      rw [show ys.map Wd ++ [Wd z] = (ys ++ [z]).map Wd by simp] at hO
                      have hs9 := (hu11).size
                      refine ⟨ro.length - (j + 1), by omega, j + 1, ys ++ [z], _, _, by omega, rfl, by simp [hyl], ?_, hU, hr, hr2, hH, hO, ?_, rfl⟩
                      · intro y hy
                        rcases List.mem_append.1 hy with hy | hy
                        · exact hyo y hy
                        · simp at hy; subst hy; exact hz1
                      · intro k hk
                        rcases hk with hk | hk
                        · exact hGr k hk
                        · exact ⟨by omega, by omega, fun h => by have := hGl k h; omega⟩
                   · try (exfalso; first | (simp at hc8; done) | (simp only [decide_eq_true_eq, decide_eq_false_iff_not, Bool.not_eq_true', Bool.not_eq_false', Bool.not_eq_true, Bool.not_eq_false] at hc8; omega) | omega)
                     all_goals
                      try simp only [decide_eq_true_eq, decide_eq_false_iff_not, Bool.not_eq_true', Bool.not_eq_false', Bool.not_eq_true, Bool.not_eq_false, Option.isNone_none, Option.isNone_some, Option.isSome_none, Option.isSome_some, ne_eq, Decidable.not_not] at hc8
                      refine WC.exit ?_
                      refine WX.thenExit ?_
                      refine WX.thenExit ?_
                      refine WX.blockHere ?_
                      refine WX.next ?_
                      refine WC.seq ?_
                      obtain rfl : j = ro.length := by omega
                      obtain ⟨Ar, cr, rfl, hcr⟩ := hO.form
                      replace hO := hO.bound
                      obtain ⟨z1, hz1⟩ : ∃ z, z = wC.heap.size := ⟨_, rfl⟩
                      rw [← hz1] at hO
                      generalize hGe : (fun k => Gr k ∧ k < z1) = Gs at hO
                      have hGs : ∀ k, Gs k → B ≤ k ∧ k ≠ p ∧ ¬ G k ∧ k < z1 := by subst hGe; exact fun k h => ⟨(hGr k h.1).1, (hGr k h.1).2.1, (hGr k h.1).2.2, h.2⟩
                      clear hGe
                      refine WC.region ?_
                      refine WL.val rfl rfl rfl rfl (r_assign rfl ev_c) ?_
                      refine WL.nil ?_
                      refine WX.keep [(0, _), (1, _), (5, _), (7, _), (9, _)] ⟨rfl, rfl, rfl, rfl, rfl, trivial⟩ ?_
                      refine WX.next ?_
                      refine WC.seq ?_
                      refine WC.seq ?_
                      refine WC.region ?_
                      refine WL.val rfl rfl rfl rfl (r_assign rfl ev_c) ?_
                      refine WL.nil ?_
                      refine WX.keep [(0, _), (1, _), (5, _), (7, _), (9, _), (10, _)] ⟨rfl, rfl, rfl, rfl, rfl, rfl, trivial⟩ ?_
                      refine WX.next ?_
                      refine WC.block ?_
                      -- loop 2: live [0, 1, 5, 7, 9, 10]
                      refine WC.keep [(0, _), (1, _), (5, _), (7, _), (9, _), (10, _)] ⟨rfl, rfl, rfl, rfl, rfl, rfl, trivial⟩ ?_
                      refine WC.loop (fun qq E wC => ∃ (m k : Nat) (ys : List Nat), m ≤ l.length ∧ qq = l.length - m ∧ Tile l m (st.drop k) ∧ ys.length = ro.length ∧ (∀ y ∈ ys, y < 18446744073709551616 ∧ (y % 2 = 1 ∨ y / 2 ∈ st)) ∧ Upd No w wC ∧ Rd wC F (.slice A l.length c) l.length 1 (l.map Wd) ∧ Rd wC F2 (.slice A2 ro.length c2) ro.length 1 (ro.map Wd) ∧ HS wC G p A1 c1 l 5000 0 ∧ Own wC Gs tWord 1 (.slice Ar ro.length cr) ro.length (ys.map Wd) ∧ z1 ≤ wC.heap.size ∧ k ≤ l.length ∧ k ≤ m ∧ E = [(0, .slice A l.length c), (1, .slice A2 ro.length c2), (5, .pointer (some ⟨p, 0, none⟩)), (7, .slice Ar ro.length cr), (9, .int .i64 (m : Int)), (10, .int .i64 (k : Int))]) (l.length) ?_ ?_
                      · exact ⟨0, 0, ys, by omega, by omega, hTl, hyl, fun y hy => ⟨(hyo y hy).1, .inl (hyo y hy).2⟩, hU, hr, hr2, hH, hO, by omega, by omega, by omega, rfl⟩
                      · clear hU hr hr2 hH hO hyo hyl
                        rintro qq E wC ⟨m, k, ys, hm, rfl, hTm, hyl, hyo, hU, hr, hr2, hH, hO, hzl, hkl, hkm, rfl⟩
                        have hUs := hU.size
                        have hGl := hH.lt
                        have hpl := hH.hd.lt
                        refine WC.seq ?_
                        refine WC.seq ?_
                        refine WC.region ?_
                        refine WL.val rfl rfl rfl rfl (r_move rfl (ev_t rfl)) ?_
                        refine WL.val rfl rfl rfl rfl (r_move rfl (ev_t rfl)) ?_
                        refine WL.val rfl rfl rfl rfl (r_lenSlice (ts := #[]) rfl (ev_t rfl) elem_46) ?_
                        refine WL.val rfl rfl rfl rfl (r_lss rfl (ev_t rfl) (ev_t rfl)) ?_
                        refine WL.nil ?_
                        refine WX.keep [(0, _), (1, _), (5, _), (7, _), (9, _), (10, _), (61, _)] ⟨rfl, rfl, rfl, rfl, rfl, rfl, rfl, trivial⟩ ?_
                        refine WX.next ?_
                        refine WC.cond rfl (ev_t rfl) (fun hc13 => ?_) (fun hc13 => ?_)
                        · try (exfalso; first | (simp at hc13; done) | (simp only [decide_eq_true_eq, decide_eq_false_iff_not, Bool.not_eq_true', Bool.not_eq_false', Bool.not_eq_true, Bool.not_eq_false] at hc13; omega) | omega)
                          all_goals
                           try simp only [decide_eq_true_eq, decide_eq_false_iff_not, Bool.not_eq_true', Bool.not_eq_false', Bool.not_eq_true, Bool.not_eq_false, Option.isNone_none, Option.isNone_some, Option.isSome_none, Option.isSome_some, ne_eq, Decidable.not_not] at hc13
                           have hml : m < l.length := by omega
                           obtain ⟨rest, hdr, g1, hTn⟩ := hTm.head_ hml
                           have hk : st[k]? = some m := by rw [← List.head?_drop, hdr]; rfl
                           have hdr2 : st.drop (k + 1) = rest := by rw [← List.tail_drop, hdr]; rfl
                           have hms : m ∈ st := List.mem_of_getElem? hk
                           have hszp := szAt_pos l m
                           refine WC.skip ?_
                           refine WX.next ?_
                           refine WC.seq ?_
                           refine WC.block ?_
                           refine WC.seq ?_
                           refine WC.region ?_
                           refine WL.val rfl rfl rfl rfl (r_move rfl (ev_t rfl)) ?_
                           refine WL.val rfl rfl rfl rfl (r_move rfl (ev_t rfl)) ?_
                           refine WL.cons (SO.call (at9_ok hr (by omega) (by omega) (fun k hk => by have := hF k hk; have := hU.size; omega) hw) rfl body_28 ⟨(ev_t rfl), (ev_t rfl), trivial⟩ rfl rfl rfl rfl ?_)
                           rintro v w12 ⟨kd, n9, vP, ps, s9, rfl, hP, hu12, hres⟩
                           obtain ⟨AP, cP, rfl, _⟩ := hP.form
                           have hs12 := hu12.size
                           replace hU := hU.trans hu12 (by first | exact (fun _ _ h => h) | exact (fun _ _ h => h.elim) | (intro k hl hk; (try simp only [At, New, Grow, From, No] at hk ⊢); omega) | (intro k hl hk; first | exact (show False from hk).elim | (simp only [At] at hk; omega) | (have h2 := hGr k hk; omega) | (have h2 := hGs k hk; omega) | (rcases hk with h | h; omega; have h2 := hGs k h; omega)))
                           replace hr := hr.upd hu12 (fun k hk hl hS => by have h1 := hF k hk; first | exact (show False from hS).elim | (simp only [At] at hS; omega) | (have h2 := hGr k hS; omega) | (have h2 := hGs k hS; omega) | (rcases hS with h | h; omega; have h2 := hGs k h; omega))
                           replace hr2 := hr2.upd hu12 (fun k hk hl hS => by have h1 := hF2 k hk; first | exact (show False from hS).elim | (simp only [At] at hS; omega) | (have h2 := hGr k hS; omega) | (have h2 := hGs k hS; omega) | (rcases hS with h | h; omega; have h2 := hGs k h; omega))
                           replace hH := hH.upd hu12 (fun k hk hl hS => by first | exact (show False from hS).elim | (have h2 := hGr k hS; rcases hk with hk | hk; exact h2.2.1 hk; exact h2.2.2 hk) | (have h2 := hGs k hS; rcases hk with hk | hk; exact h2.2.1 hk; exact h2.2.2.1 hk) | (simp only [At] at hS; rcases hk with hk | hk; omega; have := hGl k hk; omega))
                           replace hO := hO.upd hu12 (fun k hk hl hS => by first | exact (show False from hS).elim | (simp only [At] at hS; have := hGs k hk; omega) | (have := hGs k hk; have := hGl k hS; omega))
                           have hval : validAt l m := ⟨hml, (hg.kd m hms).1, (hg.kd m hms).2, hg.n8 hms, g1⟩
                           have hv9 : n9 = szAt l m := by
                             rcases hres with ⟨h, _⟩ | ⟨h1, h2, _⟩
                             · exact absurd hval h
                             · exact h2
                           subst hv9
                           refine WL.val rfl rfl rfl rfl (r_move rfl (ev_t rfl)) ?_
                           refine WL.val rfl rfl rfl rfl (r_extract rfl (ev_t rfl) rfl) ?_
                           refine WL.val rfl rfl rfl rfl (r_extract rfl (ev_t rfl) rfl) ?_
                           refine WL.cons (SO.alloc rfl rfl rfl rfl (r_alloc rfl zero_56) ?_)
                           intro w13 hu13 hB13 hz13
                           have hs13 := hu13.size
                           replace hU := hU.trans hu13 (by first | exact (fun _ _ h => h) | exact (fun _ _ h => h.elim) | (intro k hl hk; (try simp only [At, New, Grow, From, No] at hk ⊢); omega) | (intro k hl hk; first | exact (show False from hk).elim | (simp only [At] at hk; omega) | (have h2 := hGr k hk; omega) | (have h2 := hGs k hk; omega) | (rcases hk with h | h; omega; have h2 := hGs k h; omega)))
                           replace hr := hr.upd hu13 (fun k hk hl hS => by have h1 := hF k hk; first | exact (show False from hS).elim | (simp only [At] at hS; omega) | (have h2 := hGr k hS; omega) | (have h2 := hGs k hS; omega) | (rcases hS with h | h; omega; have h2 := hGs k h; omega))
                           replace hr2 := hr2.upd hu13 (fun k hk hl hS => by have h1 := hF2 k hk; first | exact (show False from hS).elim | (simp only [At] at hS; omega) | (have h2 := hGr k hS; omega) | (have h2 := hGs k hS; omega) | (rcases hS with h | h; omega; have h2 := hGs k h; omega))
                           replace hH := hH.upd hu13 (fun k hk hl hS => by first | exact (show False from hS).elim | (have h2 := hGr k hS; rcases hk with hk | hk; exact h2.2.1 hk; exact h2.2.2 hk) | (have h2 := hGs k hS; rcases hk with hk | hk; exact h2.2.1 hk; exact h2.2.2.1 hk) | (simp only [At] at hS; rcases hk with hk | hk; omega; have := hGl k hk; omega))
                           replace hO := hO.upd hu13 (fun k hk hl hS => by first | exact (show False from hS).elim | (simp only [At] at hS; have := hGs k hk; omega) | (have := hGs k hk; have := hGl k hS; omega))
                           refine WL.cons (SO.storeAll (us := [_, _, _]) rfl (ev_t rfl) (ev_t rfl) size_56 hB13 rfl rfl rfl rfl rfl ?_)
                           intro w14 hu14 hB13 hz14
                           have hs14 := hu14.size
                           replace hU := hU.trans hu14 (by first | exact (fun _ _ h => h) | exact (fun _ _ h => h.elim) | (intro k hl hk; (try simp only [At, New, Grow, From, No] at hk ⊢); omega) | (intro k hl hk; first | exact (show False from hk).elim | (simp only [At] at hk; omega) | (have h2 := hGr k hk; omega) | (have h2 := hGs k hk; omega) | (rcases hk with h | h; omega; have h2 := hGs k h; omega)))
                           replace hr := hr.upd hu14 (fun k hk hl hS => by have h1 := hF k hk; first | exact (show False from hS).elim | (simp only [At] at hS; omega) | (have h2 := hGr k hS; omega) | (have h2 := hGs k hS; omega) | (rcases hS with h | h; omega; have h2 := hGs k h; omega))
                           replace hr2 := hr2.upd hu14 (fun k hk hl hS => by have h1 := hF2 k hk; first | exact (show False from hS).elim | (simp only [At] at hS; omega) | (have h2 := hGr k hS; omega) | (have h2 := hGs k hS; omega) | (rcases hS with h | h; omega; have h2 := hGs k h; omega))
                           replace hH := hH.upd hu14 (fun k hk hl hS => by first | exact (show False from hS).elim | (have h2 := hGr k hS; rcases hk with hk | hk; exact h2.2.1 hk; exact h2.2.2 hk) | (have h2 := hGs k hS; rcases hk with hk | hk; exact h2.2.1 hk; exact h2.2.2.1 hk) | (simp only [At] at hS; rcases hk with hk | hk; omega; have := hGl k hk; omega))
                           replace hO := hO.upd hu14 (fun k hk hl hS => by first | exact (show False from hS).elim | (simp only [At] at hS; have := hGs k hk; omega) | (have := hGs k hk; have := hGl k hS; omega))
                           refine WL.val rfl rfl rfl rfl (r_assign rfl (ev_t rfl)) ?_
                           refine WL.nil ?_
                           refine WX.keep [(0, _), (1, _), (5, _), (7, _), (9, _), (10, _), (12, _)] ⟨rfl, rfl, rfl, rfl, rfl, rfl, rfl, trivial⟩ ?_
                           refine WX.next ?_
                           refine WC.seq ?_
                           refine WC.seq ?_
                           refine WC.region ?_
                           refine WL.val rfl rfl rfl rfl (r_move rfl (ev_t rfl)) ?_
                           refine WL.val rfl rfl rfl rfl (r_move rfl (ev_t rfl)) ?_
                           refine WL.val rfl rfl rfl rfl (r_lenSlice (ts := #[]) rfl (ev_t rfl) elem_46) ?_
                           refine WL.val rfl rfl rfl rfl (r_lss rfl (ev_t rfl) (ev_t rfl)) ?_
                           refine WL.val rfl rfl rfl rfl (r_move rfl (ev_t rfl)) ?_
                           refine WL.cases 74 rfl (fun hb16_4 => ?_) (fun hb16_4 => ?_)
                           · try (exfalso; first | (simp at hb16_4; done) | (simp only [decide_eq_true_eq, decide_eq_false_iff_not, Bool.not_eq_true', Bool.not_eq_false', Bool.not_eq_true, Bool.not_eq_false] at hb16_4; omega) | omega)
                             all_goals
                              try simp only [decide_eq_true_eq, decide_eq_false_iff_not, Bool.not_eq_true', Bool.not_eq_false', Bool.not_eq_true, Bool.not_eq_false, Option.isNone_none, Option.isNone_some, Option.isSome_none, Option.isSome_some, ne_eq, Decidable.not_not] at hb16_4
                              obtain ⟨b1, off1, rfl, _⟩ := hr2.open (by omega)
                              obtain ⟨x, hxk⟩ : ∃ x, ro[k]? = some x := ⟨_, List.getElem?_eq_getElem (by omega)⟩
                              have hx64 := hw2 x (List.mem_of_getElem? hxk)
                              refine WL.val rfl rfl rfl rfl (r_move rfl (ev_t rfl)) ?_
                              refine WL.val rfl rfl rfl rfl (r_move rfl (ev_t rfl)) ?_
                              refine WL.val rfl rfl rfl rfl (r_indexAddr rfl (ev_t rfl) (ev_t rfl) elem_46 size_31 (by omega) (by omega)) ?_
                              refine WL.val rfl rfl rfl rfl (r_load rfl (ev_t rfl) flat_31 (hr2.cell (j := k) (u := Wd x) (show off1 + (k : Int).toNat * 1 = off1 + k by omega) (by rw [List.getElem?_map, hxk]; rfl))) ?_
                              first | refine WL.val rfl rfl rfl rfl (r_remN rfl (ev_t rfl) ev_c (by omega) (by omega)) ?_ | refine WL.val rfl rfl rfl rfl (r_rem rfl (ev_t rfl) ev_c (by omega)) ?_
                              refine WL.val rfl rfl rfl rfl (r_eql rfl (ev_t rfl) ev_c) ?_
                              refine WL.val rfl rfl rfl rfl (r_pickT rfl (ev_t rfl) (ev_t rfl)) ?_
                              refine WL.nil ?_
                              refine WX.keep [(0, _), (1, _), (5, _), (7, _), (9, _), (10, _), (12, _), (81, _)] ⟨rfl, rfl, rfl, rfl, rfl, rfl, rfl, rfl, trivial⟩ ?_
                              refine WX.next ?_
                              refine WC.cond rfl (ev_t rfl) (fun hc16 => ?_) (fun hc16 => ?_)
                              · try (exfalso; first | (simp at hc16; done) | (simp only [decide_eq_true_eq, decide_eq_false_iff_not, Bool.not_eq_true', Bool.not_eq_false', Bool.not_eq_true, Bool.not_eq_false] at hc16; omega) | omega)
                                all_goals
                                 try simp only [decide_eq_true_eq, decide_eq_false_iff_not, Bool.not_eq_true', Bool.not_eq_false', Bool.not_eq_true, Bool.not_eq_false, Option.isNone_none, Option.isNone_some, Option.isSome_none, Option.isSome_some, ne_eq, Decidable.not_not] at hc16
                                 have hkr : k < ro.length := by first | omega | (simp_all; omega)
                                 obtain ⟨gr, capr, curr, hO9, _⟩ := hO.open (by omega)
                                 injection hO9 with hO9
                                 subst hO9
                                 refine WC.region ?_
                                 refine WL.val rfl rfl rfl rfl (r_move rfl (ev_t rfl)) ?_
                                 refine WL.val rfl rfl rfl rfl (r_move rfl (ev_t rfl)) ?_
                                 refine WL.val rfl rfl rfl rfl (r_move rfl (ev_t rfl)) ?_
                                 first | refine WL.val rfl rfl rfl rfl (r_mulN rfl ev_c (ev_t rfl) (by simp only [inK]; omega)) ?_ | refine WL.val rfl rfl rfl rfl (r_mul rfl ev_c (ev_t rfl)) ?_
                                 first | refine WL.val rfl rfl rfl rfl (r_convN rfl (ev_t rfl) some_3 int_32 (by simp only [inK]; omega)) ?_ | refine WL.val rfl rfl rfl rfl (r_conv rfl (ev_t rfl) some_3 int_32) ?_
                                 refine WL.val rfl rfl rfl rfl (r_indexAddr rfl (ev_t rfl) (ev_t rfl) elem_30 size_32 (by omega) (by omega)) ?_
                                 rw [show (2 : Int) * (m : Int) = ((2 * m : Nat) : Int) by omega, show 0 + (k : Int).toNat * 1 = k by omega]
                                 refine WL.cons (SO.ownSet1 (i := k) (z := 2 * m) hO rfl (by omega) rfl rfl (ev_t rfl) (ev_t rfl) size_32 rfl rfl rfl ?_)
                                 intro w15 hu15 hO2 hz3
                                 have hs15 := hu15.size
                                 replace hU := hU.trans hu15 (by first | exact (fun _ _ h => h) | exact (fun _ _ h => h.elim) | (intro k hl hk; (try simp only [At, New, Grow, From, No] at hk ⊢); omega) | (intro k hl hk; first | exact (show False from hk).elim | (simp only [At] at hk; omega) | (have h2 := hGr k hk; omega) | (have h2 := hGs k hk; omega) | (rcases hk with h | h; omega; have h2 := hGs k h; omega)))
                                 replace hr := hr.upd hu15 (fun k hk hl hS => by have h1 := hF k hk; first | exact (show False from hS).elim | (simp only [At] at hS; omega) | (have h2 := hGr k hS; omega) | (have h2 := hGs k hS; omega) | (rcases hS with h | h; omega; have h2 := hGs k h; omega))
                                 replace hr2 := hr2.upd hu15 (fun k hk hl hS => by have h1 := hF2 k hk; first | exact (show False from hS).elim | (simp only [At] at hS; omega) | (have h2 := hGr k hS; omega) | (have h2 := hGs k hS; omega) | (rcases hS with h | h; omega; have h2 := hGs k h; omega))
                                 replace hH := hH.upd hu15 (fun k hk hl hS => by first | exact (show False from hS).elim | (have h2 := hGr k hS; rcases hk with hk | hk; exact h2.2.1 hk; exact h2.2.2 hk) | (have h2 := hGs k hS; rcases hk with hk | hk; exact h2.2.1 hk; exact h2.2.2.1 hk) | (simp only [At] at hS; rcases hk with hk | hk; omega; have := hGl k hk; omega))
                                 clear hO
                                 have hO := hO2
                                 refine WL.nil ?_
                                 refine WX.keep [(0, _), (1, _), (5, _), (7, _), (9, _), (10, _), (12, _)] ⟨rfl, rfl, rfl, rfl, rfl, rfl, rfl, trivial⟩ ?_
                                 refine WX.next ?_
                                 refine WC.region ?_
                                 refine WL.val rfl rfl rfl rfl (r_move rfl (ev_t rfl)) ?_
                                 refine WL.val rfl rfl rfl rfl (r_move rfl (ev_t rfl)) ?_
                                 first | refine WL.val rfl rfl rfl rfl (r_addN rfl (ev_t rfl) (ev_t rfl) (by simp only [inK]; omega)) ?_ | refine WL.val rfl rfl rfl rfl (r_add rfl (ev_t rfl) (ev_t rfl)) ?_
                                 refine WL.val rfl rfl rfl rfl (r_assign rfl (ev_t rfl)) ?_
                                 refine WL.nil ?_
                                 refine WX.keep [(0, _), (1, _), (5, _), (7, _), (9, _), (10, _)] ⟨rfl, rfl, rfl, rfl, rfl, rfl, trivial⟩ ?_
                                 refine WX.blockNormal ?_
                                 refine WX.next ?_
                                 refine WC.region ?_
                                 refine WL.val rfl rfl rfl rfl (r_move rfl (ev_t rfl)) ?_
                                 first | refine WL.val rfl rfl rfl rfl (r_addN rfl (ev_t rfl) ev_c (by simp only [inK]; omega)) ?_ | refine WL.val rfl rfl rfl rfl (r_add rfl (ev_t rfl) ev_c) ?_
                                 refine WL.val rfl rfl rfl rfl (r_assign rfl (ev_t rfl)) ?_
                                 refine WL.nil ?_
                                 refine WX.keep [(0, _), (1, _), (5, _), (7, _), (9, _), (10, _)] ⟨rfl, rfl, rfl, rfl, rfl, rfl, trivial⟩ ?_
                                 refine WX.meet [(0, _), (1, _), (5, _), (7, _), (9, _), (10, _)] ⟨rfl, rfl, rfl, rfl, rfl, rfl, trivial⟩ ?_
                                 first
                                   | exact ⟨l.length - (m + szAt l m), by omega, m + szAt l m, k + 1, ys.set k (2 * m), by omega, rfl, by rw [hdr2]; exact hTn, by rw [List.length_set]; exact hyl, fun y hy => by rcases List.mem_or_eq_of_mem_set hy with hy | hy; exact hyo y hy; exact ⟨by omega, .inr (by rw [hy, Nat.mul_div_cancel_left _ (by decide)]; exact hms)⟩, hU, hr, hr2, hH, hO2, by omega, by omega, by omega, rfl⟩
                                   | exact ⟨l.length - (m + szAt l m), by omega, m + szAt l m, k + 1, ys, by omega, rfl, by rw [hdr2]; exact hTn, hyl, hyo, hU, hr, hr2, hH, hO, by omega, by omega, by omega, rfl⟩
                              · try (exfalso; first | (simp at hc16; done) | (simp only [decide_eq_true_eq, decide_eq_false_iff_not, Bool.not_eq_true', Bool.not_eq_false', Bool.not_eq_true, Bool.not_eq_false] at hc16; omega) | omega)
                                all_goals
                                 try simp only [decide_eq_true_eq, decide_eq_false_iff_not, Bool.not_eq_true', Bool.not_eq_false', Bool.not_eq_true, Bool.not_eq_false, Option.isNone_none, Option.isNone_some, Option.isSome_none, Option.isSome_some, ne_eq, Decidable.not_not] at hc16
                                 refine WC.skip ?_
                                 refine WX.next ?_
                                 refine WC.region ?_
                                 refine WL.val rfl rfl rfl rfl (r_move rfl (ev_t rfl)) ?_
                                 refine WL.val rfl rfl rfl rfl (r_move rfl (ev_t rfl)) ?_
                                 first | refine WL.val rfl rfl rfl rfl (r_addN rfl (ev_t rfl) (ev_t rfl) (by simp only [inK]; omega)) ?_ | refine WL.val rfl rfl rfl rfl (r_add rfl (ev_t rfl) (ev_t rfl)) ?_
                                 refine WL.val rfl rfl rfl rfl (r_assign rfl (ev_t rfl)) ?_
                                 refine WL.nil ?_
                                 refine WX.keep [(0, _), (1, _), (5, _), (7, _), (9, _), (10, _)] ⟨rfl, rfl, rfl, rfl, rfl, rfl, trivial⟩ ?_
                                 refine WX.blockNormal ?_
                                 refine WX.next ?_
                                 refine WC.region ?_
                                 refine WL.val rfl rfl rfl rfl (r_move rfl (ev_t rfl)) ?_
                                 first | refine WL.val rfl rfl rfl rfl (r_addN rfl (ev_t rfl) ev_c (by simp only [inK]; omega)) ?_ | refine WL.val rfl rfl rfl rfl (r_add rfl (ev_t rfl) ev_c) ?_
                                 refine WL.val rfl rfl rfl rfl (r_assign rfl (ev_t rfl)) ?_
                                 refine WL.nil ?_
                                 refine WX.keep [(0, _), (1, _), (5, _), (7, _), (9, _), (10, _)] ⟨rfl, rfl, rfl, rfl, rfl, rfl, trivial⟩ ?_
                                 refine WX.meet [(0, _), (1, _), (5, _), (7, _), (9, _), (10, _)] ⟨rfl, rfl, rfl, rfl, rfl, rfl, trivial⟩ ?_
                                 first
                                   | exact ⟨l.length - (m + szAt l m), by omega, m + szAt l m, k + 1, ys.set k (2 * m), by omega, rfl, by rw [hdr2]; exact hTn, by rw [List.length_set]; exact hyl, fun y hy => by rcases List.mem_or_eq_of_mem_set hy with hy | hy; exact hyo y hy; exact ⟨by omega, .inr (by rw [hy, Nat.mul_div_cancel_left _ (by decide)]; exact hms)⟩, hU, hr, hr2, hH, hO2, by omega, by omega, by omega, rfl⟩
                                   | exact ⟨l.length - (m + szAt l m), by omega, m + szAt l m, k + 1, ys, by omega, rfl, by rw [hdr2]; exact hTn, hyl, hyo, hU, hr, hr2, hH, hO, by omega, by omega, by omega, rfl⟩
                           · try (exfalso; first | (simp at hb16_4; done) | (simp only [decide_eq_true_eq, decide_eq_false_iff_not, Bool.not_eq_true', Bool.not_eq_false', Bool.not_eq_true, Bool.not_eq_false] at hb16_4; omega) | omega)
                             all_goals
                              try simp only [decide_eq_true_eq, decide_eq_false_iff_not, Bool.not_eq_true', Bool.not_eq_false', Bool.not_eq_true, Bool.not_eq_false, Option.isNone_none, Option.isNone_some, Option.isSome_none, Option.isSome_some, ne_eq, Decidable.not_not] at hb16_4
                              refine WL.skip rfl rfl rfl ?_
                              refine WL.skip rfl rfl rfl ?_
                              refine WL.skip rfl rfl rfl ?_
                              refine WL.skip rfl rfl rfl ?_
                              refine WL.skip rfl rfl rfl ?_
                              refine WL.skip rfl rfl rfl ?_
                              refine WL.val rfl rfl rfl rfl (r_pickF rfl (ev_t rfl) ev_c) ?_
                              refine WL.nil ?_
                              refine WX.keep [(0, _), (1, _), (5, _), (7, _), (9, _), (10, _), (12, _), (81, _)] ⟨rfl, rfl, rfl, rfl, rfl, rfl, rfl, rfl, trivial⟩ ?_
                              refine WX.next ?_
                              refine WC.cond_false rfl (ev_t rfl) ?_
                              refine WC.skip ?_
                              refine WX.next ?_
                              refine WC.region ?_
                              refine WL.val rfl rfl rfl rfl (r_move rfl (ev_t rfl)) ?_
                              refine WL.val rfl rfl rfl rfl (r_move rfl (ev_t rfl)) ?_
                              first | refine WL.val rfl rfl rfl rfl (r_addN rfl (ev_t rfl) (ev_t rfl) (by simp only [inK]; omega)) ?_ | refine WL.val rfl rfl rfl rfl (r_add rfl (ev_t rfl) (ev_t rfl)) ?_
                              refine WL.val rfl rfl rfl rfl (r_assign rfl (ev_t rfl)) ?_
                              refine WL.nil ?_
                              refine WX.keep [(0, _), (1, _), (5, _), (7, _), (9, _), (10, _)] ⟨rfl, rfl, rfl, rfl, rfl, rfl, trivial⟩ ?_
                              refine WX.blockNormal ?_
                              refine WX.next ?_
                              refine WC.region ?_
                              refine WL.val rfl rfl rfl rfl (r_move rfl (ev_t rfl)) ?_
                              first | refine WL.val rfl rfl rfl rfl (r_addN rfl (ev_t rfl) ev_c (by simp only [inK]; omega)) ?_ | refine WL.val rfl rfl rfl rfl (r_add rfl (ev_t rfl) ev_c) ?_
                              refine WL.val rfl rfl rfl rfl (r_assign rfl (ev_t rfl)) ?_
                              refine WL.nil ?_
                              refine WX.keep [(0, _), (1, _), (5, _), (7, _), (9, _), (10, _)] ⟨rfl, rfl, rfl, rfl, rfl, rfl, trivial⟩ ?_
                              refine WX.meet [(0, _), (1, _), (5, _), (7, _), (9, _), (10, _)] ⟨rfl, rfl, rfl, rfl, rfl, rfl, trivial⟩ ?_
                              first
                                | exact ⟨l.length - (m + szAt l m), by omega, m + szAt l m, k + 1, ys.set k (2 * m), by omega, rfl, by rw [hdr2]; exact hTn, by rw [List.length_set]; exact hyl, fun y hy => by rcases List.mem_or_eq_of_mem_set hy with hy | hy; exact hyo y hy; exact ⟨by omega, .inr (by rw [hy, Nat.mul_div_cancel_left _ (by decide)]; exact hms)⟩, hU, hr, hr2, hH, hO2, by omega, by omega, by omega, rfl⟩
                                | exact ⟨l.length - (m + szAt l m), by omega, m + szAt l m, k + 1, ys, by omega, rfl, by rw [hdr2]; exact hTn, hyl, hyo, hU, hr, hr2, hH, hO, by omega, by omega, by omega, rfl⟩
                        · try (exfalso; first | (simp at hc13; done) | (simp only [decide_eq_true_eq, decide_eq_false_iff_not, Bool.not_eq_true', Bool.not_eq_false', Bool.not_eq_true, Bool.not_eq_false] at hc13; omega) | omega)
                          all_goals
                           try simp only [decide_eq_true_eq, decide_eq_false_iff_not, Bool.not_eq_true', Bool.not_eq_false', Bool.not_eq_true, Bool.not_eq_false, Option.isNone_none, Option.isNone_some, Option.isSome_none, Option.isSome_some, ne_eq, Decidable.not_not] at hc13
                           refine WC.exit ?_
                           refine WX.thenExit ?_
                           refine WX.thenExit ?_
                           refine WX.blockHere ?_
                           refine WX.next ?_
                           refine WC.seq ?_
                           rw [← hyl] at hO ⊢
                           have hGl2 := hH.lt
                           have hpl2 := hH.hd.lt
                           obtain ⟨g, Ax, cx, hvx, hpos, -⟩ := hO.roots
                           injection hvx with hvx _ _
                           rw [← hvx] at hpos
                           refine WC.region ?_
                           refine WL.val rfl rfl rfl rfl (r_move rfl (ev_t rfl)) ?_
                           refine WL.val rfl rfl rfl rfl (r_move rfl (ev_t rfl)) ?_
                           refine WL.cons (SO.call (pointers_ok (g := g) (hO.rd (by omega)) (fun h => (hpos h).1) (by omega)) rfl body_13 ⟨(ev_t rfl), trivial⟩ rfl rfl rfl rfl ?_)
                           rintro v w16 ⟨hQ, hu16⟩
                           have hs16 := hu16.size
                           replace hU := hU.trans hu16 (by first | exact (fun _ _ h => h) | exact (fun _ _ h => h.elim) | (intro k hl hk; (try simp only [At, New, Grow, From, No] at hk ⊢); omega) | (intro k hl hk; first | exact (show False from hk).elim | (simp only [At] at hk; omega) | (have h2 := hGr k hk; omega) | (have h2 := hGs k hk; omega) | (rcases hk with h | h; omega; have h2 := hGs k h; omega)))
                           replace hr := hr.upd hu16 (fun k hk hl hS => by have h1 := hF k hk; first | exact (show False from hS).elim | (simp only [At] at hS; omega) | (have h2 := hGr k hS; omega) | (have h2 := hGs k hS; omega) | (rcases hS with h | h; omega; have h2 := hGs k h; omega))
                           replace hr2 := hr2.upd hu16 (fun k hk hl hS => by have h1 := hF2 k hk; first | exact (show False from hS).elim | (simp only [At] at hS; omega) | (have h2 := hGr k hS; omega) | (have h2 := hGs k hS; omega) | (rcases hS with h | h; omega; have h2 := hGs k h; omega))
                           replace hH := hH.upd hu16 (fun k hk hl hS => by first | exact (show False from hS).elim | (have h2 := hGr k hS; rcases hk with hk | hk; exact h2.2.1 hk; exact h2.2.2 hk) | (have h2 := hGs k hS; rcases hk with hk | hk; exact h2.2.1 hk; exact h2.2.2.1 hk) | (simp only [At] at hS; rcases hk with hk | hk; omega; have := hGl k hk; omega))
                           replace hO := hO.upd hu16 (fun k hk hl hS => by first | exact (show False from hS).elim | (simp only [At] at hS; have := hGs k hk; omega) | (have := hGs k hk; have := hGl k hS; omega))
                           have hsq := (hu16).size
                           refine WL.cons (SO.call (collectO_ok (g := g) hH (by omega) hg.vd hO (fun k hk => ⟨(hGs k hk).2.1, (hGs k hk).2.2.1⟩) (by omega) hyo (hQ.rd (by rw [rowAt_len]; omega)) (fun h => ⟨cr, by rw [(hpos h).1]⟩) (fun k hk => hk.2) (fun k hk => ⟨by have := hk.1; omega, fun h => by have := hk.1; have := (hpos h).2.2; omega⟩)) rfl body_14 ⟨(ev_t rfl), (ev_t rfl), trivial⟩ rfl rfl rfl rfl ?_)
                           rintro v w17 ⟨fin, to, mv, bt, hbf, hyf, hPI, hH2, hbt, hO2, hu17⟩
                           have hs17 := hu17.size
                           replace hU := hU.trans hu17 (by first | exact (fun _ _ h => h) | exact (fun _ _ h => h.elim) | (intro k hl hk; (try simp only [At, New, Grow, From, No] at hk ⊢); omega) | (intro k hl hk; first | exact (show False from hk).elim | (simp only [At] at hk; omega) | (have h2 := hGr k hk; omega) | (have h2 := hGs k hk; omega) | (rcases hk with h | h; omega; have h2 := hGs k h; omega)))
                           replace hr := hr.upd hu17 (fun k hk hl hS => by have h1 := hF k hk; first | exact (show False from hS).elim | (simp only [At] at hS; omega) | (have h2 := hGr k hS; omega) | (have h2 := hGs k hS; omega) | (rcases hS with h | h; omega; have h2 := hGs k h; omega))
                           replace hr2 := hr2.upd hu17 (fun k hk hl hS => by have h1 := hF2 k hk; first | exact (show False from hS).elim | (simp only [At] at hS; omega) | (have h2 := hGr k hS; omega) | (have h2 := hGs k hS; omega) | (rcases hS with h | h; omega; have h2 := hGs k h; omega))
                           clear hH hO
                           have hH := hH2
                           have hO := hO2
                           clear hH2 hO2
                           have htl := hPI.le hg.vd
                           have hg1 := hg.collect hPI (by omega)
                           have hy1 : ∀ y ∈ ys.map (there l fin), y < 18446744073709551616 ∧ (y % 2 = 1 ∨ y / 2 ∈ fin.map (plc (szAt l) fin)) := fun y hy => by
                             obtain ⟨y0, hy0, rfl⟩ := List.mem_map.1 hy
                             refine ⟨?_, there_tgt (hyf y0 hy0)⟩
                             unfold there
                             split
                             · rename_i h3
                               have h4 := plc_lt (sz := szAt l) h3.2
                               rw [← hPI.ltot] at h4
                               omega
                             · exact (hyo y0 hy0).1
                           obtain ⟨ys1, hys1⟩ : ∃ y, y = ys.map (there l fin) := ⟨_, rfl⟩
                           have hyl1 : ys1.length = ys.length := by rw [hys1, List.length_map]
                           obtain ⟨st1, hst1⟩ : ∃ y, y = fin.map (plc (szAt l) fin) := ⟨_, rfl⟩
                           rw [← hst1] at hg1
                           rw [← hys1, ← hst1] at hy1
                           rw [← hys1] at hO
                           rw [← hyl1] at hO hyl ⊢
                           refine WL.nil ?_
                           refine WX.keep [(5, _), (7, _)] ⟨rfl, rfl, trivial⟩ ?_
                           refine WX.next ?_
                           refine WC.seq ?_
                           refine WC.region ?_
                           refine WL.val rfl rfl rfl rfl (r_move rfl (ev_t rfl)) ?_
                           refine WL.cons (SO.call (hwords_ok hH) rfl body_22 ⟨(ev_t rfl), trivial⟩ rfl rfl rfl rfl ?_)
                           rintro v w18 ⟨hW1, hu18⟩
                           have hs18 := hu18.size
                           replace hU := hU.trans hu18 (by first | exact (fun _ _ h => h) | exact (fun _ _ h => h.elim) | (intro k hl hk; (try simp only [At, New, Grow, From, No] at hk ⊢); omega) | (intro k hl hk; first | exact (show False from hk).elim | (simp only [At] at hk; omega) | (have h2 := hGr k hk; omega) | (have h2 := hGs k hk; omega) | (rcases hk with h | h; omega; have h2 := hGs k h; omega)))
                           replace hr := hr.upd hu18 (fun k hk hl hS => by have h1 := hF k hk; first | exact (show False from hS).elim | (simp only [At] at hS; omega) | (have h2 := hGr k hS; omega) | (have h2 := hGs k hS; omega) | (rcases hS with h | h; omega; have h2 := hGs k h; omega))
                           replace hr2 := hr2.upd hu18 (fun k hk hl hS => by have h1 := hF2 k hk; first | exact (show False from hS).elim | (simp only [At] at hS; omega) | (have h2 := hGr k hS; omega) | (have h2 := hGs k hS; omega) | (rcases hS with h | h; omega; have h2 := hGs k h; omega))
                           replace hH := hH.upd hu18 (fun k hk hl hS => by first | exact (show False from hS).elim | (have h2 := hGr k hS; rcases hk with hk | hk; exact h2.2.1 hk; exact h2.2.2 hk) | (have h2 := hGs k hS; rcases hk with hk | hk; exact h2.2.1 hk; exact h2.2.2.1 hk) | (simp only [At] at hS; rcases hk with hk | hk; omega; have := hGl k hk; omega))
                           replace hO := hO.upd hu18 (fun k hk hl hS => by first | exact (show False from hS).elim | (simp only [At] at hS; have := hGs k hk; omega) | (have := hGs k hk; have := hGl k hS; omega))
                           refine WL.cons (SO.call (lwords_ok (hW1.rd (by omega)) (by omega)) rfl body_21 ⟨(ev_t rfl), trivial⟩ rfl rfl rfl rfl ?_)
                           rintro va w19 ⟨ha, hu19⟩
                           have hs19 := hu19.size
                           replace hU := hU.trans hu19 (by first | exact (fun _ _ h => h) | exact (fun _ _ h => h.elim) | (intro k hl hk; (try simp only [At, New, Grow, From, No] at hk ⊢); omega) | (intro k hl hk; first | exact (show False from hk).elim | (simp only [At] at hk; omega) | (have h2 := hGr k hk; omega) | (have h2 := hGs k hk; omega) | (rcases hk with h | h; omega; have h2 := hGs k h; omega)))
                           replace hr := hr.upd hu19 (fun k hk hl hS => by have h1 := hF k hk; first | exact (show False from hS).elim | (simp only [At] at hS; omega) | (have h2 := hGr k hS; omega) | (have h2 := hGs k hS; omega) | (rcases hS with h | h; omega; have h2 := hGs k h; omega))
                           replace hr2 := hr2.upd hu19 (fun k hk hl hS => by have h1 := hF2 k hk; first | exact (show False from hS).elim | (simp only [At] at hS; omega) | (have h2 := hGr k hS; omega) | (have h2 := hGs k hS; omega) | (rcases hS with h | h; omega; have h2 := hGs k h; omega))
                           replace hH := hH.upd hu19 (fun k hk hl hS => by first | exact (show False from hS).elim | (have h2 := hGr k hS; rcases hk with hk | hk; exact h2.2.1 hk; exact h2.2.2 hk) | (have h2 := hGs k hS; rcases hk with hk | hk; exact h2.2.1 hk; exact h2.2.2.1 hk) | (simp only [At] at hS; rcases hk with hk | hk; omega; have := hGl k hk; omega))
                           replace hO := hO.upd hu19 (fun k hk hl hS => by first | exact (show False from hS).elim | (simp only [At] at hS; have := hGs k hk; omega) | (have := hGs k hk; have := hGl k hS; omega))
                           refine WL.val rfl rfl rfl rfl (r_assign rfl (ev_t rfl)) ?_
                           refine WL.nil ?_
                           refine WX.keep [(5, _), (7, _), (13, _)] ⟨rfl, rfl, rfl, trivial⟩ ?_
                           refine WX.next ?_
                           refine WC.seq ?_
                           refine WC.region ?_
                           refine WL.val rfl rfl rfl rfl (r_move rfl (ev_t rfl)) ?_
                           refine WL.cons (SO.call (lwords_ok (hO.rd (by omega)) (by omega)) rfl body_21 ⟨(ev_t rfl), trivial⟩ rfl rfl rfl rfl ?_)
                           rintro vb w20 ⟨hb2, hu20⟩
                           have hs20 := hu20.size
                           replace hU := hU.trans hu20 (by first | exact (fun _ _ h => h) | exact (fun _ _ h => h.elim) | (intro k hl hk; (try simp only [At, New, Grow, From, No] at hk ⊢); omega) | (intro k hl hk; first | exact (show False from hk).elim | (simp only [At] at hk; omega) | (have h2 := hGr k hk; omega) | (have h2 := hGs k hk; omega) | (rcases hk with h | h; omega; have h2 := hGs k h; omega)))
                           replace hr := hr.upd hu20 (fun k hk hl hS => by have h1 := hF k hk; first | exact (show False from hS).elim | (simp only [At] at hS; omega) | (have h2 := hGr k hS; omega) | (have h2 := hGs k hS; omega) | (rcases hS with h | h; omega; have h2 := hGs k h; omega))
                           replace hr2 := hr2.upd hu20 (fun k hk hl hS => by have h1 := hF2 k hk; first | exact (show False from hS).elim | (simp only [At] at hS; omega) | (have h2 := hGr k hS; omega) | (have h2 := hGs k hS; omega) | (rcases hS with h | h; omega; have h2 := hGs k h; omega))
                           replace hH := hH.upd hu20 (fun k hk hl hS => by first | exact (show False from hS).elim | (have h2 := hGr k hS; rcases hk with hk | hk; exact h2.2.1 hk; exact h2.2.2 hk) | (have h2 := hGs k hS; rcases hk with hk | hk; exact h2.2.1 hk; exact h2.2.2.1 hk) | (simp only [At] at hS; rcases hk with hk | hk; omega; have := hGl k hk; omega))
                           replace hO := hO.upd hu20 (fun k hk hl hS => by first | exact (show False from hS).elim | (simp only [At] at hS; have := hGs k hk; omega) | (have := hGs k hk; have := hGl k hS; omega))
                           replace ha := ha.upd hu20 (fun k hk hl hS => by first | exact (show False from hS).elim | (have h1 := hk.1; rcases hS with h | h; omega; have := hGs k h; omega))
                           have hbl2 := hH.lt
                           have hpl3 := hH.hd.lt
                           obtain ⟨g2, Ay, cy, hvy, hpos2, -⟩ := hO.roots
                           injection hvy with hvy _ _
                           rw [← hvy] at hpos2
                           refine WL.val rfl rfl rfl rfl (r_assign rfl (ev_t rfl)) ?_
                           refine WL.nil ?_
                           refine WX.keep [(5, _), (7, _), (13, _), (14, _)] ⟨rfl, rfl, rfl, rfl, trivial⟩ ?_
                           refine WX.next ?_
                           refine WC.seq ?_
                           refine WC.region ?_
                           refine WL.val rfl rfl rfl rfl (r_move rfl (ev_t rfl)) ?_
                           refine WL.val rfl rfl rfl rfl (r_move rfl (ev_t rfl)) ?_
                           refine WL.cons (SO.call (pointers_ok (g := g2) (hO.rd (by omega)) (fun h => (hpos2 h).1) (by omega)) rfl body_13 ⟨(ev_t rfl), trivial⟩ rfl rfl rfl rfl ?_)
                           rintro v w21 ⟨hQ2, hu21⟩
                           have hs21 := hu21.size
                           replace hU := hU.trans hu21 (by first | exact (fun _ _ h => h) | exact (fun _ _ h => h.elim) | (intro k hl hk; (try simp only [At, New, Grow, From, No] at hk ⊢); omega) | (intro k hl hk; first | exact (show False from hk).elim | (simp only [At] at hk; omega) | (have h2 := hGr k hk; omega) | (have h2 := hGs k hk; omega) | (rcases hk with h | h; omega; have h2 := hGs k h; omega)))
                           replace hr := hr.upd hu21 (fun k hk hl hS => by have h1 := hF k hk; first | exact (show False from hS).elim | (simp only [At] at hS; omega) | (have h2 := hGr k hS; omega) | (have h2 := hGs k hS; omega) | (rcases hS with h | h; omega; have h2 := hGs k h; omega))
                           replace hr2 := hr2.upd hu21 (fun k hk hl hS => by have h1 := hF2 k hk; first | exact (show False from hS).elim | (simp only [At] at hS; omega) | (have h2 := hGr k hS; omega) | (have h2 := hGs k hS; omega) | (rcases hS with h | h; omega; have h2 := hGs k h; omega))
                           replace hH := hH.upd hu21 (fun k hk hl hS => by first | exact (show False from hS).elim | (have h2 := hGr k hS; rcases hk with hk | hk; exact h2.2.1 hk; exact h2.2.2 hk) | (have h2 := hGs k hS; rcases hk with hk | hk; exact h2.2.1 hk; exact h2.2.2.1 hk) | (simp only [At] at hS; rcases hk with hk | hk; omega; have := hGl k hk; omega))
                           replace hO := hO.upd hu21 (fun k hk hl hS => by first | exact (show False from hS).elim | (simp only [At] at hS; have := hGs k hk; omega) | (have := hGs k hk; have := hGl k hS; omega))
                           replace ha := ha.upd hu21 (fun k hk hl hS => by first | exact (show False from hS).elim | (have h1 := hk.1; rcases hS with h | h; omega; have := hGs k h; omega))
                           replace hb2 := hb2.upd hu21 (fun k hk hl hS => by first | exact (show False from hS).elim | (have h1 := hk.1; rcases hS with h | h; omega; have := hGs k h; omega))
                           have hsq2 := (hu21).size
                           refine WL.cons (SO.call (collectO_ok (g := g2) hH (by omega) hg1.vd hO (fun k hk => ⟨(hGs k hk).2.1, fun h => by simp only [At] at h; have := (hGs k hk).2.2.2; omega⟩) (by omega) hy1 (hQ2.rd (by rw [rowAt_len]; omega)) (fun h => ⟨cr, by rw [(hpos2 h).1]⟩) (fun k hk => hk.2) (fun k hk => ⟨by have := hk.1; omega, fun h => by have := hk.1; have := (hpos2 h).2.2; omega⟩)) rfl body_14 ⟨(ev_t rfl), (ev_t rfl), trivial⟩ rfl rfl rfl rfl ?_)
                           rintro v w22 ⟨fin2, to2, mv2, bt2, hbf2, hyf2, hPI2, hH2, hbt2, hO2, hu22⟩
                           have hs22 := hu22.size
                           replace hU := hU.trans hu22 (by first | exact (fun _ _ h => h) | exact (fun _ _ h => h.elim) | (intro k hl hk; (try simp only [At, New, Grow, From, No] at hk ⊢); omega) | (intro k hl hk; first | exact (show False from hk).elim | (simp only [At] at hk; omega) | (have h2 := hGr k hk; omega) | (have h2 := hGs k hk; omega) | (rcases hk with h | h; omega; have h2 := hGs k h; omega)))
                           replace hr := hr.upd hu22 (fun k hk hl hS => by have h1 := hF k hk; first | exact (show False from hS).elim | (simp only [At] at hS; omega) | (have h2 := hGr k hS; omega) | (have h2 := hGs k hS; omega) | (rcases hS with h | h; omega; have h2 := hGs k h; omega))
                           replace hr2 := hr2.upd hu22 (fun k hk hl hS => by have h1 := hF2 k hk; first | exact (show False from hS).elim | (simp only [At] at hS; omega) | (have h2 := hGr k hS; omega) | (have h2 := hGs k hS; omega) | (rcases hS with h | h; omega; have h2 := hGs k h; omega))
                           replace ha := ha.upd hu22 (fun k hk hl hS => by first | exact (show False from hS).elim | (have h1 := hk.1; rcases hS with h | h; omega; have := hGs k h; omega))
                           replace hb2 := hb2.upd hu22 (fun k hk hl hS => by first | exact (show False from hS).elim | (have h1 := hk.1; rcases hS with h | h; omega; have := hGs k h; omega))
                           clear hH hO
                           have hH := hH2
                           have hO := hO2
                           clear hH2 hO2
                           obtain ⟨e1, e2⟩ := hPI.twice hg.vd hbf hyf (hys1 ▸ hbf2) (hst1 ▸ hPI2)
                           subst e2
                           have e3 : ys1.map (there to2 fin2) = ys1 := by
                             rw [e1]
                             refine (List.map_congr_left (fun y _ => hPI.thereTo y)).trans ?_
                             simp
                           rw [e3] at hO
                           refine WL.nil ?_
                           refine WX.keep [(5, _), (7, _), (13, _), (14, _)] ⟨rfl, rfl, rfl, rfl, trivial⟩ ?_
                           refine WX.next ?_
                           refine WC.seq ?_
                           refine WC.region ?_
                           refine WL.val rfl rfl rfl rfl (r_move rfl (ev_t rfl)) ?_
                           refine WL.cons (SO.call (hwords_ok hH) rfl body_22 ⟨(ev_t rfl), trivial⟩ rfl rfl rfl rfl ?_)
                           rintro v w23 ⟨hW2, hu23⟩
                           have hs23 := hu23.size
                           replace hU := hU.trans hu23 (by first | exact (fun _ _ h => h) | exact (fun _ _ h => h.elim) | (intro k hl hk; (try simp only [At, New, Grow, From, No] at hk ⊢); omega) | (intro k hl hk; first | exact (show False from hk).elim | (simp only [At] at hk; omega) | (have h2 := hGr k hk; omega) | (have h2 := hGs k hk; omega) | (rcases hk with h | h; omega; have h2 := hGs k h; omega)))
                           replace hr := hr.upd hu23 (fun k hk hl hS => by have h1 := hF k hk; first | exact (show False from hS).elim | (simp only [At] at hS; omega) | (have h2 := hGr k hS; omega) | (have h2 := hGs k hS; omega) | (rcases hS with h | h; omega; have h2 := hGs k h; omega))
                           replace hr2 := hr2.upd hu23 (fun k hk hl hS => by have h1 := hF2 k hk; first | exact (show False from hS).elim | (simp only [At] at hS; omega) | (have h2 := hGr k hS; omega) | (have h2 := hGs k hS; omega) | (rcases hS with h | h; omega; have h2 := hGs k h; omega))
                           replace ha := ha.upd hu23 (fun k hk hl hS => by first | exact (show False from hS).elim | (have h1 := hk.1; rcases hS with h | h; omega; have := hGs k h; omega))
                           replace hb2 := hb2.upd hu23 (fun k hk hl hS => by first | exact (show False from hS).elim | (have h1 := hk.1; rcases hS with h | h; omega; have := hGs k h; omega))
                           replace hH := hH.upd hu23 (fun k hk hl hS => by first | exact (show False from hS).elim | (have h2 := hGr k hS; rcases hk with hk | hk; exact h2.2.1 hk; exact h2.2.2 hk) | (have h2 := hGs k hS; rcases hk with hk | hk; exact h2.2.1 hk; exact h2.2.2.1 hk) | (simp only [At] at hS; rcases hk with hk | hk; omega; have := hGl k hk; omega))
                           replace hO := hO.upd hu23 (fun k hk hl hS => by first | exact (show False from hS).elim | (simp only [At] at hS; have := hGs k hk; omega) | (have := hGs k hk; have := hGl k hS; omega))
                           refine WL.cons (SO.call (load_ok (hW2.rd (by omega)) (by omega) (fun k hk => hk.2) hg1) rfl body_26 ⟨ev_c, (ev_t rfl), trivial⟩ rfl rfl rfl rfl ?_)
                           rintro v w24 ⟨G9, p9, A9, c9, rfl, hH9, hp9, hG9, hu24⟩
                           have hs24 := hu24.size
                           replace hU := hU.trans hu24 (by first | exact (fun _ _ h => h) | exact (fun _ _ h => h.elim) | (intro k hl hk; (try simp only [At, New, Grow, From, No] at hk ⊢); omega) | (intro k hl hk; first | exact (show False from hk).elim | (simp only [At] at hk; omega) | (have h2 := hGr k hk; omega) | (have h2 := hGs k hk; omega) | (rcases hk with h | h; omega; have h2 := hGs k h; omega)))
                           replace hr := hr.upd hu24 (fun k hk hl hS => by have h1 := hF k hk; first | exact (show False from hS).elim | (simp only [At] at hS; omega) | (have h2 := hGr k hS; omega) | (have h2 := hGs k hS; omega) | (rcases hS with h | h; omega; have h2 := hGs k h; omega))
                           replace hr2 := hr2.upd hu24 (fun k hk hl hS => by have h1 := hF2 k hk; first | exact (show False from hS).elim | (simp only [At] at hS; omega) | (have h2 := hGr k hS; omega) | (have h2 := hGs k hS; omega) | (rcases hS with h | h; omega; have h2 := hGs k h; omega))
                           replace ha := ha.upd hu24 (fun k hk hl hS => by first | exact (show False from hS).elim | (have h1 := hk.1; rcases hS with h | h; omega; have := hGs k h; omega))
                           replace hb2 := hb2.upd hu24 (fun k hk hl hS => by first | exact (show False from hS).elim | (have h1 := hk.1; rcases hS with h | h; omega; have := hGs k h; omega))
                           replace hH := hH.upd hu24 (fun k hk hl hS => by first | exact (show False from hS).elim | (have h2 := hGr k hS; rcases hk with hk | hk; exact h2.2.1 hk; exact h2.2.2 hk) | (have h2 := hGs k hS; rcases hk with hk | hk; exact h2.2.1 hk; exact h2.2.2.1 hk) | (simp only [At] at hS; rcases hk with hk | hk; omega; have := hGl k hk; omega))
                           replace hO := hO.upd hu24 (fun k hk hl hS => by first | exact (show False from hS).elim | (simp only [At] at hS; have := hGs k hk; omega) | (have := hGs k hk; have := hGl k hS; omega))
                           refine WL.val rfl rfl rfl rfl (r_move rfl (ev_t rfl)) ?_
                           refine WL.val rfl rfl rfl rfl (r_extract rfl (ev_t rfl) rfl) ?_
                           refine WL.val rfl rfl rfl rfl (r_extract rfl (ev_t rfl) rfl) ?_
                           refine WL.val rfl rfl rfl rfl (r_assign rfl (ev_t rfl)) ?_
                           refine WL.val rfl rfl rfl rfl (r_assign rfl (ev_t rfl)) ?_
                           refine WL.nil ?_
                           refine WX.keep [(5, _), (7, _), (13, _), (14, _), (15, _), (16, _)] ⟨rfl, rfl, rfl, rfl, rfl, rfl, trivial⟩ ?_
                           refine WX.next ?_
                           refine WC.seq ?_
                           refine WC.region ?_
                           refine WL.val rfl rfl rfl rfl (r_move rfl (ev_t rfl)) ?_
                           refine WL.val rfl rfl rfl rfl (r_eql rfl (ev_t rfl) ev_c) ?_
                           refine WL.val rfl rfl rfl rfl (r_move rfl (ev_t rfl)) ?_
                           refine WL.cases 112 rfl (fun hb24_2 => ?_) (fun hb24_2 => ?_)
                           · try (exfalso; first | (simp at hb24_2; done) | (simp only [decide_eq_true_eq, decide_eq_false_iff_not, Bool.not_eq_true', Bool.not_eq_false', Bool.not_eq_true, Bool.not_eq_false] at hb24_2; omega) | omega)
                             all_goals
                              try simp only [decide_eq_true_eq, decide_eq_false_iff_not, Bool.not_eq_true', Bool.not_eq_false', Bool.not_eq_true, Bool.not_eq_false, Option.isNone_none, Option.isNone_some, Option.isSome_none, Option.isSome_some, ne_eq, Decidable.not_not] at hb24_2
                              refine WL.val rfl rfl rfl rfl (r_move rfl (ev_t rfl)) ?_
                              refine WL.cons (SO.call (hwords_ok hH) rfl body_22 ⟨(ev_t rfl), trivial⟩ rfl rfl rfl rfl ?_)
                              rintro v w25 ⟨hW3, hu25⟩
                              have hs25 := hu25.size
                              replace hU := hU.trans hu25 (by first | exact (fun _ _ h => h) | exact (fun _ _ h => h.elim) | (intro k hl hk; (try simp only [At, New, Grow, From, No] at hk ⊢); omega) | (intro k hl hk; first | exact (show False from hk).elim | (simp only [At] at hk; omega) | (have h2 := hGr k hk; omega) | (have h2 := hGs k hk; omega) | (rcases hk with h | h; omega; have h2 := hGs k h; omega)))
                              replace hr := hr.upd hu25 (fun k hk hl hS => by have h1 := hF k hk; first | exact (show False from hS).elim | (simp only [At] at hS; omega) | (have h2 := hGr k hS; omega) | (have h2 := hGs k hS; omega) | (rcases hS with h | h; omega; have h2 := hGs k h; omega))
                              replace hr2 := hr2.upd hu25 (fun k hk hl hS => by have h1 := hF2 k hk; first | exact (show False from hS).elim | (simp only [At] at hS; omega) | (have h2 := hGr k hS; omega) | (have h2 := hGs k hS; omega) | (rcases hS with h | h; omega; have h2 := hGs k h; omega))
                              replace ha := ha.upd hu25 (fun k hk hl hS => by first | exact (show False from hS).elim | (have h1 := hk.1; rcases hS with h | h; omega; have := hGs k h; omega))
                              replace hb2 := hb2.upd hu25 (fun k hk hl hS => by first | exact (show False from hS).elim | (have h1 := hk.1; rcases hS with h | h; omega; have := hGs k h; omega))
                              replace hH := hH.upd hu25 (fun k hk hl hS => by first | exact (show False from hS).elim | (have h2 := hGr k hS; rcases hk with hk | hk; exact h2.2.1 hk; exact h2.2.2 hk) | (have h2 := hGs k hS; rcases hk with hk | hk; exact h2.2.1 hk; exact h2.2.2.1 hk) | (simp only [At] at hS; rcases hk with hk | hk; omega; have := hGl k hk; omega))
                              replace hO := hO.upd hu25 (fun k hk hl hS => by first | exact (show False from hS).elim | (simp only [At] at hS; have := hGs k hk; omega) | (have := hGs k hk; have := hGl k hS; omega))
                              replace hH9 := hH9.upd hu25 (fun k hk hl hS => by first | exact (show False from hS).elim)
                              refine WL.cons (SO.call (lwords_ok (hW3.rd (by omega)) (by omega)) rfl body_21 ⟨(ev_t rfl), trivial⟩ rfl rfl rfl rfl ?_)
                              rintro v w26 ⟨hW4, hu26⟩
                              have hs26 := hu26.size
                              replace hU := hU.trans hu26 (by first | exact (fun _ _ h => h) | exact (fun _ _ h => h.elim) | (intro k hl hk; (try simp only [At, New, Grow, From, No] at hk ⊢); omega) | (intro k hl hk; first | exact (show False from hk).elim | (simp only [At] at hk; omega) | (have h2 := hGr k hk; omega) | (have h2 := hGs k hk; omega) | (rcases hk with h | h; omega; have h2 := hGs k h; omega)))
                              replace hr := hr.upd hu26 (fun k hk hl hS => by have h1 := hF k hk; first | exact (show False from hS).elim | (simp only [At] at hS; omega) | (have h2 := hGr k hS; omega) | (have h2 := hGs k hS; omega) | (rcases hS with h | h; omega; have h2 := hGs k h; omega))
                              replace hr2 := hr2.upd hu26 (fun k hk hl hS => by have h1 := hF2 k hk; first | exact (show False from hS).elim | (simp only [At] at hS; omega) | (have h2 := hGr k hS; omega) | (have h2 := hGs k hS; omega) | (rcases hS with h | h; omega; have h2 := hGs k h; omega))
                              replace ha := ha.upd hu26 (fun k hk hl hS => by first | exact (show False from hS).elim | (have h1 := hk.1; rcases hS with h | h; omega; have := hGs k h; omega))
                              replace hb2 := hb2.upd hu26 (fun k hk hl hS => by first | exact (show False from hS).elim | (have h1 := hk.1; rcases hS with h | h; omega; have := hGs k h; omega))
                              replace hH := hH.upd hu26 (fun k hk hl hS => by first | exact (show False from hS).elim | (have h2 := hGr k hS; rcases hk with hk | hk; exact h2.2.1 hk; exact h2.2.2 hk) | (have h2 := hGs k hS; rcases hk with hk | hk; exact h2.2.1 hk; exact h2.2.2.1 hk) | (simp only [At] at hS; rcases hk with hk | hk; omega; have := hGl k hk; omega))
                              replace hO := hO.upd hu26 (fun k hk hl hS => by first | exact (show False from hS).elim | (simp only [At] at hS; have := hGs k hk; omega) | (have := hGs k hk; have := hGl k hS; omega))
                              replace hH9 := hH9.upd hu26 (fun k hk hl hS => by first | exact (show False from hS).elim)
                              refine WL.val rfl rfl rfl rfl (r_move rfl (ev_t rfl)) ?_
                              refine WL.cons (SO.call (same_ok (hW4.rd (by omega)) (ha.rd (by omega)) (by omega)) rfl body_24 ⟨(ev_t rfl), (ev_t rfl), trivial⟩ rfl rfl rfl rfl ?_)
                              rintro v w27 ⟨rfl, hu27⟩
                              have hs27 := hu27.size
                              replace hU := hU.trans hu27 (by first | exact (fun _ _ h => h) | exact (fun _ _ h => h.elim) | (intro k hl hk; (try simp only [At, New, Grow, From, No] at hk ⊢); omega) | (intro k hl hk; first | exact (show False from hk).elim | (simp only [At] at hk; omega) | (have h2 := hGr k hk; omega) | (have h2 := hGs k hk; omega) | (rcases hk with h | h; omega; have h2 := hGs k h; omega)))
                              replace hr := hr.upd hu27 (fun k hk hl hS => by have h1 := hF k hk; first | exact (show False from hS).elim | (simp only [At] at hS; omega) | (have h2 := hGr k hS; omega) | (have h2 := hGs k hS; omega) | (rcases hS with h | h; omega; have h2 := hGs k h; omega))
                              replace hr2 := hr2.upd hu27 (fun k hk hl hS => by have h1 := hF2 k hk; first | exact (show False from hS).elim | (simp only [At] at hS; omega) | (have h2 := hGr k hS; omega) | (have h2 := hGs k hS; omega) | (rcases hS with h | h; omega; have h2 := hGs k h; omega))
                              replace ha := ha.upd hu27 (fun k hk hl hS => by first | exact (show False from hS).elim | (have h1 := hk.1; rcases hS with h | h; omega; have := hGs k h; omega))
                              replace hb2 := hb2.upd hu27 (fun k hk hl hS => by first | exact (show False from hS).elim | (have h1 := hk.1; rcases hS with h | h; omega; have := hGs k h; omega))
                              replace hH := hH.upd hu27 (fun k hk hl hS => by first | exact (show False from hS).elim | (have h2 := hGr k hS; rcases hk with hk | hk; exact h2.2.1 hk; exact h2.2.2 hk) | (have h2 := hGs k hS; rcases hk with hk | hk; exact h2.2.1 hk; exact h2.2.2.1 hk) | (simp only [At] at hS; rcases hk with hk | hk; omega; have := hGl k hk; omega))
                              replace hO := hO.upd hu27 (fun k hk hl hS => by first | exact (show False from hS).elim | (simp only [At] at hS; have := hGs k hk; omega) | (have := hGs k hk; have := hGl k hS; omega))
                              replace hH9 := hH9.upd hu27 (fun k hk hl hS => by first | exact (show False from hS).elim)
                              refine WL.val rfl rfl rfl rfl (r_pickT rfl (ev_t rfl) (ev_t rfl)) ?_
                              refine WL.val rfl rfl rfl rfl (r_move rfl (ev_t rfl)) ?_
                              refine WL.cases 119 rfl (fun hb24_9 => ?_) (fun hb24_9 => ?_)
                              · try (exfalso; first | (simp at hb24_9; done) | (simp only [decide_eq_true_eq, decide_eq_false_iff_not, Bool.not_eq_true', Bool.not_eq_false', Bool.not_eq_true, Bool.not_eq_false] at hb24_9; omega) | omega)
                                all_goals
                                 try simp only [decide_eq_true_eq, decide_eq_false_iff_not, Bool.not_eq_true', Bool.not_eq_false', Bool.not_eq_true, Bool.not_eq_false, Option.isNone_none, Option.isNone_some, Option.isSome_none, Option.isSome_some, ne_eq, Decidable.not_not] at hb24_9
                                 refine WL.val rfl rfl rfl rfl (r_move rfl (ev_t rfl)) ?_
                                 refine WL.cons (SO.call (lwords_ok (hO.rd (by omega)) (by omega)) rfl body_21 ⟨(ev_t rfl), trivial⟩ rfl rfl rfl rfl ?_)
                                 rintro v w28 ⟨hW5, hu28⟩
                                 have hs28 := hu28.size
                                 replace hU := hU.trans hu28 (by first | exact (fun _ _ h => h) | exact (fun _ _ h => h.elim) | (intro k hl hk; (try simp only [At, New, Grow, From, No] at hk ⊢); omega) | (intro k hl hk; first | exact (show False from hk).elim | (simp only [At] at hk; omega) | (have h2 := hGr k hk; omega) | (have h2 := hGs k hk; omega) | (rcases hk with h | h; omega; have h2 := hGs k h; omega)))
                                 replace hr := hr.upd hu28 (fun k hk hl hS => by have h1 := hF k hk; first | exact (show False from hS).elim | (simp only [At] at hS; omega) | (have h2 := hGr k hS; omega) | (have h2 := hGs k hS; omega) | (rcases hS with h | h; omega; have h2 := hGs k h; omega))
                                 replace hr2 := hr2.upd hu28 (fun k hk hl hS => by have h1 := hF2 k hk; first | exact (show False from hS).elim | (simp only [At] at hS; omega) | (have h2 := hGr k hS; omega) | (have h2 := hGs k hS; omega) | (rcases hS with h | h; omega; have h2 := hGs k h; omega))
                                 replace ha := ha.upd hu28 (fun k hk hl hS => by first | exact (show False from hS).elim | (have h1 := hk.1; rcases hS with h | h; omega; have := hGs k h; omega))
                                 replace hb2 := hb2.upd hu28 (fun k hk hl hS => by first | exact (show False from hS).elim | (have h1 := hk.1; rcases hS with h | h; omega; have := hGs k h; omega))
                                 replace hH := hH.upd hu28 (fun k hk hl hS => by first | exact (show False from hS).elim | (have h2 := hGr k hS; rcases hk with hk | hk; exact h2.2.1 hk; exact h2.2.2 hk) | (have h2 := hGs k hS; rcases hk with hk | hk; exact h2.2.1 hk; exact h2.2.2.1 hk) | (simp only [At] at hS; rcases hk with hk | hk; omega; have := hGl k hk; omega))
                                 replace hO := hO.upd hu28 (fun k hk hl hS => by first | exact (show False from hS).elim | (simp only [At] at hS; have := hGs k hk; omega) | (have := hGs k hk; have := hGl k hS; omega))
                                 replace hH9 := hH9.upd hu28 (fun k hk hl hS => by first | exact (show False from hS).elim)
                                 refine WL.val rfl rfl rfl rfl (r_move rfl (ev_t rfl)) ?_
                                 refine WL.cons (SO.call (same_ok (hW5.rd (by omega)) (hb2.rd (by omega)) (by omega)) rfl body_24 ⟨(ev_t rfl), (ev_t rfl), trivial⟩ rfl rfl rfl rfl ?_)
                                 rintro v w29 ⟨rfl, hu29⟩
                                 have hs29 := hu29.size
                                 replace hU := hU.trans hu29 (by first | exact (fun _ _ h => h) | exact (fun _ _ h => h.elim) | (intro k hl hk; (try simp only [At, New, Grow, From, No] at hk ⊢); omega) | (intro k hl hk; first | exact (show False from hk).elim | (simp only [At] at hk; omega) | (have h2 := hGr k hk; omega) | (have h2 := hGs k hk; omega) | (rcases hk with h | h; omega; have h2 := hGs k h; omega)))
                                 replace hr := hr.upd hu29 (fun k hk hl hS => by have h1 := hF k hk; first | exact (show False from hS).elim | (simp only [At] at hS; omega) | (have h2 := hGr k hS; omega) | (have h2 := hGs k hS; omega) | (rcases hS with h | h; omega; have h2 := hGs k h; omega))
                                 replace hr2 := hr2.upd hu29 (fun k hk hl hS => by have h1 := hF2 k hk; first | exact (show False from hS).elim | (simp only [At] at hS; omega) | (have h2 := hGr k hS; omega) | (have h2 := hGs k hS; omega) | (rcases hS with h | h; omega; have h2 := hGs k h; omega))
                                 replace ha := ha.upd hu29 (fun k hk hl hS => by first | exact (show False from hS).elim | (have h1 := hk.1; rcases hS with h | h; omega; have := hGs k h; omega))
                                 replace hb2 := hb2.upd hu29 (fun k hk hl hS => by first | exact (show False from hS).elim | (have h1 := hk.1; rcases hS with h | h; omega; have := hGs k h; omega))
                                 replace hH := hH.upd hu29 (fun k hk hl hS => by first | exact (show False from hS).elim | (have h2 := hGr k hS; rcases hk with hk | hk; exact h2.2.1 hk; exact h2.2.2 hk) | (have h2 := hGs k hS; rcases hk with hk | hk; exact h2.2.1 hk; exact h2.2.2.1 hk) | (simp only [At] at hS; rcases hk with hk | hk; omega; have := hGl k hk; omega))
                                 replace hO := hO.upd hu29 (fun k hk hl hS => by first | exact (show False from hS).elim | (simp only [At] at hS; have := hGs k hk; omega) | (have := hGs k hk; have := hGl k hS; omega))
                                 replace hH9 := hH9.upd hu29 (fun k hk hl hS => by first | exact (show False from hS).elim)
                                 refine WL.val rfl rfl rfl rfl (r_pickT rfl (ev_t rfl) (ev_t rfl)) ?_
                                 refine WL.val rfl rfl rfl rfl (r_move rfl (ev_t rfl)) ?_
                                 refine WL.cases 125 rfl (fun hb24_15 => ?_) (fun hb24_15 => ?_)
                                 · try (exfalso; first | (simp at hb24_15; done) | (simp only [decide_eq_true_eq, decide_eq_false_iff_not, Bool.not_eq_true', Bool.not_eq_false', Bool.not_eq_true, Bool.not_eq_false] at hb24_15; omega) | omega)
                                   all_goals
                                    try simp only [decide_eq_true_eq, decide_eq_false_iff_not, Bool.not_eq_true', Bool.not_eq_false', Bool.not_eq_true, Bool.not_eq_false, Option.isNone_none, Option.isNone_some, Option.isSome_none, Option.isSome_some, ne_eq, Decidable.not_not] at hb24_15
                                    refine WL.val rfl rfl rfl rfl (r_move rfl (ev_t rfl)) ?_
                                    refine WL.cons (SO.call (hwords_ok hH9) rfl body_22 ⟨(ev_t rfl), trivial⟩ rfl rfl rfl rfl ?_)
                                    rintro v w30 ⟨hW6, hu30⟩
                                    have hs30 := hu30.size
                                    replace hU := hU.trans hu30 (by first | exact (fun _ _ h => h) | exact (fun _ _ h => h.elim) | (intro k hl hk; (try simp only [At, New, Grow, From, No] at hk ⊢); omega) | (intro k hl hk; first | exact (show False from hk).elim | (simp only [At] at hk; omega) | (have h2 := hGr k hk; omega) | (have h2 := hGs k hk; omega) | (rcases hk with h | h; omega; have h2 := hGs k h; omega)))
                                    replace hr := hr.upd hu30 (fun k hk hl hS => by have h1 := hF k hk; first | exact (show False from hS).elim | (simp only [At] at hS; omega) | (have h2 := hGr k hS; omega) | (have h2 := hGs k hS; omega) | (rcases hS with h | h; omega; have h2 := hGs k h; omega))
                                    replace hr2 := hr2.upd hu30 (fun k hk hl hS => by have h1 := hF2 k hk; first | exact (show False from hS).elim | (simp only [At] at hS; omega) | (have h2 := hGr k hS; omega) | (have h2 := hGs k hS; omega) | (rcases hS with h | h; omega; have h2 := hGs k h; omega))
                                    replace ha := ha.upd hu30 (fun k hk hl hS => by first | exact (show False from hS).elim | (have h1 := hk.1; rcases hS with h | h; omega; have := hGs k h; omega))
                                    replace hb2 := hb2.upd hu30 (fun k hk hl hS => by first | exact (show False from hS).elim | (have h1 := hk.1; rcases hS with h | h; omega; have := hGs k h; omega))
                                    replace hH := hH.upd hu30 (fun k hk hl hS => by first | exact (show False from hS).elim | (have h2 := hGr k hS; rcases hk with hk | hk; exact h2.2.1 hk; exact h2.2.2 hk) | (have h2 := hGs k hS; rcases hk with hk | hk; exact h2.2.1 hk; exact h2.2.2.1 hk) | (simp only [At] at hS; rcases hk with hk | hk; omega; have := hGl k hk; omega))
                                    replace hO := hO.upd hu30 (fun k hk hl hS => by first | exact (show False from hS).elim | (simp only [At] at hS; have := hGs k hk; omega) | (have := hGs k hk; have := hGl k hS; omega))
                                    replace hH9 := hH9.upd hu30 (fun k hk hl hS => by first | exact (show False from hS).elim)
                                    refine WL.cons (SO.call (lwords_ok (hW6.rd (by omega)) (by omega)) rfl body_21 ⟨(ev_t rfl), trivial⟩ rfl rfl rfl rfl ?_)
                                    rintro v w31 ⟨hW7, hu31⟩
                                    have hs31 := hu31.size
                                    replace hU := hU.trans hu31 (by first | exact (fun _ _ h => h) | exact (fun _ _ h => h.elim) | (intro k hl hk; (try simp only [At, New, Grow, From, No] at hk ⊢); omega) | (intro k hl hk; first | exact (show False from hk).elim | (simp only [At] at hk; omega) | (have h2 := hGr k hk; omega) | (have h2 := hGs k hk; omega) | (rcases hk with h | h; omega; have h2 := hGs k h; omega)))
                                    replace hr := hr.upd hu31 (fun k hk hl hS => by have h1 := hF k hk; first | exact (show False from hS).elim | (simp only [At] at hS; omega) | (have h2 := hGr k hS; omega) | (have h2 := hGs k hS; omega) | (rcases hS with h | h; omega; have h2 := hGs k h; omega))
                                    replace hr2 := hr2.upd hu31 (fun k hk hl hS => by have h1 := hF2 k hk; first | exact (show False from hS).elim | (simp only [At] at hS; omega) | (have h2 := hGr k hS; omega) | (have h2 := hGs k hS; omega) | (rcases hS with h | h; omega; have h2 := hGs k h; omega))
                                    replace ha := ha.upd hu31 (fun k hk hl hS => by first | exact (show False from hS).elim | (have h1 := hk.1; rcases hS with h | h; omega; have := hGs k h; omega))
                                    replace hb2 := hb2.upd hu31 (fun k hk hl hS => by first | exact (show False from hS).elim | (have h1 := hk.1; rcases hS with h | h; omega; have := hGs k h; omega))
                                    replace hH := hH.upd hu31 (fun k hk hl hS => by first | exact (show False from hS).elim | (have h2 := hGr k hS; rcases hk with hk | hk; exact h2.2.1 hk; exact h2.2.2 hk) | (have h2 := hGs k hS; rcases hk with hk | hk; exact h2.2.1 hk; exact h2.2.2.1 hk) | (simp only [At] at hS; rcases hk with hk | hk; omega; have := hGl k hk; omega))
                                    replace hO := hO.upd hu31 (fun k hk hl hS => by first | exact (show False from hS).elim | (simp only [At] at hS; have := hGs k hk; omega) | (have := hGs k hk; have := hGl k hS; omega))
                                    replace hH9 := hH9.upd hu31 (fun k hk hl hS => by first | exact (show False from hS).elim)
                                    refine WL.val rfl rfl rfl rfl (r_move rfl (ev_t rfl)) ?_
                                    refine WL.cons (SO.call (same_ok (hW7.rd (by omega)) (ha.rd (by omega)) (by omega)) rfl body_24 ⟨(ev_t rfl), (ev_t rfl), trivial⟩ rfl rfl rfl rfl ?_)
                                    rintro v w32 ⟨rfl, hu32⟩
                                    have hs32 := hu32.size
                                    replace hU := hU.trans hu32 (by first | exact (fun _ _ h => h) | exact (fun _ _ h => h.elim) | (intro k hl hk; (try simp only [At, New, Grow, From, No] at hk ⊢); omega) | (intro k hl hk; first | exact (show False from hk).elim | (simp only [At] at hk; omega) | (have h2 := hGr k hk; omega) | (have h2 := hGs k hk; omega) | (rcases hk with h | h; omega; have h2 := hGs k h; omega)))
                                    replace hr := hr.upd hu32 (fun k hk hl hS => by have h1 := hF k hk; first | exact (show False from hS).elim | (simp only [At] at hS; omega) | (have h2 := hGr k hS; omega) | (have h2 := hGs k hS; omega) | (rcases hS with h | h; omega; have h2 := hGs k h; omega))
                                    replace hr2 := hr2.upd hu32 (fun k hk hl hS => by have h1 := hF2 k hk; first | exact (show False from hS).elim | (simp only [At] at hS; omega) | (have h2 := hGr k hS; omega) | (have h2 := hGs k hS; omega) | (rcases hS with h | h; omega; have h2 := hGs k h; omega))
                                    replace ha := ha.upd hu32 (fun k hk hl hS => by first | exact (show False from hS).elim | (have h1 := hk.1; rcases hS with h | h; omega; have := hGs k h; omega))
                                    replace hb2 := hb2.upd hu32 (fun k hk hl hS => by first | exact (show False from hS).elim | (have h1 := hk.1; rcases hS with h | h; omega; have := hGs k h; omega))
                                    replace hH := hH.upd hu32 (fun k hk hl hS => by first | exact (show False from hS).elim | (have h2 := hGr k hS; rcases hk with hk | hk; exact h2.2.1 hk; exact h2.2.2 hk) | (have h2 := hGs k hS; rcases hk with hk | hk; exact h2.2.1 hk; exact h2.2.2.1 hk) | (simp only [At] at hS; rcases hk with hk | hk; omega; have := hGl k hk; omega))
                                    replace hO := hO.upd hu32 (fun k hk hl hS => by first | exact (show False from hS).elim | (simp only [At] at hS; have := hGs k hk; omega) | (have := hGs k hk; have := hGl k hS; omega))
                                    replace hH9 := hH9.upd hu32 (fun k hk hl hS => by first | exact (show False from hS).elim)
                                    refine WL.val rfl rfl rfl rfl (r_pickT rfl (ev_t rfl) (ev_t rfl)) ?_
                                    refine WL.val rfl rfl rfl rfl (r_move rfl (ev_t rfl)) ?_
                                    refine WL.cases 132 rfl (fun hb24_22 => ?_) (fun hb24_22 => ?_)
                                    · try (exfalso; first | (simp at hb24_22; done) | (simp only [decide_eq_true_eq, decide_eq_false_iff_not, Bool.not_eq_true', Bool.not_eq_false', Bool.not_eq_true, Bool.not_eq_false] at hb24_22; omega) | omega)
                                      all_goals
                                       try simp only [decide_eq_true_eq, decide_eq_false_iff_not, Bool.not_eq_true', Bool.not_eq_false', Bool.not_eq_true, Bool.not_eq_false, Option.isNone_none, Option.isNone_some, Option.isSome_none, Option.isSome_some, ne_eq, Decidable.not_not] at hb24_22
                                       refine WL.val rfl rfl rfl rfl (r_move rfl (ev_t rfl)) ?_
                                       refine WL.cons (SO.call (count_ok hH) rfl body_29 ⟨(ev_t rfl), trivial⟩ rfl rfl rfl rfl ?_)
                                       rintro v w33 ⟨rfl, rfl⟩
                                       refine WL.val rfl rfl rfl rfl (r_eql rfl (ev_t rfl) ev_c) ?_
                                       refine WL.val rfl rfl rfl rfl (r_pickT rfl (ev_t rfl) (ev_t rfl)) ?_
                                       refine WL.val rfl rfl rfl rfl (r_assign rfl (ev_t rfl)) ?_
                                       refine WL.nil ?_
                                       refine WX.keep [(4, _)] ⟨rfl, trivial⟩ ?_
                                       refine WX.next ?_
                                       refine WC.ret ?_
                                       refine WX.retE1 rfl rfl ?_
                                       refine ⟨?_, hU⟩
                                       first
                                         | rfl
                                         | (simp; done)
                                         | trace_state
                                    · try (exfalso; first | (simp at hb24_22; done) | (simp only [decide_eq_true_eq, decide_eq_false_iff_not, Bool.not_eq_true', Bool.not_eq_false', Bool.not_eq_true, Bool.not_eq_false] at hb24_22; omega) | omega)
                                      all_goals
                                       try simp only [decide_eq_true_eq, decide_eq_false_iff_not, Bool.not_eq_true', Bool.not_eq_false', Bool.not_eq_true, Bool.not_eq_false, Option.isNone_none, Option.isNone_some, Option.isSome_none, Option.isSome_some, ne_eq, Decidable.not_not] at hb24_22
                                       refine WL.skip rfl rfl rfl ?_
                                       refine WL.skip rfl rfl rfl ?_
                                       refine WL.skip rfl rfl rfl ?_
                                       refine WL.val rfl rfl rfl rfl (r_pickF rfl (ev_t rfl) ev_c) ?_
                                       refine WL.val rfl rfl rfl rfl (r_assign rfl (ev_t rfl)) ?_
                                       refine WL.nil ?_
                                       refine WX.keep [(4, _)] ⟨rfl, trivial⟩ ?_
                                       refine WX.next ?_
                                       refine WC.ret ?_
                                       refine WX.retE1 rfl rfl ?_
                                       refine ⟨?_, hU⟩
                                       first
                                         | rfl
                                         | (simp; done)
                                         | trace_state
                                 · try (exfalso; first | (simp at hb24_15; done) | (simp only [decide_eq_true_eq, decide_eq_false_iff_not, Bool.not_eq_true', Bool.not_eq_false', Bool.not_eq_true, Bool.not_eq_false] at hb24_15; omega) | omega)
                                   all_goals
                                    try simp only [decide_eq_true_eq, decide_eq_false_iff_not, Bool.not_eq_true', Bool.not_eq_false', Bool.not_eq_true, Bool.not_eq_false, Option.isNone_none, Option.isNone_some, Option.isSome_none, Option.isSome_some, ne_eq, Decidable.not_not] at hb24_15
                                    refine WL.skip rfl rfl rfl ?_
                                    refine WL.skip rfl rfl rfl ?_
                                    refine WL.skip rfl rfl rfl ?_
                                    refine WL.skip rfl rfl rfl ?_
                                    refine WL.skip rfl rfl rfl ?_
                                    refine WL.val rfl rfl rfl rfl (r_pickF rfl (ev_t rfl) ev_c) ?_
                                    refine WL.val rfl rfl rfl rfl (r_move rfl (ev_t rfl)) ?_
                                    refine WL.skip rfl rfl rfl ?_
                                    refine WL.skip rfl rfl rfl ?_
                                    refine WL.skip rfl rfl rfl ?_
                                    refine WL.val rfl rfl rfl rfl (r_pickF rfl (ev_t rfl) ev_c) ?_
                                    refine WL.val rfl rfl rfl rfl (r_assign rfl (ev_t rfl)) ?_
                                    refine WL.nil ?_
                                    refine WX.keep [(4, _)] ⟨rfl, trivial⟩ ?_
                                    refine WX.next ?_
                                    refine WC.ret ?_
                                    refine WX.retE1 rfl rfl ?_
                                    refine ⟨?_, hU⟩
                                    first
                                      | rfl
                                      | (simp; done)
                                      | trace_state
                              · try (exfalso; first | (simp at hb24_9; done) | (simp only [decide_eq_true_eq, decide_eq_false_iff_not, Bool.not_eq_true', Bool.not_eq_false', Bool.not_eq_true, Bool.not_eq_false] at hb24_9; omega) | omega)
                                all_goals
                                 try simp only [decide_eq_true_eq, decide_eq_false_iff_not, Bool.not_eq_true', Bool.not_eq_false', Bool.not_eq_true, Bool.not_eq_false, Option.isNone_none, Option.isNone_some, Option.isSome_none, Option.isSome_some, ne_eq, Decidable.not_not] at hb24_9
                                 refine WL.skip rfl rfl rfl ?_
                                 refine WL.skip rfl rfl rfl ?_
                                 refine WL.skip rfl rfl rfl ?_
                                 refine WL.skip rfl rfl rfl ?_
                                 refine WL.val rfl rfl rfl rfl (r_pickF rfl (ev_t rfl) ev_c) ?_
                                 refine WL.val rfl rfl rfl rfl (r_move rfl (ev_t rfl)) ?_
                                 refine WL.skip rfl rfl rfl ?_
                                 refine WL.skip rfl rfl rfl ?_
                                 refine WL.skip rfl rfl rfl ?_
                                 refine WL.skip rfl rfl rfl ?_
                                 refine WL.skip rfl rfl rfl ?_
                                 refine WL.val rfl rfl rfl rfl (r_pickF rfl (ev_t rfl) ev_c) ?_
                                 refine WL.val rfl rfl rfl rfl (r_move rfl (ev_t rfl)) ?_
                                 refine WL.skip rfl rfl rfl ?_
                                 refine WL.skip rfl rfl rfl ?_
                                 refine WL.skip rfl rfl rfl ?_
                                 refine WL.val rfl rfl rfl rfl (r_pickF rfl (ev_t rfl) ev_c) ?_
                                 refine WL.val rfl rfl rfl rfl (r_assign rfl (ev_t rfl)) ?_
                                 refine WL.nil ?_
                                 refine WX.keep [(4, _)] ⟨rfl, trivial⟩ ?_
                                 refine WX.next ?_
                                 refine WC.ret ?_
                                 refine WX.retE1 rfl rfl ?_
                                 refine ⟨?_, hU⟩
                                 first
                                   | rfl
                                   | (simp; done)
                                   | trace_state
                           · try (exfalso; first | (simp at hb24_2; done) | (simp only [decide_eq_true_eq, decide_eq_false_iff_not, Bool.not_eq_true', Bool.not_eq_false', Bool.not_eq_true, Bool.not_eq_false] at hb24_2; omega) | omega)
                             all_goals
                              try simp only [decide_eq_true_eq, decide_eq_false_iff_not, Bool.not_eq_true', Bool.not_eq_false', Bool.not_eq_true, Bool.not_eq_false, Option.isNone_none, Option.isNone_some, Option.isSome_none, Option.isSome_some, ne_eq, Decidable.not_not] at hb24_2
                              refine WL.skip rfl rfl rfl ?_
                              refine WL.skip rfl rfl rfl ?_
                              refine WL.skip rfl rfl rfl ?_
                              refine WL.skip rfl rfl rfl ?_
                              refine WL.skip rfl rfl rfl ?_
                              refine WL.val rfl rfl rfl rfl (r_pickF rfl (ev_t rfl) ev_c) ?_
                              refine WL.val rfl rfl rfl rfl (r_move rfl (ev_t rfl)) ?_
                              refine WL.skip rfl rfl rfl ?_
                              refine WL.skip rfl rfl rfl ?_
                              refine WL.skip rfl rfl rfl ?_
                              refine WL.skip rfl rfl rfl ?_
                              refine WL.val rfl rfl rfl rfl (r_pickF rfl (ev_t rfl) ev_c) ?_
                              refine WL.val rfl rfl rfl rfl (r_move rfl (ev_t rfl)) ?_
                              refine WL.skip rfl rfl rfl ?_
                              refine WL.skip rfl rfl rfl ?_
                              refine WL.skip rfl rfl rfl ?_
                              refine WL.skip rfl rfl rfl ?_
                              refine WL.skip rfl rfl rfl ?_
                              refine WL.val rfl rfl rfl rfl (r_pickF rfl (ev_t rfl) ev_c) ?_
                              refine WL.val rfl rfl rfl rfl (r_move rfl (ev_t rfl)) ?_
                              refine WL.skip rfl rfl rfl ?_
                              refine WL.skip rfl rfl rfl ?_
                              refine WL.skip rfl rfl rfl ?_
                              refine WL.val rfl rfl rfl rfl (r_pickF rfl (ev_t rfl) ev_c) ?_
                              refine WL.val rfl rfl rfl rfl (r_assign rfl (ev_t rfl)) ?_
                              refine WL.nil ?_
                              refine WX.keep [(4, _)] ⟨rfl, trivial⟩ ?_
                              refine WX.next ?_
                              refine WC.ret ?_
                              refine WX.retE1 rfl rfl ?_
                              refine ⟨?_, hU⟩
                              first
                                | rfl
                                | (simp; done)
                                | trace_state
end heapTwice
end Go.Proofs.YtdpnnclkkbfihaaDoor
