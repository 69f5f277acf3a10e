/-
  Several texts put together: Hevd, Hewa, Hewb, Hewc.
-/
import Derived.Test.YtdpnnclkkbfihaaDoorZd
/-
  HeapTwice: collected twice it is as collected once; saved and loaded it is the same.
-/
namespace Go.Proofs.YtdpnnclkkbfihaaDoor
open Go
set_option linter.unusedSimpArgs false
set_option linter.unusedVariables false

/-- Collect, with an owned row of roots -/
theorem collectO_ok {w : World} {G Gr R : Nat → Prop} {p : Nat} {A : Option Addr} {c : Nat} {mem st ys : List Nat} {q n g : Nat} {vr vR : Value} (hH : HS w G p A c mem q n) (hn : n + 1 ≤ 1000000000) (hv : Vd mem st)
    (hO : Own w Gr tWord 1 vr ys.length (ys.map Wd)) (hGr : ∀ k, Gr k → k ≠ p ∧ ¬ G k) (hyl : ys.length ≤ 1000000) (hy : ∀ y ∈ ys, y < 18446744073709551616 ∧ (y % 2 = 1 ∨ y / 2 ∈ st))
    (hr : Rd w R vR (rowAt g ys.length).length 1 ((rowAt g ys.length).map ptrV)) (hg : 0 < ys.length → ∃ c, vr = .slice (some ⟨g, 0, none⟩) ys.length c) (hRl : ∀ k, R k → k < w.heap.size) (hRB : ∀ k, R k → k ≠ p ∧ (0 < ys.length → k ≠ g)) :
    Ret Tryd.prog 14 #[.pointer (some ⟨p, 0, none⟩), vR] w fun v w' => ∃ (fin to mv : List Nat) (bt : Nat), Bfs mem 0 (ys.foldl come []) fin ∧ (∀ y ∈ ys, y % 2 = 1 ∨ y / 2 ∈ fin) ∧ PI mem st fin to mv to.length ∧ HS w' (At bt) p (some ⟨bt, 0, none⟩) mem.length to q (n + 1) ∧ w.heap.size ≤ bt ∧
      Own w' Gr tWord 1 vr ys.length ((ys.map (there mem fin)).map Wd) ∧ Upd (fun k => k = p ∨ Gr k) w w' := by
  obtain ⟨g2, A2, c2, hvr, hpos, hro, hbl, hback⟩ := hO.roots
  have hgg : 0 < ys.length → g2 = g := fun h0 => by
    obtain ⟨c3, e1⟩ := hg h0
    obtain ⟨e2, _⟩ := hpos h0
    rw [hvr] at e1
    injection e1 with e1
    rw [e2] at e1
    injection e1 with e1
    injection e1 with e1
  have hrow : rowAt g ys.length = rowAt g2 ys.length := by
    rcases Nat.eq_zero_or_pos ys.length with h0 | h0
    · rw [h0]; rfl
    · rw [hgg h0]
  rw [hrow] at hr
  have hgF : ∀ k o, (k, o) ∈ rowAt g2 ys.length → Gr k ∧ k = g ∧ 0 < ys.length := fun k o ho => by
    obtain ⟨rfl, ho2⟩ := rowAt_mem ho
    obtain ⟨_, e2, _⟩ := hpos (by omega)
    exact ⟨e2, hgg (by omega), by omega⟩
  refine Calls.mono (collect_ok hH hn hv hr (rowAt_nodup _ _) hro hbl (fun e he => (hGr _ (hgF e.1 e.2 he).1).2) (fun k hk o ho => (hRB k hk).2 (hgF k o ho).2.2 (hgF k o ho).2.1) hRl (fun h => (hRB p h).1 rfl) hy (by rw [rowAt_len]; omega)) ?_
  rintro e w' ⟨v, rfl, fin, to, mv, bt, hbfs, ⟨r0, hr0⟩, hPI, hH2, hbt, hro2, hu⟩
  refine ⟨_, rfl, fin, to, mv, bt, hbfs, fun y hy2 => ?_, hPI, hH2, hbt, hback w' _ _ hu (fun h0 k hk hl hS => ?_) hro2, hu.mono fun k hl hk => ?_⟩
  · rcases come_fold_mem (ys := []) (ord := []) hy2 with h | h
    · exact .inl h
    · rw [hr0]; exact .inr (List.mem_append_left _ h)
  · rcases hS with h | ⟨o, ho⟩
    · exact (hGr k hk).1 h
    · have := (hgF k o ho).2.2; omega
  · rcases hk with h | ⟨o, ho⟩
    · exact .inl h
    · exact .inr (hgF k o ho).1
section
variable {P : Program} {o : Oper} {w : World} {x y : Operand} {t : TypeId} {N : Nat} {ops : Array Oper} {Q : Exit → Act → World → Prop} {K : Env → World → Prop} {E : Env}
theorem SO.ownSet1 {F : Nat → Prop} {T : TypeId} {n i c g q : Nat} {A : Option Addr} {ys : List Nat} {z : Nat} (h : Own w F T 1 (.slice A n c) n (ys.map Wd)) (hA : A = some ⟨g, 0, none⟩) (hi : i < n) (hq : q = i) (hop : o.op = .store t x y) (hx : Env.ev E x = .pointer (some ⟨g, q, none⟩)) (hy : Env.ev E y = Wd z) (hz : sizeIs P t 1 = true)
    (hd : o.dst = none) (ho : opsOK E o = true) (hw : wantedE ops E o = some true)
    (k : ∀ w', Upd F w w' → Own w' F T 1 (.slice A n c) n ((ys.set i z).map Wd) → w'.heap.size = w.heap.size → K E w') : SO P N ops Q o K E w := by
  obtain ⟨g', cap, cur, e, hb, hF, hnc, hcm, hcs, htake⟩ := h.open (by omega)
  subst hA hq
  injection e with e1 e2 e3
  injection e1 with e1
  injection e1 with e1 _
  subst e1 e3
  refine SO.store hop hx hy hz hb (by rw [Nat.blt_eq]; omega) rfl hd ho hw fun w' hu hb' hs => k w' (hu.mono fun k _ hk => by simp only [At] at hk; subst hk; exact hF) ?_ hs
  have h2 := Own.shut (sz := 1) (n := n) hb' hF hnc hcm (by rw [Array.size_setIfInBounds]; exact hcs)
  rw [Array.toList_setIfInBounds, List.take_set, htake, ← List.map_set] at h2
  exact h2
end
namespace heapTwice
set_option maxHeartbeats 8000000 in
theorem walk {w : World} {F F2 : Nat → Prop} {v v2 : Value} {l ro : List Nat} (hr : Rd w F v l.length 1 (l.map Wd)) (hF : ∀ k, F k → k < w.heap.size) (hw : ∀ y ∈ l, y < 18446744073709551616)
    (hr2 : Rd w F2 v2 ro.length 1 (ro.map Wd)) (hF2 : ∀ k, F2 k → k < w.heap.size) (hw2 : ∀ y ∈ ro, y < 18446744073709551616) : Ret Tryd.prog 6 #[v, v2] w fun v w' => v = .bool true ∧ Upd No w w' := by
  have hlm := hr.le
  have hlm2 := hr2.le
  obtain ⟨A, c, rfl, hc⟩ := hr.slice_form
  obtain ⟨A2, c2, rfl, hc2⟩ := hr2.slice_form
  generalize hB : w.heap.size = B at *
  refine enterRet (vs := [_, _]) (N := 137) Tryd.func6 rfl rfl rfl ?_
  have hU := Upd.refl No w
  refine WC.keep [(0, _), (1, _)] ⟨rfl, rfl, trivial⟩ ?_
  refine WC.seq ?_
  refine WC.region ?_
  refine WL.val rfl rfl rfl rfl (r_assign rfl ev_c) ?_
  refine WL.nil ?_
  refine WX.keep [(0, _), (1, _)] ⟨rfl, rfl, trivial⟩ ?_
  refine WX.next ?_
  refine WC.seq ?_
  refine WC.seq ?_
  refine WC.region ?_
  refine WL.cons (SO.call (awake_ok) rfl body_9 trivial rfl rfl rfl rfl ?_)
  rintro v w1 ⟨rfl, hu1⟩
  have hs1 := hu1.size
  replace hU := hU.trans hu1 (by exact (fun _ _ h => h))
  replace hr := hr.upd hu1 (fun k hk hl hS => by have h1 := hF k hk; exact (show False from hS).elim)
  replace hr2 := hr2.upd hu1 (fun k hk hl hS => by have h1 := hF2 k hk; exact (show False from hS).elim)
  refine WL.val rfl rfl rfl rfl (r_not rfl (ev_t rfl)) ?_
  refine WL.val rfl rfl rfl rfl (r_move rfl (ev_t rfl)) ?_
  refine WL.cases 19 rfl (fun hb1_2 => ?_) (fun hb1_2 => ?_)
  · try (exfalso; first | (simp at hb1_2; done) | (simp only [decide_eq_true_eq, decide_eq_false_iff_not, Bool.not_eq_true', Bool.not_eq_false', Bool.not_eq_true, Bool.not_eq_false] at hb1_2; omega) | omega)
  · try (exfalso; first | (simp at hb1_2; done) | (simp only [decide_eq_true_eq, decide_eq_false_iff_not, Bool.not_eq_true', Bool.not_eq_false', Bool.not_eq_true, Bool.not_eq_false] at hb1_2; omega) | omega)
    all_goals
     try simp only [decide_eq_true_eq, decide_eq_false_iff_not, Bool.not_eq_true', Bool.not_eq_false', Bool.not_eq_true, Bool.not_eq_false, Option.isNone_none, Option.isNone_some, Option.isSome_none, Option.isSome_some, ne_eq, Decidable.not_not] at hb1_2
     refine WL.val rfl rfl rfl rfl (r_move rfl (ev_t rfl)) ?_
     refine WL.val rfl rfl rfl rfl (r_lenSlice (ts := #[]) rfl (ev_t rfl) elem_46) ?_
     refine WL.val rfl rfl rfl rfl (r_gtr rfl (ev_t rfl) ev_c) ?_
     refine WL.val rfl rfl rfl rfl (r_pickF rfl (ev_t rfl) (ev_t rfl)) ?_
     refine WL.val rfl rfl rfl rfl (r_move rfl (ev_t rfl)) ?_
     refine WL.cases 24 rfl (fun hb1_7 => ?_) (fun hb1_7 => ?_)
     · try (exfalso; first | (simp at hb1_7; done) | (simp only [decide_eq_true_eq, decide_eq_false_iff_not, Bool.not_eq_true', Bool.not_eq_false', Bool.not_eq_true, Bool.not_eq_false] at hb1_7; omega) | omega)
       all_goals
        try simp only [decide_eq_true_eq, decide_eq_false_iff_not, Bool.not_eq_true', Bool.not_eq_false', Bool.not_eq_true, Bool.not_eq_false, Option.isNone_none, Option.isNone_some, Option.isSome_none, Option.isSome_some, ne_eq, Decidable.not_not] at hb1_7
        refine WL.skip rfl rfl rfl ?_
        refine WL.skip rfl rfl rfl ?_
        refine WL.skip rfl rfl rfl ?_
        refine WL.val rfl rfl rfl rfl (r_pickT rfl (ev_t rfl) ev_c) ?_
        refine WL.val rfl rfl rfl rfl (r_move rfl (ev_t rfl)) ?_
        refine WL.skip rfl rfl rfl ?_
        refine WL.skip rfl rfl rfl ?_
        refine WL.skip rfl rfl rfl ?_
        refine WL.val rfl rfl rfl rfl (r_pickT rfl (ev_t rfl) ev_c) ?_
        refine WL.nil ?_
        refine WX.keep [(0, _), (1, _), (33, _)] ⟨rfl, rfl, rfl, trivial⟩ ?_
        refine WX.next ?_
        refine WC.cond_true rfl (ev_t rfl) ?_
        refine WC.seq ?_
        refine WC.region ?_
        refine WL.cons (SO.call (awake_ok) rfl body_9 trivial rfl rfl rfl rfl ?_)
        rintro v w3 ⟨rfl, hu3⟩
        have hs3 := hu3.size
        replace hU := hU.trans hu3 (by exact (fun _ _ h => h))
        replace hr := hr.upd hu3 (fun k hk hl hS => by have h1 := hF k hk; exact (show False from hS).elim)
        replace hr2 := hr2.upd hu3 (fun k hk hl hS => by have h1 := hF2 k hk; exact (show False from hS).elim)
        refine WL.val rfl rfl rfl rfl (r_assign rfl (ev_t rfl)) ?_
        refine WL.nil ?_
        refine WX.keep [(4, _)] ⟨rfl, trivial⟩ ?_
        refine WX.next ?_
        refine WC.ret ?_
        refine WX.thenRet ?_
        refine WX.retE1 rfl rfl ?_
        exact ⟨rfl, hU⟩
     · try (exfalso; first | (simp at hb1_7; done) | (simp only [decide_eq_true_eq, decide_eq_false_iff_not, Bool.not_eq_true', Bool.not_eq_false', Bool.not_eq_true, Bool.not_eq_false] at hb1_7; omega) | omega)
       all_goals
        try simp only [decide_eq_true_eq, decide_eq_false_iff_not, Bool.not_eq_true', Bool.not_eq_false', Bool.not_eq_true, Bool.not_eq_false, Option.isNone_none, Option.isNone_some, Option.isSome_none, Option.isSome_some, ne_eq, Decidable.not_not] at hb1_7
        refine WL.val rfl rfl rfl rfl (r_move rfl (ev_t rfl)) ?_
        refine WL.val rfl rfl rfl rfl (r_lenSlice (ts := #[]) rfl (ev_t rfl) elem_46) ?_
        refine WL.val rfl rfl rfl rfl (r_gtr rfl (ev_t rfl) ev_c) ?_
        refine WL.val rfl rfl rfl rfl (r_pickF rfl (ev_t rfl) (ev_t rfl)) ?_
        refine WL.val rfl rfl rfl rfl (r_move rfl (ev_t rfl)) ?_
        refine WL.cases 29 rfl (fun hb1_12 => ?_) (fun hb1_12 => ?_)
        · try (exfalso; first | (simp at hb1_12; done) | (simp only [decide_eq_true_eq, decide_eq_false_iff_not, Bool.not_eq_true', Bool.not_eq_false', Bool.not_eq_true, Bool.not_eq_false] at hb1_12; omega) | omega)
          all_goals
           try simp only [decide_eq_true_eq, decide_eq_false_iff_not, Bool.not_eq_true', Bool.not_eq_false', Bool.not_eq_true, Bool.not_eq_false, Option.isNone_none, Option.isNone_some, Option.isSome_none, Option.isSome_some, ne_eq, Decidable.not_not] at hb1_12
           refine WL.skip rfl rfl rfl ?_
           refine WL.skip rfl rfl rfl ?_
           refine WL.skip rfl rfl rfl ?_
           refine WL.val rfl rfl rfl rfl (r_pickT rfl (ev_t rfl) ev_c) ?_
           refine WL.nil ?_
           refine WX.keep [(0, _), (1, _), (33, _)] ⟨rfl, rfl, rfl, trivial⟩ ?_
           refine WX.next ?_
           refine WC.cond_true rfl (ev_t rfl) ?_
           refine WC.seq ?_
           refine WC.region ?_
           refine WL.cons (SO.call (awake_ok) rfl body_9 trivial rfl rfl rfl rfl ?_)
           rintro v w4 ⟨rfl, hu4⟩
           have hs4 := hu4.size
           replace hU := hU.trans hu4 (by exact (fun _ _ h => h))
           replace hr := hr.upd hu4 (fun k hk hl hS => by have h1 := hF k hk; exact (show False from hS).elim)
           replace hr2 := hr2.upd hu4 (fun k hk hl hS => by have h1 := hF2 k hk; exact (show False from hS).elim)
           refine WL.val rfl rfl rfl rfl (r_assign rfl (ev_t rfl)) ?_
           refine WL.nil ?_
           refine WX.keep [(4, _)] ⟨rfl, trivial⟩ ?_
           refine WX.next ?_
           refine WC.ret ?_
           refine WX.thenRet ?_
           refine WX.retE1 rfl rfl ?_
           exact ⟨rfl, hU⟩
        · try (exfalso; first | (simp at hb1_12; done) | (simp only [decide_eq_true_eq, decide_eq_false_iff_not, Bool.not_eq_true', Bool.not_eq_false', Bool.not_eq_true, Bool.not_eq_false] at hb1_12; omega) | omega)
          all_goals
           try simp only [decide_eq_true_eq, decide_eq_false_iff_not, Bool.not_eq_true', Bool.not_eq_false', Bool.not_eq_true, Bool.not_eq_false, Option.isNone_none, Option.isNone_some, Option.isSome_none, Option.isSome_some, ne_eq, Decidable.not_not] at hb1_12
           refine WL.val rfl rfl rfl rfl (r_move rfl (ev_t rfl)) ?_
           refine WL.cons (SO.call (right_ok hr (by omega) (fun k hk => by have := hF k hk; have := hU.size; omega) hw) rfl body_25 ⟨(ev_t rfl), trivial⟩ rfl rfl rfl rfl ?_)
           rintro v w5 ⟨b, rfl, hu5, hb⟩
           have hs5 := hu5.size
           replace hU := hU.trans hu5 (by exact (fun _ _ h => h))
           replace hr := hr.upd hu5 (fun k hk hl hS => by have h1 := hF k hk; exact (show False from hS).elim)
           replace hr2 := hr2.upd hu5 (fun k hk hl hS => by have h1 := hF2 k hk; exact (show False from hS).elim)
           refine WL.val rfl rfl rfl rfl (r_not rfl (ev_t rfl)) ?_
           refine WL.val rfl rfl rfl rfl (r_pickF rfl (ev_t rfl) (ev_t rfl)) ?_
           refine WL.nil ?_
           refine WX.keep [(0, _), (1, _), (33, _)] ⟨rfl, rfl, rfl, trivial⟩ ?_
           refine WX.next ?_
           refine WC.cond rfl (ev_t rfl) (fun hc1 => ?_) (fun hc1 => ?_)
           · try (exfalso; first | (simp at hc1; done) | (simp only [decide_eq_true_eq, decide_eq_false_iff_not, Bool.not_eq_true', Bool.not_eq_false', Bool.not_eq_true, Bool.not_eq_false] at hc1; omega) | omega)
             all_goals
              try simp only [decide_eq_true_eq, decide_eq_false_iff_not, Bool.not_eq_true', Bool.not_eq_false', Bool.not_eq_true, Bool.not_eq_false, Option.isNone_none, Option.isNone_some, Option.isSome_none, Option.isSome_some, ne_eq, Decidable.not_not] at hc1
              refine WC.seq ?_
              refine WC.region ?_
              refine WL.cons (SO.call (awake_ok) rfl body_9 trivial rfl rfl rfl rfl ?_)
              rintro v w6 ⟨rfl, hu6⟩
              have hs6 := hu6.size
              replace hU := hU.trans hu6 (by exact (fun _ _ h => h))
              replace hr := hr.upd hu6 (fun k hk hl hS => by have h1 := hF k hk; exact (show False from hS).elim)
              replace hr2 := hr2.upd hu6 (fun k hk hl hS => by have h1 := hF2 k hk; exact (show False from hS).elim)
              refine WL.val rfl rfl rfl rfl (r_assign rfl (ev_t rfl)) ?_
              refine WL.nil ?_
              refine WX.keep [(4, _)] ⟨rfl, trivial⟩ ?_
              refine WX.next ?_
              refine WC.ret ?_
              refine WX.thenRet ?_
              refine WX.retE1 rfl rfl ?_
              exact ⟨rfl, hU⟩
           · try (exfalso; first | (simp at hc1; done) | (simp only [decide_eq_true_eq, decide_eq_false_iff_not, Bool.not_eq_true', Bool.not_eq_false', Bool.not_eq_true, Bool.not_eq_false] at hc1; omega) | omega)
             all_goals
              try simp only [decide_eq_true_eq, decide_eq_false_iff_not, Bool.not_eq_true', Bool.not_eq_false', Bool.not_eq_true, Bool.not_eq_false, Option.isNone_none, Option.isNone_some, Option.isSome_none, Option.isSome_some, ne_eq, Decidable.not_not] at hc1
              have hb' : b = true := by first | (simpa using hc1) | (simp_all)
              have hl2000 : l.length ≤ 2000 ∧ ro.length ≤ 50 := by omega
              obtain ⟨st, hg⟩ := hb hb'
              have hTl := hg.vd.tile
              refine WC.skip ?_
              refine WX.next ?_
              refine WC.seq ?_
              refine WC.region ?_
              refine WL.val rfl rfl rfl rfl (r_move rfl (ev_t rfl)) ?_
              refine WL.cons (SO.call (back_ok hr (by omega)) rfl body_27 ⟨(ev_t rfl), trivial⟩ rfl rfl rfl rfl ?_)
              rintro v w7 ⟨how, hu7⟩
              have hs7 := hu7.size
              replace hU := hU.trans hu7 (by exact (fun _ _ h => h))
              replace hr := hr.upd hu7 (fun k hk hl hS => by have h1 := hF k hk; exact (show False from hS).elim)
              replace hr2 := hr2.upd hu7 (fun k hk hl hS => by have h1 := hF2 k hk; exact (show False from hS).elim)
              have hsz3 := (hu7).size
              refine WL.cons (SO.call (load_ok (how.rd (by omega)) (by omega) (fun k hk => hk.2) hg) rfl body_26 ⟨ev_c, (ev_t rfl), trivial⟩ rfl rfl rfl rfl ?_)
              rintro v w8 ⟨G, p, A1, c1, rfl, hH, hBp, hGB, hu8⟩
              have hs8 := hu8.size
              replace hU := hU.trans hu8 (by exact (fun _ _ h => h))
              replace hr := hr.upd hu8 (fun k hk hl hS => by have h1 := hF k hk; exact (show False from hS).elim)
              replace hr2 := hr2.upd hu8 (fun k hk hl hS => by have h1 := hF2 k hk; exact (show False from hS).elim)
              have hpB : B ≤ p := by have := hU.size; omega
              refine WL.val rfl rfl rfl rfl (r_move rfl (ev_t rfl)) ?_
              refine WL.val rfl rfl rfl rfl (r_extract rfl (ev_t rfl) rfl) ?_
              refine WL.val rfl rfl rfl rfl (r_extract rfl (ev_t rfl) rfl) ?_
              refine WL.val rfl rfl rfl rfl (r_assign rfl (ev_t rfl)) ?_
              refine WL.val rfl rfl rfl rfl (r_assign rfl (ev_t rfl)) ?_
              refine WL.nil ?_
              refine WX.keep [(0, _), (1, _), (5, _), (6, _)] ⟨rfl, rfl, rfl, rfl, trivial⟩ ?_
              refine WX.next ?_
              refine WC.seq ?_
              refine WC.seq ?_
              refine WC.region ?_
              refine WL.val rfl rfl rfl rfl (r_move rfl (ev_t rfl)) ?_
              refine WL.val rfl rfl rfl rfl (r_neq rfl (ev_t rfl) ev_c) ?_
              refine WL.nil ?_
              refine WX.keep [(0, _), (1, _), (5, _), (42, _)] ⟨rfl, rfl, rfl, rfl, trivial⟩ ?_
              refine WX.next ?_
              refine WC.cond rfl (ev_t rfl) (fun hc4 => ?_) (fun hc4 => ?_)
              · try (exfalso; first | (simp at hc4; done) | (simp only [decide_eq_true_eq, decide_eq_false_iff_not, Bool.not_eq_true', Bool.not_eq_false', Bool.not_eq_true, Bool.not_eq_false] at hc4; omega) | omega)
              · try (exfalso; first | (simp at hc4; done) | (simp only [decide_eq_true_eq, decide_eq_false_iff_not, Bool.not_eq_true', Bool.not_eq_false', Bool.not_eq_true, Bool.not_eq_false] at hc4; omega) | omega)
                all_goals
                 try simp only [decide_eq_true_eq, decide_eq_false_iff_not, Bool.not_eq_true', Bool.not_eq_false', Bool.not_eq_true, Bool.not_eq_false, Option.isNone_none, Option.isNone_some, Option.isSome_none, Option.isSome_some, ne_eq, Decidable.not_not] at hc4
                 refine WC.skip ?_
                 refine WX.next ?_
                 refine WC.seq ?_
                 refine WC.region ?_
                 refine WL.val rfl rfl rfl rfl (r_assign rfl ev_c) ?_
                 refine WL.nil ?_
                 refine WX.keep [(0, _), (1, _), (5, _), (7, _)] ⟨rfl, rfl, rfl, rfl, trivial⟩ ?_
                 refine WX.next ?_
                 refine WC.seq ?_
                 refine WC.seq ?_
                 refine WC.region ?_
                 refine WL.val rfl rfl rfl rfl (r_assign rfl ev_c) ?_
                 refine WL.nil ?_
                 refine WX.keep [(0, _), (1, _), (5, _), (7, _), (8, _)] ⟨rfl, rfl, rfl, rfl, rfl, trivial⟩ ?_
                 refine WX.next ?_
                 refine WC.block ?_
                 -- loop 1: live [0, 1, 5, 7, 8]
                 refine WC.keep [(0, _), (1, _), (5, _), (7, _), (8, _)] ⟨rfl, rfl, rfl, rfl, rfl, trivial⟩ ?_
                 refine WC.loop (fun qq E wC => ∃ (j : Nat) (ys : List Nat) (vr : Value) (Gr : Nat → Prop), j ≤ ro.length ∧ qq = ro.length - j ∧ ys.length = j ∧ (∀ y ∈ ys, y < 18446744073709551616 ∧ y % 2 = 1) ∧ Upd No w wC ∧ Rd wC F (.slice A l.length c) l.length 1 (l.map Wd) ∧ Rd wC F2 (.slice A2 ro.length c2) ro.length 1 (ro.map Wd) ∧ HS wC G p A1 c1 l 5000 0 ∧ Own wC Gr tWord 1 vr j (ys.map Wd) ∧ (∀ k, Gr k → B ≤ k ∧ k ≠ p ∧ ¬ G k) ∧ E = [(0, .slice A l.length c), (1, .slice A2 ro.length c2), (5, .pointer (some ⟨p, 0, none⟩)), (7, vr), (8, .int .i64 (j : Int))]) (ro.length) ?_ ?_
                 · exact ⟨0, [], _, No, by omega, by omega, rfl, fun _ h => (by cases h), hU, hr, hr2, hH, Own.nil _ _ _ _, fun k h => h.elim, rfl⟩
                 · clear hU hr hr2 hH
                   rintro qq E wC ⟨j, ys, vr, Gr, hj, rfl, hyl, hyo, hU, hr, hr2, hH, hO, hGr, rfl⟩
                   have hUs := hU.size
                   have hGl := hH.lt
                   have hpl := hH.hd.lt
                   refine WC.seq ?_
                   refine WC.seq ?_
                   refine WC.region ?_
                   refine WL.val rfl rfl rfl rfl (r_move rfl (ev_t rfl)) ?_
                   refine WL.val rfl rfl rfl rfl (r_move rfl (ev_t rfl)) ?_
                   refine WL.val rfl rfl rfl rfl (r_lenSlice (ts := #[]) rfl (ev_t rfl) elem_46) ?_
                   refine WL.val rfl rfl rfl rfl (r_lss rfl (ev_t rfl) (ev_t rfl)) ?_
                   refine WL.nil ?_
                   refine WX.keep [(0, _), (1, _), (5, _), (7, _), (8, _), (46, _)] ⟨rfl, rfl, rfl, rfl, rfl, rfl, trivial⟩ ?_
                   refine WX.next ?_
                   refine WC.cond rfl (ev_t rfl) (fun hc8 => ?_) (fun hc8 => ?_)
                   · try (exfalso; first | (simp at hc8; done) | (simp only [decide_eq_true_eq, decide_eq_false_iff_not, Bool.not_eq_true', Bool.not_eq_false', Bool.not_eq_true, Bool.not_eq_false] at hc8; omega) | omega)
                     all_goals
                      try simp only [decide_eq_true_eq, decide_eq_false_iff_not, Bool.not_eq_true', Bool.not_eq_false', Bool.not_eq_true, Bool.not_eq_false, Option.isNone_none, Option.isNone_some, Option.isSome_none, Option.isSome_some, ne_eq, Decidable.not_not] at hc8
                      have hjl : j < ro.length := by omega
                      obtain ⟨b1, off1, rfl, _⟩ := hr2.open (by omega)
                      obtain ⟨x, hxj⟩ : ∃ x, ro[j]? = some x := ⟨_, List.getElem?_eq_getElem hjl⟩
                      refine WC.skip ?_
                      refine WX.next ?_
                      refine WC.seq ?_
                      refine WC.block ?_
                      refine WC.region ?_
                      refine WL.val rfl rfl rfl rfl (r_move rfl (ev_t rfl)) ?_
                      refine WL.val rfl rfl rfl rfl (r_move rfl (ev_t rfl)) ?_
                      refine WL.val rfl rfl rfl rfl (r_move rfl (ev_t rfl)) ?_
                      refine WL.val rfl rfl rfl rfl (r_indexAddr rfl (ev_t rfl) (ev_t rfl) elem_46 size_31 (by omega) (by omega)) ?_
                      refine WL.val rfl rfl rfl rfl (r_load rfl (ev_t rfl) flat_31 (hr2.cell (j := j) (u := Wd x) (show off1 + (j : Int).toNat * 1 = off1 + j by omega) (by rw [List.getElem?_map, hxj]; rfl))) ?_
                      refine WL.val rfl rfl rfl rfl (r_conv rfl (ev_t rfl) some_31 int_2) ?_
                      refine WL.cons (SO.call (num_ok) rfl body_17 ⟨(ev_t rfl), trivial⟩ rfl rfl rfl rfl ?_)
                      rintro v w9 ⟨rfl, rfl⟩
                      generalize hzz : numW (IntKind.i64.wrap (x : Int)) = z at *
                      have hz1 : z < 18446744073709551616 ∧ z % 2 = 1 := by rw [← hzz]; exact ⟨numW_lt _, numW_odd _⟩
                      refine WL.cons (SO.alloc rfl rfl rfl rfl (r_buildSlice1 (vs := [_]) rfl ⟨(ev_t rfl), trivial⟩ rfl row_30 rfl rfl) ?_)
                      intro w10 hu10 hB10 hz10
                      have hs10 := hu10.size
                      replace hU := hU.trans hu10 (by exact (fun _ _ h => h))
                      replace hr := hr.upd hu10 (fun k hk hl hS => by have h1 := hF k hk; exact (show False from hS).elim)
                      replace hr2 := hr2.upd hu10 (fun k hk hl hS => by have h1 := hF2 k hk; exact (show False from hS).elim)
                      replace hH := hH.upd hu10 (fun k hk hl hS => by exact (show False from hS).elim)
                      replace hO := hO.upd hu10 (fun k hk hl hS => by exact (show False from hS).elim)
                      refine WL.cons (SO.append hO (show Rd _ _ _ 1 1 [Wd z] from Rd.of_blk (F := At _) (n := 1) (sz := 1) hB10 rfl rfl (by omega)) row_30 (fun u hu => by simp at hu; subst hu; rfl) (le_maxLen (by omega)) (by omega) rfl (ev_t rfl) (ev_t rfl) rfl rfl rfl rfl ?_)
                      intro v11 w11 hO hu11
                      have hs11 := hu11.size
                      replace hU := hU.trans hu11 (by (intro k hl hk; first | exact (show False from hk).elim | (simp only [At] at hk; omega) | (have h2 := hGr k hk; omega) | (have h2 := hGs k hk; omega) | (rcases hk with h | h; omega; have h2 := hGs k h; omega)))
                      replace hr := hr.upd hu11 (fun k hk hl hS => by have h1 := hF k hk; (have h2 := hGr k hS; omega))
                      replace hr2 := hr2.upd hu11 (fun k hk hl hS => by have h1 := hF2 k hk; (have h2 := hGr k hS; omega))
                      replace hH := hH.upd hu11 (fun k hk hl hS => by (have h2 := hGr k hS; rcases hk with hk | hk; exact h2.2.1 hk; exact h2.2.2 hk))
                      obtain ⟨A11, c11, rfl, hc11⟩ := Own.form hO
                      refine WL.val rfl rfl rfl rfl (r_assign rfl (ev_t rfl)) ?_
                      refine WL.nil ?_
                      refine WX.keep [(0, _), (1, _), (5, _), (7, _), (8, _)] ⟨rfl, rfl, rfl, rfl, rfl, trivial⟩ ?_
                      refine WX.blockNormal ?_
                      refine WX.next ?_
                      refine WC.region ?_
                      refine WL.val rfl rfl rfl rfl (r_move rfl (ev_t rfl)) ?_
                      refine WL.val rfl rfl rfl rfl (r_addN rfl (ev_t rfl) ev_c (by simp only [inK]; omega)) ?_
                      refine WL.val rfl rfl rfl rfl (r_assign rfl (ev_t rfl)) ?_
                      refine WL.nil ?_
                      refine WX.keep [(0, _), (1, _), (5, _), (7, _), (8, _)] ⟨rfl, rfl, rfl, rfl, rfl, trivial⟩ ?_
                      refine WX.meet [(0, _), (1, _), (5, _), (7, _), (8, _)] ⟨rfl, rfl, rfl, rfl, rfl, trivial⟩ ?_
                      rw [show ys.map Wd ++ [Wd z] = (ys ++ [z]).map Wd by simp] at hO
                      have hs9 := (hu11).size
                      refine ⟨ro.length - (j + 1), by omega, j + 1, ys ++ [z], _, _, by omega, rfl, by simp [hyl], ?_, hU, hr, hr2, hH, hO, ?_, rfl⟩
                      · intro y hy
                        rcases List.mem_append.1 hy with hy | hy
                        · exact hyo y hy
                        · simp at hy; subst hy; exact hz1
                      · intro k hk
                        rcases hk with hk | hk
                        · exact hGr k hk
                        · exact ⟨by omega, by omega, fun h => by have := hGl k h; omega⟩
                   · try (exfalso; first | (simp at hc8; done) | (simp only [decide_eq_true_eq, decide_eq_false_iff_not, Bool.not_eq_true', Bool.not_eq_false', Bool.not_eq_true, Bool.not_eq_false] at hc8; omega) | omega)
                     all_goals
                      try simp only [decide_eq_true_eq, decide_eq_false_iff_not, Bool.not_eq_true', Bool.not_eq_false', Bool.not_eq_true, Bool.not_eq_false, Option.isNone_none, Option.isNone_some, Option.isSome_none, Option.isSome_some, ne_eq, Decidable.not_not] at hc8
                      refine WC.exit ?_
                      refine WX.thenExit ?_
                      refine WX.thenExit ?_
                      refine WX.blockHere ?_
                      refine WX.next ?_
                      refine WC.seq ?_
                      obtain rfl : j = ro.length := by omega
                      obtain ⟨Ar, cr, rfl, hcr⟩ := hO.form
                      replace hO := hO.bound
                      obtain ⟨z1, hz1⟩ : ∃ z, z = wC.heap.size := ⟨_, rfl⟩
                      rw [← hz1] at hO
                      generalize hGe : (fun k => Gr k ∧ k < z1) = Gs at hO
                      have hGs : ∀ k, Gs k → B ≤ k ∧ k ≠ p ∧ ¬ G k ∧ k < z1 := by subst hGe; exact fun k h => ⟨(hGr k h.1).1, (hGr k h.1).2.1, (hGr k h.1).2.2, h.2⟩
                      clear hGe
                      refine WC.region ?_
                      refine WL.val rfl rfl rfl rfl (r_assign rfl ev_c) ?_
                      refine WL.nil ?_
                      refine WX.keep [(0, _), (1, _), (5, _), (7, _), (9, _)] ⟨rfl, rfl, rfl, rfl, rfl, trivial⟩ ?_
                      refine WX.next ?_
                      refine WC.seq ?_
                      refine WC.seq ?_
                      refine WC.region ?_
                      refine WL.val rfl rfl rfl rfl (r_assign rfl ev_c) ?_
                      refine WL.nil ?_
                      refine WX.keep [(0, _), (1, _), (5, _), (7, _), (9, _), (10, _)] ⟨rfl, rfl, rfl, rfl, rfl, rfl, trivial⟩ ?_
                      refine WX.next ?_
                      refine WC.block ?_
                      -- loop 2: live [0, 1, 5, 7, 9, 10]
                      refine WC.keep [(0, _), (1, _), (5, _), (7, _), (9, _), (10, _)] ⟨rfl, rfl, rfl, rfl, rfl, rfl, trivial⟩ ?_
                      refine WC.loop (fun qq E wC => ∃ (m k : Nat) (ys : List Nat), m ≤ l.length ∧ qq = l.length - m ∧ Tile l m (st.drop k) ∧ ys.length = ro.length ∧ (∀ y ∈ ys, y < 18446744073709551616 ∧ (y % 2 = 1 ∨ y / 2 ∈ st)) ∧ Upd No w wC ∧ Rd wC F (.slice A l.length c) l.length 1 (l.map Wd) ∧ Rd wC F2 (.slice A2 ro.length c2) ro.length 1 (ro.map Wd) ∧ HS wC G p A1 c1 l 5000 0 ∧ Own wC Gs tWord 1 (.slice Ar ro.length cr) ro.length (ys.map Wd) ∧ z1 ≤ wC.heap.size ∧ k ≤ l.length ∧ k ≤ m ∧ E = [(0, .slice A l.length c), (1, .slice A2 ro.length c2), (5, .pointer (some ⟨p, 0, none⟩)), (7, .slice Ar ro.length cr), (9, .int .i64 (m : Int)), (10, .int .i64 (k : Int))]) (l.length) ?_ ?_
                      · exact ⟨0, 0, ys, by omega, by omega, hTl, hyl, fun y hy => ⟨(hyo y hy).1, .inl (hyo y hy).2⟩, hU, hr, hr2, hH, hO, by omega, by omega, by omega, rfl⟩
                      · clear hU hr hr2 hH hO hyo hyl
                        rintro qq E wC ⟨m, k, ys, hm, rfl, hTm, hyl, hyo, hU, hr, hr2, hH, hO, hzl, hkl, hkm, rfl⟩
                        have hUs := hU.size
                        have hGl := hH.lt
                        have hpl := hH.hd.lt
                        refine WC.seq ?_
                        refine WC.seq ?_
                        refine WC.region ?_
                        refine WL.val rfl rfl rfl rfl (r_move rfl (ev_t rfl)) ?_
                        refine WL.val rfl rfl rfl rfl (r_move rfl (ev_t rfl)) ?_
                        refine WL.val rfl rfl rfl rfl (r_lenSlice (ts := #[]) rfl (ev_t rfl) elem_46) ?_
                        refine WL.val rfl rfl rfl rfl (r_lss rfl (ev_t rfl) (ev_t rfl)) ?_
                        refine WL.nil ?_
                        refine WX.keep [(0, _), (1, _), (5, _), (7, _), (9, _), (10, _), (61, _)] ⟨rfl, rfl, rfl, rfl, rfl, rfl, rfl, trivial⟩ ?_
                        refine WX.next ?_
                        refine WC.cond rfl (ev_t rfl) (fun hc13 => ?_) (fun hc13 => ?_)
                        · try (exfalso; first | (simp at hc13; done) | (simp only [decide_eq_true_eq, decide_eq_false_iff_not, Bool.not_eq_true', Bool.not_eq_false', Bool.not_eq_true, Bool.not_eq_false] at hc13; omega) | omega)
                          all_goals
                           try simp only [decide_eq_true_eq, decide_eq_false_iff_not, Bool.not_eq_true', Bool.not_eq_false', Bool.not_eq_true, Bool.not_eq_false, Option.isNone_none, Option.isNone_some, Option.isSome_none, Option.isSome_some, ne_eq, Decidable.not_not] at hc13
                           have hml : m < l.length := by omega
                           obtain ⟨rest, hdr, g1, hTn⟩ := hTm.head_ hml
                           have hk : st[k]? = some m := by rw [← List.head?_drop, hdr]; rfl
                           have hdr2 : st.drop (k + 1) = rest := by rw [← List.tail_drop, hdr]; rfl
                           have hms : m ∈ st := List.mem_of_getElem? hk
                           have hszp := szAt_pos l m
                           refine WC.skip ?_
                           refine WX.next ?_
                           refine WC.seq ?_
                           refine WC.block ?_
                           refine WC.seq ?_
                           refine WC.region ?_
                           refine WL.val rfl rfl rfl rfl (r_move rfl (ev_t rfl)) ?_
                           refine WL.val rfl rfl rfl rfl (r_move rfl (ev_t rfl)) ?_
                           refine WL.cons (SO.call (at9_ok hr (by omega) (by omega) (fun k hk => by have := hF k hk; have := hU.size; omega) hw) rfl body_28 ⟨(ev_t rfl), (ev_t rfl), trivial⟩ rfl rfl rfl rfl ?_)
                           rintro v w12 ⟨kd, n9, vP, ps, s9, rfl, hP, hu12, hres⟩
                           obtain ⟨AP, cP, rfl, _⟩ := hP.form
                           have hs12 := hu12.size
                           replace hU := hU.trans hu12 (by exact (fun _ _ h => h))
                           replace hr := hr.upd hu12 (fun k hk hl hS => by have h1 := hF k hk; exact (show False from hS).elim)
                           replace hr2 := hr2.upd hu12 (fun k hk hl hS => by have h1 := hF2 k hk; exact (show False from hS).elim)
                           replace hH := hH.upd hu12 (fun k hk hl hS => by exact (show False from hS).elim)
                           replace hO := hO.upd hu12 (fun k hk hl hS => by exact (show False from hS).elim)
                           have hval : validAt l m := ⟨hml, (hg.kd m hms).1, (hg.kd m hms).2, hg.n8 hms, g1⟩
                           have hv9 : n9 = szAt l m := by
                             rcases hres with ⟨h, _⟩ | ⟨h1, h2, _⟩
                             · exact absurd hval h
                             · exact h2
                           subst hv9
                           refine WL.val rfl rfl rfl rfl (r_move rfl (ev_t rfl)) ?_
                           refine WL.val rfl rfl rfl rfl (r_extract rfl (ev_t rfl) rfl) ?_
                           refine WL.val rfl rfl rfl rfl (r_extract rfl (ev_t rfl) rfl) ?_
                           refine WL.cons (SO.alloc rfl rfl rfl rfl (r_alloc rfl zero_56) ?_)
                           intro w13 hu13 hB13 hz13
                           have hs13 := hu13.size
                           replace hU := hU.trans hu13 (by exact (fun _ _ h => h))
                           replace hr := hr.upd hu13 (fun k hk hl hS => by have h1 := hF k hk; exact (show False from hS).elim)
                           replace hr2 := hr2.upd hu13 (fun k hk hl hS => by have h1 := hF2 k hk; exact (show False from hS).elim)
                           replace hH := hH.upd hu13 (fun k hk hl hS => by exact (show False from hS).elim)
                           replace hO := hO.upd hu13 (fun k hk hl hS => by exact (show False from hS).elim)
                           refine WL.cons (SO.storeAll (us := [_, _, _]) rfl (ev_t rfl) (ev_t rfl) size_56 hB13 rfl rfl rfl rfl rfl ?_)
                           intro w14 hu14 hB13 hz14
                           have hs14 := hu14.size
                           replace hU := hU.trans hu14 (by (intro k hl hk; (try simp only [At, New, Grow, From, No] at hk ⊢); omega))
                           replace hr := hr.upd hu14 (fun k hk hl hS => by have h1 := hF k hk; (simp only [At] at hS; omega))
                           replace hr2 := hr2.upd hu14 (fun k hk hl hS => by have h1 := hF2 k hk; (simp only [At] at hS; omega))
                           replace hH := hH.upd hu14 (fun k hk hl hS => by (simp only [At] at hS; rcases hk with hk | hk; omega; have := hGl k hk; omega))
                           replace hO := hO.upd hu14 (fun k hk hl hS => by (simp only [At] at hS; have := hGs k hk; omega))
                           refine WL.val rfl rfl rfl rfl (r_assign rfl (ev_t rfl)) ?_
                           refine WL.nil ?_
                           refine WX.keep [(0, _), (1, _), (5, _), (7, _), (9, _), (10, _), (12, _)] ⟨rfl, rfl, rfl, rfl, rfl, rfl, rfl, trivial⟩ ?_
                           refine WX.next ?_
                           refine WC.seq ?_
                           refine WC.seq ?_
                           refine WC.region ?_
                           refine WL.val rfl rfl rfl rfl (r_move rfl (ev_t rfl)) ?_
                           refine WL.val rfl rfl rfl rfl (r_move rfl (ev_t rfl)) ?_
                           refine WL.val rfl rfl rfl rfl (r_lenSlice (ts := #[]) rfl (ev_t rfl) elem_46) ?_
                           refine WL.val rfl rfl rfl rfl (r_lss rfl (ev_t rfl) (ev_t rfl)) ?_
                           refine WL.val rfl rfl rfl rfl (r_move rfl (ev_t rfl)) ?_
                           refine WL.cases 74 rfl (fun hb16_4 => ?_) (fun hb16_4 => ?_)
                           · try (exfalso; first | (simp at hb16_4; done) | (simp only [decide_eq_true_eq, decide_eq_false_iff_not, Bool.not_eq_true', Bool.not_eq_false', Bool.not_eq_true, Bool.not_eq_false] at hb16_4; omega) | omega)
                             all_goals
                              try simp only [decide_eq_true_eq, decide_eq_false_iff_not, Bool.not_eq_true', Bool.not_eq_false', Bool.not_eq_true, Bool.not_eq_false, Option.isNone_none, Option.isNone_some, Option.isSome_none, Option.isSome_some, ne_eq, Decidable.not_not] at hb16_4
                              obtain ⟨b1, off1, rfl, _⟩ := hr2.open (by omega)
                              obtain ⟨x, hxk⟩ : ∃ x, ro[k]? = some x := ⟨_, List.getElem?_eq_getElem (by omega)⟩
                              have hx64 := hw2 x (List.mem_of_getElem? hxk)
                              refine WL.val rfl rfl rfl rfl (r_move rfl (ev_t rfl)) ?_
                              refine WL.val rfl rfl rfl rfl (r_move rfl (ev_t rfl)) ?_
                              refine WL.val rfl rfl rfl rfl (r_indexAddr rfl (ev_t rfl) (ev_t rfl) elem_46 size_31 (by omega) (by omega)) ?_
                              refine WL.val rfl rfl rfl rfl (r_load rfl (ev_t rfl) flat_31 (hr2.cell (j := k) (u := Wd x) (show off1 + (k : Int).toNat * 1 = off1 + k by omega) (by rw [List.getElem?_map, hxk]; rfl))) ?_
                              refine WL.val rfl rfl rfl rfl (r_remN rfl (ev_t rfl) ev_c (by omega) (by omega)) ?_
                              refine WL.val rfl rfl rfl rfl (r_eql rfl (ev_t rfl) ev_c) ?_
                              refine WL.val rfl rfl rfl rfl (r_pickT rfl (ev_t rfl) (ev_t rfl)) ?_
                              refine WL.nil ?_
                              refine WX.keep [(0, _), (1, _), (5, _), (7, _), (9, _), (10, _), (12, _), (81, _)] ⟨rfl, rfl, rfl, rfl, rfl, rfl, rfl, rfl, trivial⟩ ?_
                              refine WX.next ?_
                              refine WC.cond rfl (ev_t rfl) (fun hc16 => ?_) (fun hc16 => ?_)
                              · try (exfalso; first | (simp at hc16; done) | (simp only [decide_eq_true_eq, decide_eq_false_iff_not, Bool.not_eq_true', Bool.not_eq_false', Bool.not_eq_true, Bool.not_eq_false] at hc16; omega) | omega)
                                all_goals
                                 try simp only [decide_eq_true_eq, decide_eq_false_iff_not, Bool.not_eq_true', Bool.not_eq_false', Bool.not_eq_true, Bool.not_eq_false, Option.isNone_none, Option.isNone_some, Option.isSome_none, Option.isSome_some, ne_eq, Decidable.not_not] at hc16
                                 have hkr : k < ro.length := by first | omega | (simp_all; omega)
                                 obtain ⟨gr, capr, curr, hO9, _⟩ := hO.open (by omega)
                                 injection hO9 with hO9
                                 subst hO9
                                 refine WC.region ?_
                                 refine WL.val rfl rfl rfl rfl (r_move rfl (ev_t rfl)) ?_
                                 refine WL.val rfl rfl rfl rfl (r_move rfl (ev_t rfl)) ?_
                                 refine WL.val rfl rfl rfl rfl (r_move rfl (ev_t rfl)) ?_
                                 refine WL.val rfl rfl rfl rfl (r_mulN rfl ev_c (ev_t rfl) (by simp only [inK]; omega)) ?_
                                 refine WL.val rfl rfl rfl rfl (r_convN rfl (ev_t rfl) some_3 int_32 (by simp only [inK]; omega)) ?_
                                 refine WL.val rfl rfl rfl rfl (r_indexAddr rfl (ev_t rfl) (ev_t rfl) elem_30 size_32 (by omega) (by omega)) ?_
                                 rw [show (2 : Int) * (m : Int) = ((2 * m : Nat) : Int) by omega, show 0 + (k : Int).toNat * 1 = k by omega]
                                 refine WL.cons (SO.ownSet1 (i := k) (z := 2 * m) hO rfl (by omega) rfl rfl (ev_t rfl) (ev_t rfl) size_32 rfl rfl rfl ?_)
                                 intro w15 hu15 hO2 hz3
                                 have hs15 := hu15.size
                                 replace hU := hU.trans hu15 (by (intro k hl hk; first | exact (show False from hk).elim | (simp only [At] at hk; omega) | (have h2 := hGr k hk; omega) | (have h2 := hGs k hk; omega) | (rcases hk with h | h; omega; have h2 := hGs k h; omega)))
                                 replace hr := hr.upd hu15 (fun k hk hl hS => by have h1 := hF k hk; (have h2 := hGs k hS; omega))
                                 replace hr2 := hr2.upd hu15 (fun k hk hl hS => by have h1 := hF2 k hk; (have h2 := hGs k hS; omega))
                                 replace hH := hH.upd hu15 (fun k hk hl hS => by (have h2 := hGs k hS; rcases hk with hk | hk; exact h2.2.1 hk; exact h2.2.2.1 hk))
                                 clear hO
                                 have hO := hO2
                                 refine WL.nil ?_
                                 refine WX.keep [(0, _), (1, _), (5, _), (7, _), (9, _), (10, _), (12, _)] ⟨rfl, rfl, rfl, rfl, rfl, rfl, rfl, trivial⟩ ?_
                                 refine WX.next ?_
                                 refine WC.region ?_
                                 refine WL.val rfl rfl rfl rfl (r_move rfl (ev_t rfl)) ?_
                                 refine WL.val rfl rfl rfl rfl (r_move rfl (ev_t rfl)) ?_
                                 refine WL.val rfl rfl rfl rfl (r_addN rfl (ev_t rfl) (ev_t rfl) (by simp only [inK]; omega)) ?_
                                 refine WL.val rfl rfl rfl rfl (r_assign rfl (ev_t rfl)) ?_
                                 refine WL.nil ?_
                                 refine WX.keep [(0, _), (1, _), (5, _), (7, _), (9, _), (10, _)] ⟨rfl, rfl, rfl, rfl, rfl, rfl, trivial⟩ ?_
                                 refine WX.blockNormal ?_
                                 refine WX.next ?_
                                 refine WC.region ?_
                                 refine WL.val rfl rfl rfl rfl (r_move rfl (ev_t rfl)) ?_
                                 refine WL.val rfl rfl rfl rfl (r_addN rfl (ev_t rfl) ev_c (by simp only [inK]; omega)) ?_
                                 refine WL.val rfl rfl rfl rfl (r_assign rfl (ev_t rfl)) ?_
                                 refine WL.nil ?_
                                 refine WX.keep [(0, _), (1, _), (5, _), (7, _), (9, _), (10, _)] ⟨rfl, rfl, rfl, rfl, rfl, rfl, trivial⟩ ?_
                                 refine WX.meet [(0, _), (1, _), (5, _), (7, _), (9, _), (10, _)] ⟨rfl, rfl, rfl, rfl, rfl, rfl, trivial⟩ ?_
                                 first
                                   | exact ⟨l.length - (m + szAt l m), by omega, m + szAt l m, k + 1, ys.set k (2 * m), by omega, rfl, by rw [hdr2]; exact hTn, by rw [List.length_set]; exact hyl, fun y hy => by rcases List.mem_or_eq_of_mem_set hy with hy | hy; exact hyo y hy; exact ⟨by omega, .inr (by rw [hy, Nat.mul_div_cancel_left _ (by decide)]; exact hms)⟩, hU, hr, hr2, hH, hO2, by omega, by omega, by omega, rfl⟩
                              · try (exfalso; first | (simp at hc16; done) | (simp only [decide_eq_true_eq, decide_eq_false_iff_not, Bool.not_eq_true', Bool.not_eq_false', Bool.not_eq_true, Bool.not_eq_false] at hc16; omega) | omega)
                                all_goals
                                 try simp only [decide_eq_true_eq, decide_eq_false_iff_not, Bool.not_eq_true', Bool.not_eq_false', Bool.not_eq_true, Bool.not_eq_false, Option.isNone_none, Option.isNone_some, Option.isSome_none, Option.isSome_some, ne_eq, Decidable.not_not] at hc16
                                 refine WC.skip ?_
                                 refine WX.next ?_
                                 refine WC.region ?_
                                 refine WL.val rfl rfl rfl rfl (r_move rfl (ev_t rfl)) ?_
                                 refine WL.val rfl rfl rfl rfl (r_move rfl (ev_t rfl)) ?_
                                 refine WL.val rfl rfl rfl rfl (r_addN rfl (ev_t rfl) (ev_t rfl) (by simp only [inK]; omega)) ?_
                                 refine WL.val rfl rfl rfl rfl (r_assign rfl (ev_t rfl)) ?_
                                 refine WL.nil ?_
                                 refine WX.keep [(0, _), (1, _), (5, _), (7, _), (9, _), (10, _)] ⟨rfl, rfl, rfl, rfl, rfl, rfl, trivial⟩ ?_
                                 refine WX.blockNormal ?_
                                 refine WX.next ?_
                                 refine WC.region ?_
                                 refine WL.val rfl rfl rfl rfl (r_move rfl (ev_t rfl)) ?_
                                 refine WL.val rfl rfl rfl rfl (r_addN rfl (ev_t rfl) ev_c (by simp only [inK]; omega)) ?_
                                 refine WL.val rfl rfl rfl rfl (r_assign rfl (ev_t rfl)) ?_
                                 refine WL.nil ?_
                                 refine WX.keep [(0, _), (1, _), (5, _), (7, _), (9, _), (10, _)] ⟨rfl, rfl, rfl, rfl, rfl, rfl, trivial⟩ ?_
                                 refine WX.meet [(0, _), (1, _), (5, _), (7, _), (9, _), (10, _)] ⟨rfl, rfl, rfl, rfl, rfl, rfl, trivial⟩ ?_
                                 first
                                   | exact ⟨l.length - (m + szAt l m), by omega, m + szAt l m, k + 1, ys, by omega, rfl, by rw [hdr2]; exact hTn, hyl, hyo, hU, hr, hr2, hH, hO, by omega, by omega, by omega, rfl⟩
                           · try (exfalso; first | (simp at hb16_4; done) | (simp only [decide_eq_true_eq, decide_eq_false_iff_not, Bool.not_eq_true', Bool.not_eq_false', Bool.not_eq_true, Bool.not_eq_false] at hb16_4; omega) | omega)
                             all_goals
                              try simp only [decide_eq_true_eq, decide_eq_false_iff_not, Bool.not_eq_true', Bool.not_eq_false', Bool.not_eq_true, Bool.not_eq_false, Option.isNone_none, Option.isNone_some, Option.isSome_none, Option.isSome_some, ne_eq, Decidable.not_not] at hb16_4
                              refine WL.skip rfl rfl rfl ?_
                              refine WL.skip rfl rfl rfl ?_
                              refine WL.skip rfl rfl rfl ?_
                              refine WL.skip rfl rfl rfl ?_
                              refine WL.skip rfl rfl rfl ?_
                              refine WL.skip rfl rfl rfl ?_
                              refine WL.val rfl rfl rfl rfl (r_pickF rfl (ev_t rfl) ev_c) ?_
                              refine WL.nil ?_
                              refine WX.keep [(0, _), (1, _), (5, _), (7, _), (9, _), (10, _), (12, _), (81, _)] ⟨rfl, rfl, rfl, rfl, rfl, rfl, rfl, rfl, trivial⟩ ?_
                              refine WX.next ?_
                              refine WC.cond_false rfl (ev_t rfl) ?_
                              refine WC.skip ?_
                              refine WX.next ?_
                              refine WC.region ?_
                              refine WL.val rfl rfl rfl rfl (r_move rfl (ev_t rfl)) ?_
                              refine WL.val rfl rfl rfl rfl (r_move rfl (ev_t rfl)) ?_
                              refine WL.val rfl rfl rfl rfl (r_addN rfl (ev_t rfl) (ev_t rfl) (by simp only [inK]; omega)) ?_
                              refine WL.val rfl rfl rfl rfl (r_assign rfl (ev_t rfl)) ?_
                              refine WL.nil ?_
                              refine WX.keep [(0, _), (1, _), (5, _), (7, _), (9, _), (10, _)] ⟨rfl, rfl, rfl, rfl, rfl, rfl, trivial⟩ ?_
                              refine WX.blockNormal ?_
                              refine WX.next ?_
                              refine WC.region ?_
                              refine WL.val rfl rfl rfl rfl (r_move rfl (ev_t rfl)) ?_
                              refine WL.val rfl rfl rfl rfl (r_addN rfl (ev_t rfl) ev_c (by simp only [inK]; omega)) ?_
                              refine WL.val rfl rfl rfl rfl (r_assign rfl (ev_t rfl)) ?_
                              refine WL.nil ?_
                              refine WX.keep [(0, _), (1, _), (5, _), (7, _), (9, _), (10, _)] ⟨rfl, rfl, rfl, rfl, rfl, rfl, trivial⟩ ?_
                              refine WX.meet [(0, _), (1, _), (5, _), (7, _), (9, _), (10, _)] ⟨rfl, rfl, rfl, rfl, rfl, rfl, trivial⟩ ?_
                              first
                                | exact ⟨l.length - (m + szAt l m), by omega, m + szAt l m, k + 1, ys, by omega, rfl, by rw [hdr2]; exact hTn, hyl, hyo, hU, hr, hr2, hH, hO, by omega, by omega, by omega, rfl⟩
                        · try (exfalso; first | (simp at hc13; done) | (simp only [decide_eq_true_eq, decide_eq_false_iff_not, Bool.not_eq_true', Bool.not_eq_false', Bool.not_eq_true, Bool.not_eq_false] at hc13; omega) | omega)
                          all_goals
                           try simp only [decide_eq_true_eq, decide_eq_false_iff_not, Bool.not_eq_true', Bool.not_eq_false', Bool.not_eq_true, Bool.not_eq_false, Option.isNone_none, Option.isNone_some, Option.isSome_none, Option.isSome_some, ne_eq, Decidable.not_not] at hc13
                           refine WC.exit ?_
                           refine WX.thenExit ?_
                           refine WX.thenExit ?_
                           refine WX.blockHere ?_
                           refine WX.next ?_
                           refine WC.seq ?_
                           rw [← hyl] at hO ⊢
                           have hGl2 := hH.lt
                           have hpl2 := hH.hd.lt
                           obtain ⟨g, Ax, cx, hvx, hpos, -⟩ := hO.roots
                           injection hvx with hvx _ _
                           rw [← hvx] at hpos
                           refine WC.region ?_
                           refine WL.val rfl rfl rfl rfl (r_move rfl (ev_t rfl)) ?_
                           refine WL.val rfl rfl rfl rfl (r_move rfl (ev_t rfl)) ?_
                           refine WL.cons (SO.call (pointers_ok (g := g) (hO.rd (by omega)) (fun h => (hpos h).1) (by omega)) rfl body_13 ⟨(ev_t rfl), trivial⟩ rfl rfl rfl rfl ?_)
                           rintro v w16 ⟨hQ, hu16⟩
                           have hs16 := hu16.size
                           replace hU := hU.trans hu16 (by exact (fun _ _ h => h))
                           replace hr := hr.upd hu16 (fun k hk hl hS => by have h1 := hF k hk; exact (show False from hS).elim)
                           replace hr2 := hr2.upd hu16 (fun k hk hl hS => by have h1 := hF2 k hk; exact (show False from hS).elim)
                           replace hH := hH.upd hu16 (fun k hk hl hS => by exact (show False from hS).elim)
                           replace hO := hO.upd hu16 (fun k hk hl hS => by exact (show False from hS).elim)
                           have hsq := (hu16).size
                           refine WL.cons (SO.call (collectO_ok (g := g) hH (by omega) hg.vd hO (fun k hk => ⟨(hGs k hk).2.1, (hGs k hk).2.2.1⟩) (by omega) hyo (hQ.rd (by rw [rowAt_len]; omega)) (fun h => ⟨cr, by rw [(hpos h).1]⟩) (fun k hk => hk.2) (fun k hk => ⟨by have := hk.1; omega, fun h => by have := hk.1; have := (hpos h).2.2; omega⟩)) rfl body_14 ⟨(ev_t rfl), (ev_t rfl), trivial⟩ rfl rfl rfl rfl ?_)
                           rintro v w17 ⟨fin, to, mv, bt, hbf, hyf, hPI, hH2, hbt, hO2, hu17⟩
                           have hs17 := hu17.size
                           replace hU := hU.trans hu17 (by (intro k hl hk; first | exact (show False from hk).elim | (simp only [At] at hk; omega) | (have h2 := hGr k hk; omega) | (have h2 := hGs k hk; omega) | (rcases hk with h | h; omega; have h2 := hGs k h; omega)))
                           replace hr := hr.upd hu17 (fun k hk hl hS => by have h1 := hF k hk; (rcases hS with h | h; omega; have h2 := hGs k h; omega))
                           replace hr2 := hr2.upd hu17 (fun k hk hl hS => by have h1 := hF2 k hk; (rcases hS with h | h; omega; have h2 := hGs k h; omega))
                           clear hH hO
                           have hH := hH2
                           have hO := hO2
                           clear hH2 hO2
                           have htl := hPI.le hg.vd
                           have hg1 := hg.collect hPI (by omega)
                           have hy1 : ∀ y ∈ ys.map (there l fin), y < 18446744073709551616 ∧ (y % 2 = 1 ∨ y / 2 ∈ fin.map (plc (szAt l) fin)) := fun y hy => by
                             obtain ⟨y0, hy0, rfl⟩ := List.mem_map.1 hy
                             refine ⟨?_, there_tgt (hyf y0 hy0)⟩
                             unfold there
                             split
                             · rename_i h3
                               have h4 := plc_lt (sz := szAt l) h3.2
                               rw [← hPI.ltot] at h4
                               omega
                             · exact (hyo y0 hy0).1
                           obtain ⟨ys1, hys1⟩ : ∃ y, y = ys.map (there l fin) := ⟨_, rfl⟩
                           have hyl1 : ys1.length = ys.length := by rw [hys1, List.length_map]
                           obtain ⟨st1, hst1⟩ : ∃ y, y = fin.map (plc (szAt l) fin) := ⟨_, rfl⟩
                           rw [← hst1] at hg1
                           rw [← hys1, ← hst1] at hy1
                           rw [← hys1] at hO
                           rw [← hyl1] at hO hyl ⊢
                           refine WL.nil ?_
                           refine WX.keep [(5, _), (7, _)] ⟨rfl, rfl, trivial⟩ ?_
                           refine WX.next ?_
                           refine WC.seq ?_
                           refine WC.region ?_
                           refine WL.val rfl rfl rfl rfl (r_move rfl (ev_t rfl)) ?_
                           refine WL.cons (SO.call (hwords_ok hH) rfl body_22 ⟨(ev_t rfl), trivial⟩ rfl rfl rfl rfl ?_)
                           rintro v w18 ⟨hW1, hu18⟩
                           have hs18 := hu18.size
                           replace hU := hU.trans hu18 (by exact (fun _ _ h => h))
                           replace hr := hr.upd hu18 (fun k hk hl hS => by have h1 := hF k hk; exact (show False from hS).elim)
                           replace hr2 := hr2.upd hu18 (fun k hk hl hS => by have h1 := hF2 k hk; exact (show False from hS).elim)
                           replace hH := hH.upd hu18 (fun k hk hl hS => by exact (show False from hS).elim)
                           replace hO := hO.upd hu18 (fun k hk hl hS => by exact (show False from hS).elim)
                           refine WL.cons (SO.call (lwords_ok (hW1.rd (by omega)) (by omega)) rfl body_21 ⟨(ev_t rfl), trivial⟩ rfl rfl rfl rfl ?_)
                           rintro va w19 ⟨ha, hu19⟩
                           have hs19 := hu19.size
                           replace hU := hU.trans hu19 (by exact (fun _ _ h => h))
                           replace hr := hr.upd hu19 (fun k hk hl hS => by have h1 := hF k hk; exact (show False from hS).elim)
                           replace hr2 := hr2.upd hu19 (fun k hk hl hS => by have h1 := hF2 k hk; exact (show False from hS).elim)
                           replace hH := hH.upd hu19 (fun k hk hl hS => by exact (show False from hS).elim)
                           replace hO := hO.upd hu19 (fun k hk hl hS => by exact (show False from hS).elim)
                           refine WL.val rfl rfl rfl rfl (r_assign rfl (ev_t rfl)) ?_
                           refine WL.nil ?_
                           refine WX.keep [(5, _), (7, _), (13, _)] ⟨rfl, rfl, rfl, trivial⟩ ?_
                           refine WX.next ?_
                           refine WC.seq ?_
                           refine WC.region ?_
                           refine WL.val rfl rfl rfl rfl (r_move rfl (ev_t rfl)) ?_
                           refine WL.cons (SO.call (lwords_ok (hO.rd (by omega)) (by omega)) rfl body_21 ⟨(ev_t rfl), trivial⟩ rfl rfl rfl rfl ?_)
                           rintro vb w20 ⟨hb2, hu20⟩
                           have hs20 := hu20.size
                           replace hU := hU.trans hu20 (by exact (fun _ _ h => h))
                           replace hr := hr.upd hu20 (fun k hk hl hS => by have h1 := hF k hk; exact (show False from hS).elim)
                           replace hr2 := hr2.upd hu20 (fun k hk hl hS => by have h1 := hF2 k hk; exact (show False from hS).elim)
                           replace hH := hH.upd hu20 (fun k hk hl hS => by exact (show False from hS).elim)
                           replace hO := hO.upd hu20 (fun k hk hl hS => by exact (show False from hS).elim)
                           replace ha := ha.upd hu20 (fun k hk hl hS => by exact (show False from hS).elim)
                           have hbl2 := hH.lt
                           have hpl3 := hH.hd.lt
                           obtain ⟨g2, Ay, cy, hvy, hpos2, -⟩ := hO.roots
                           injection hvy with hvy _ _
                           rw [← hvy] at hpos2
                           refine WL.val rfl rfl rfl rfl (r_assign rfl (ev_t rfl)) ?_
                           refine WL.nil ?_
                           refine WX.keep [(5, _), (7, _), (13, _), (14, _)] ⟨rfl, rfl, rfl, rfl, trivial⟩ ?_
                           refine WX.next ?_
                           refine WC.seq ?_
                           refine WC.region ?_
                           refine WL.val rfl rfl rfl rfl (r_move rfl (ev_t rfl)) ?_
                           refine WL.val rfl rfl rfl rfl (r_move rfl (ev_t rfl)) ?_
                           refine WL.cons (SO.call (pointers_ok (g := g2) (hO.rd (by omega)) (fun h => (hpos2 h).1) (by omega)) rfl body_13 ⟨(ev_t rfl), trivial⟩ rfl rfl rfl rfl ?_)
                           rintro v w21 ⟨hQ2, hu21⟩
                           have hs21 := hu21.size
                           replace hU := hU.trans hu21 (by exact (fun _ _ h => h))
                           replace hr := hr.upd hu21 (fun k hk hl hS => by have h1 := hF k hk; exact (show False from hS).elim)
                           replace hr2 := hr2.upd hu21 (fun k hk hl hS => by have h1 := hF2 k hk; exact (show False from hS).elim)
                           replace hH := hH.upd hu21 (fun k hk hl hS => by exact (show False from hS).elim)
                           replace hO := hO.upd hu21 (fun k hk hl hS => by exact (show False from hS).elim)
                           replace ha := ha.upd hu21 (fun k hk hl hS => by exact (show False from hS).elim)
                           replace hb2 := hb2.upd hu21 (fun k hk hl hS => by exact (show False from hS).elim)
                           have hsq2 := (hu21).size
                           refine WL.cons (SO.call (collectO_ok (g := g2) hH (by omega) hg1.vd hO (fun k hk => ⟨(hGs k hk).2.1, fun h => by simp only [At] at h; have := (hGs k hk).2.2.2; omega⟩) (by omega) hy1 (hQ2.rd (by rw [rowAt_len]; omega)) (fun h => ⟨cr, by rw [(hpos2 h).1]⟩) (fun k hk => hk.2) (fun k hk => ⟨by have := hk.1; omega, fun h => by have := hk.1; have := (hpos2 h).2.2; omega⟩)) rfl body_14 ⟨(ev_t rfl), (ev_t rfl), trivial⟩ rfl rfl rfl rfl ?_)
                           rintro v w22 ⟨fin2, to2, mv2, bt2, hbf2, hyf2, hPI2, hH2, hbt2, hO2, hu22⟩
                           have hs22 := hu22.size
                           replace hU := hU.trans hu22 (by (intro k hl hk; first | exact (show False from hk).elim | (simp only [At] at hk; omega) | (have h2 := hGr k hk; omega) | (have h2 := hGs k hk; omega) | (rcases hk with h | h; omega; have h2 := hGs k h; omega)))
                           replace hr := hr.upd hu22 (fun k hk hl hS => by have h1 := hF k hk; (rcases hS with h | h; omega; have h2 := hGs k h; omega))
                           replace hr2 := hr2.upd hu22 (fun k hk hl hS => by have h1 := hF2 k hk; (rcases hS with h | h; omega; have h2 := hGs k h; omega))
                           replace ha := ha.upd hu22 (fun k hk hl hS => by (have h1 := hk.1; rcases hS with h | h; omega; have := hGs k h; omega))
                           replace hb2 := hb2.upd hu22 (fun k hk hl hS => by (have h1 := hk.1; rcases hS with h | h; omega; have := hGs k h; omega))
                           clear hH hO
                           have hH := hH2
                           have hO := hO2
                           clear hH2 hO2
                           obtain ⟨e1, e2⟩ := hPI.twice hg.vd hbf hyf (hys1 ▸ hbf2) (hst1 ▸ hPI2)
                           subst e2
                           have e3 : ys1.map (there to2 fin2) = ys1 := by
                             rw [e1]
                             refine (List.map_congr_left (fun y _ => hPI.thereTo y)).trans ?_
                             simp
                           rw [e3] at hO
                           refine WL.nil ?_
                           refine WX.keep [(5, _), (7, _), (13, _), (14, _)] ⟨rfl, rfl, rfl, rfl, trivial⟩ ?_
                           refine WX.next ?_
                           refine WC.seq ?_
                           refine WC.region ?_
                           refine WL.val rfl rfl rfl rfl (r_move rfl (ev_t rfl)) ?_
                           refine WL.cons (SO.call (hwords_ok hH) rfl body_22 ⟨(ev_t rfl), trivial⟩ rfl rfl rfl rfl ?_)
                           rintro v w23 ⟨hW2, hu23⟩
                           have hs23 := hu23.size
                           replace hU := hU.trans hu23 (by exact (fun _ _ h => h))
                           replace hr := hr.upd hu23 (fun k hk hl hS => by have h1 := hF k hk; exact (show False from hS).elim)
                           replace hr2 := hr2.upd hu23 (fun k hk hl hS => by have h1 := hF2 k hk; exact (show False from hS).elim)
                           replace ha := ha.upd hu23 (fun k hk hl hS => by exact (show False from hS).elim)
                           replace hb2 := hb2.upd hu23 (fun k hk hl hS => by exact (show False from hS).elim)
                           replace hH := hH.upd hu23 (fun k hk hl hS => by exact (show False from hS).elim)
                           replace hO := hO.upd hu23 (fun k hk hl hS => by exact (show False from hS).elim)
                           refine WL.cons (SO.call (load_ok (hW2.rd (by omega)) (by omega) (fun k hk => hk.2) hg1) rfl body_26 ⟨ev_c, (ev_t rfl), trivial⟩ rfl rfl rfl rfl ?_)
                           rintro v w24 ⟨G9, p9, A9, c9, rfl, hH9, hp9, hG9, hu24⟩
                           have hs24 := hu24.size
                           replace hU := hU.trans hu24 (by exact (fun _ _ h => h))
                           replace hr := hr.upd hu24 (fun k hk hl hS => by have h1 := hF k hk; exact (show False from hS).elim)
                           replace hr2 := hr2.upd hu24 (fun k hk hl hS => by have h1 := hF2 k hk; exact (show False from hS).elim)
                           replace ha := ha.upd hu24 (fun k hk hl hS => by exact (show False from hS).elim)
                           replace hb2 := hb2.upd hu24 (fun k hk hl hS => by exact (show False from hS).elim)
                           replace hH := hH.upd hu24 (fun k hk hl hS => by exact (show False from hS).elim)
                           replace hO := hO.upd hu24 (fun k hk hl hS => by exact (show False from hS).elim)
                           refine WL.val rfl rfl rfl rfl (r_move rfl (ev_t rfl)) ?_
                           refine WL.val rfl rfl rfl rfl (r_extract rfl (ev_t rfl) rfl) ?_
                           refine WL.val rfl rfl rfl rfl (r_extract rfl (ev_t rfl) rfl) ?_
                           refine WL.val rfl rfl rfl rfl (r_assign rfl (ev_t rfl)) ?_
                           refine WL.val rfl rfl rfl rfl (r_assign rfl (ev_t rfl)) ?_
                           refine WL.nil ?_
                           refine WX.keep [(5, _), (7, _), (13, _), (14, _), (15, _), (16, _)] ⟨rfl, rfl, rfl, rfl, rfl, rfl, trivial⟩ ?_
                           refine WX.next ?_
                           refine WC.seq ?_
                           refine WC.region ?_
                           refine WL.val rfl rfl rfl rfl (r_move rfl (ev_t rfl)) ?_
                           refine WL.val rfl rfl rfl rfl (r_eql rfl (ev_t rfl) ev_c) ?_
                           refine WL.val rfl rfl rfl rfl (r_move rfl (ev_t rfl)) ?_
                           refine WL.cases 112 rfl (fun hb24_2 => ?_) (fun hb24_2 => ?_)
                           · try (exfalso; first | (simp at hb24_2; done) | (simp only [decide_eq_true_eq, decide_eq_false_iff_not, Bool.not_eq_true', Bool.not_eq_false', Bool.not_eq_true, Bool.not_eq_false] at hb24_2; omega) | omega)
                             all_goals
                              try simp only [decide_eq_true_eq, decide_eq_false_iff_not, Bool.not_eq_true', Bool.not_eq_false', Bool.not_eq_true, Bool.not_eq_false, Option.isNone_none, Option.isNone_some, Option.isSome_none, Option.isSome_some, ne_eq, Decidable.not_not] at hb24_2
                              refine WL.val rfl rfl rfl rfl (r_move rfl (ev_t rfl)) ?_
                              refine WL.cons (SO.call (hwords_ok hH) rfl body_22 ⟨(ev_t rfl), trivial⟩ rfl rfl rfl rfl ?_)
                              rintro v w25 ⟨hW3, hu25⟩
                              have hs25 := hu25.size
                              replace hU := hU.trans hu25 (by exact (fun _ _ h => h))
                              replace hr := hr.upd hu25 (fun k hk hl hS => by have h1 := hF k hk; exact (show False from hS).elim)
                              replace hr2 := hr2.upd hu25 (fun k hk hl hS => by have h1 := hF2 k hk; exact (show False from hS).elim)
                              replace ha := ha.upd hu25 (fun k hk hl hS => by exact (show False from hS).elim)
                              replace hb2 := hb2.upd hu25 (fun k hk hl hS => by exact (show False from hS).elim)
                              replace hH := hH.upd hu25 (fun k hk hl hS => by exact (show False from hS).elim)
                              replace hO := hO.upd hu25 (fun k hk hl hS => by exact (show False from hS).elim)
                              replace hH9 := hH9.upd hu25 (fun k hk hl hS => by first | exact (show False from hS).elim)
                              refine WL.cons (SO.call (lwords_ok (hW3.rd (by omega)) (by omega)) rfl body_21 ⟨(ev_t rfl), trivial⟩ rfl rfl rfl rfl ?_)
                              rintro v w26 ⟨hW4, hu26⟩
                              have hs26 := hu26.size
                              replace hU := hU.trans hu26 (by exact (fun _ _ h => h))
                              replace hr := hr.upd hu26 (fun k hk hl hS => by have h1 := hF k hk; exact (show False from hS).elim)
                              replace hr2 := hr2.upd hu26 (fun k hk hl hS => by have h1 := hF2 k hk; exact (show False from hS).elim)
                              replace ha := ha.upd hu26 (fun k hk hl hS => by exact (show False from hS).elim)
                              replace hb2 := hb2.upd hu26 (fun k hk hl hS => by exact (show False from hS).elim)
                              replace hH := hH.upd hu26 (fun k hk hl hS => by exact (show False from hS).elim)
                              replace hO := hO.upd hu26 (fun k hk hl hS => by exact (show False from hS).elim)
                              replace hH9 := hH9.upd hu26 (fun k hk hl hS => by first | exact (show False from hS).elim)
                              refine WL.val rfl rfl rfl rfl (r_move rfl (ev_t rfl)) ?_
                              refine WL.cons (SO.call (same_ok (hW4.rd (by omega)) (ha.rd (by omega)) (by omega)) rfl body_24 ⟨(ev_t rfl), (ev_t rfl), trivial⟩ rfl rfl rfl rfl ?_)
                              rintro v w27 ⟨rfl, hu27⟩
                              have hs27 := hu27.size
                              replace hU := hU.trans hu27 (by exact (fun _ _ h => h))
                              replace hr := hr.upd hu27 (fun k hk hl hS => by have h1 := hF k hk; exact (show False from hS).elim)
                              replace hr2 := hr2.upd hu27 (fun k hk hl hS => by have h1 := hF2 k hk; exact (show False from hS).elim)
                              replace ha := ha.upd hu27 (fun k hk hl hS => by exact (show False from hS).elim)
                              replace hb2 := hb2.upd hu27 (fun k hk hl hS => by exact (show False from hS).elim)
                              replace hH := hH.upd hu27 (fun k hk hl hS => by exact (show False from hS).elim)
                              replace hO := hO.upd hu27 (fun k hk hl hS => by exact (show False from hS).elim)
                              replace hH9 := hH9.upd hu27 (fun k hk hl hS => by first | exact (show False from hS).elim)
                              refine WL.val rfl rfl rfl rfl (r_pickT rfl (ev_t rfl) (ev_t rfl)) ?_
                              refine WL.val rfl rfl rfl rfl (r_move rfl (ev_t rfl)) ?_
                              refine WL.cases 119 rfl (fun hb24_9 => ?_) (fun hb24_9 => ?_)
                              · try (exfalso; first | (simp at hb24_9; done) | (simp only [decide_eq_true_eq, decide_eq_false_iff_not, Bool.not_eq_true', Bool.not_eq_false', Bool.not_eq_true, Bool.not_eq_false] at hb24_9; omega) | omega)
                                all_goals
                                 try simp only [decide_eq_true_eq, decide_eq_false_iff_not, Bool.not_eq_true', Bool.not_eq_false', Bool.not_eq_true, Bool.not_eq_false, Option.isNone_none, Option.isNone_some, Option.isSome_none, Option.isSome_some, ne_eq, Decidable.not_not] at hb24_9
                                 refine WL.val rfl rfl rfl rfl (r_move rfl (ev_t rfl)) ?_
                                 refine WL.cons (SO.call (lwords_ok (hO.rd (by omega)) (by omega)) rfl body_21 ⟨(ev_t rfl), trivial⟩ rfl rfl rfl rfl ?_)
                                 rintro v w28 ⟨hW5, hu28⟩
                                 have hs28 := hu28.size
                                 replace hU := hU.trans hu28 (by exact (fun _ _ h => h))
                                 replace hr := hr.upd hu28 (fun k hk hl hS => by have h1 := hF k hk; exact (show False from hS).elim)
                                 replace hr2 := hr2.upd hu28 (fun k hk hl hS => by have h1 := hF2 k hk; exact (show False from hS).elim)
                                 replace ha := ha.upd hu28 (fun k hk hl hS => by exact (show False from hS).elim)
                                 replace hb2 := hb2.upd hu28 (fun k hk hl hS => by exact (show False from hS).elim)
                                 replace hH := hH.upd hu28 (fun k hk hl hS => by exact (show False from hS).elim)
                                 replace hO := hO.upd hu28 (fun k hk hl hS => by exact (show False from hS).elim)
                                 replace hH9 := hH9.upd hu28 (fun k hk hl hS => by first | exact (show False from hS).elim)
                                 refine WL.val rfl rfl rfl rfl (r_move rfl (ev_t rfl)) ?_
                                 refine WL.cons (SO.call (same_ok (hW5.rd (by omega)) (hb2.rd (by omega)) (by omega)) rfl body_24 ⟨(ev_t rfl), (ev_t rfl), trivial⟩ rfl rfl rfl rfl ?_)
                                 rintro v w29 ⟨rfl, hu29⟩
                                 have hs29 := hu29.size
                                 replace hU := hU.trans hu29 (by exact (fun _ _ h => h))
                                 replace hr := hr.upd hu29 (fun k hk hl hS => by have h1 := hF k hk; exact (show False from hS).elim)
                                 replace hr2 := hr2.upd hu29 (fun k hk hl hS => by have h1 := hF2 k hk; exact (show False from hS).elim)
                                 replace ha := ha.upd hu29 (fun k hk hl hS => by exact (show False from hS).elim)
                                 replace hb2 := hb2.upd hu29 (fun k hk hl hS => by exact (show False from hS).elim)
                                 replace hH := hH.upd hu29 (fun k hk hl hS => by exact (show False from hS).elim)
                                 replace hO := hO.upd hu29 (fun k hk hl hS => by exact (show False from hS).elim)
                                 replace hH9 := hH9.upd hu29 (fun k hk hl hS => by first | exact (show False from hS).elim)
                                 refine WL.val rfl rfl rfl rfl (r_pickT rfl (ev_t rfl) (ev_t rfl)) ?_
                                 refine WL.val rfl rfl rfl rfl (r_move rfl (ev_t rfl)) ?_
                                 refine WL.cases 125 rfl (fun hb24_15 => ?_) (fun hb24_15 => ?_)
                                 · try (exfalso; first | (simp at hb24_15; done) | (simp only [decide_eq_true_eq, decide_eq_false_iff_not, Bool.not_eq_true', Bool.not_eq_false', Bool.not_eq_true, Bool.not_eq_false] at hb24_15; omega) | omega)
                                   all_goals
                                    try simp only [decide_eq_true_eq, decide_eq_false_iff_not, Bool.not_eq_true', Bool.not_eq_false', Bool.not_eq_true, Bool.not_eq_false, Option.isNone_none, Option.isNone_some, Option.isSome_none, Option.isSome_some, ne_eq, Decidable.not_not] at hb24_15
                                    refine WL.val rfl rfl rfl rfl (r_move rfl (ev_t rfl)) ?_
                                    refine WL.cons (SO.call (hwords_ok hH9) rfl body_22 ⟨(ev_t rfl), trivial⟩ rfl rfl rfl rfl ?_)
                                    rintro v w30 ⟨hW6, hu30⟩
                                    have hs30 := hu30.size
                                    replace hU := hU.trans hu30 (by exact (fun _ _ h => h))
                                    replace hr := hr.upd hu30 (fun k hk hl hS => by have h1 := hF k hk; exact (show False from hS).elim)
                                    replace hr2 := hr2.upd hu30 (fun k hk hl hS => by have h1 := hF2 k hk; exact (show False from hS).elim)
                                    replace ha := ha.upd hu30 (fun k hk hl hS => by exact (show False from hS).elim)
                                    replace hb2 := hb2.upd hu30 (fun k hk hl hS => by exact (show False from hS).elim)
                                    replace hH := hH.upd hu30 (fun k hk hl hS => by exact (show False from hS).elim)
                                    replace hO := hO.upd hu30 (fun k hk hl hS => by exact (show False from hS).elim)
                                    replace hH9 := hH9.upd hu30 (fun k hk hl hS => by first | exact (show False from hS).elim)
                                    refine WL.cons (SO.call (lwords_ok (hW6.rd (by omega)) (by omega)) rfl body_21 ⟨(ev_t rfl), trivial⟩ rfl rfl rfl rfl ?_)
                                    rintro v w31 ⟨hW7, hu31⟩
                                    have hs31 := hu31.size
                                    replace hU := hU.trans hu31 (by exact (fun _ _ h => h))
                                    replace hr := hr.upd hu31 (fun k hk hl hS => by have h1 := hF k hk; exact (show False from hS).elim)
                                    replace hr2 := hr2.upd hu31 (fun k hk hl hS => by have h1 := hF2 k hk; exact (show False from hS).elim)
                                    replace ha := ha.upd hu31 (fun k hk hl hS => by exact (show False from hS).elim)
                                    replace hb2 := hb2.upd hu31 (fun k hk hl hS => by exact (show False from hS).elim)
                                    replace hH := hH.upd hu31 (fun k hk hl hS => by exact (show False from hS).elim)
                                    replace hO := hO.upd hu31 (fun k hk hl hS => by exact (show False from hS).elim)
                                    replace hH9 := hH9.upd hu31 (fun k hk hl hS => by first | exact (show False from hS).elim)
                                    refine WL.val rfl rfl rfl rfl (r_move rfl (ev_t rfl)) ?_
                                    refine WL.cons (SO.call (same_ok (hW7.rd (by omega)) (ha.rd (by omega)) (by omega)) rfl body_24 ⟨(ev_t rfl), (ev_t rfl), trivial⟩ rfl rfl rfl rfl ?_)
                                    rintro v w32 ⟨rfl, hu32⟩
                                    have hs32 := hu32.size
                                    replace hU := hU.trans hu32 (by exact (fun _ _ h => h))
                                    replace hr := hr.upd hu32 (fun k hk hl hS => by have h1 := hF k hk; exact (show False from hS).elim)
                                    replace hr2 := hr2.upd hu32 (fun k hk hl hS => by have h1 := hF2 k hk; exact (show False from hS).elim)
                                    replace ha := ha.upd hu32 (fun k hk hl hS => by exact (show False from hS).elim)
                                    replace hb2 := hb2.upd hu32 (fun k hk hl hS => by exact (show False from hS).elim)
                                    replace hH := hH.upd hu32 (fun k hk hl hS => by exact (show False from hS).elim)
                                    replace hO := hO.upd hu32 (fun k hk hl hS => by exact (show False from hS).elim)
                                    replace hH9 := hH9.upd hu32 (fun k hk hl hS => by first | exact (show False from hS).elim)
                                    refine WL.val rfl rfl rfl rfl (r_pickT rfl (ev_t rfl) (ev_t rfl)) ?_
                                    refine WL.val rfl rfl rfl rfl (r_move rfl (ev_t rfl)) ?_
                                    refine WL.cases 132 rfl (fun hb24_22 => ?_) (fun hb24_22 => ?_)
                                    · try (exfalso; first | (simp at hb24_22; done) | (simp only [decide_eq_true_eq, decide_eq_false_iff_not, Bool.not_eq_true', Bool.not_eq_false', Bool.not_eq_true, Bool.not_eq_false] at hb24_22; omega) | omega)
                                      all_goals
                                       try simp only [decide_eq_true_eq, decide_eq_false_iff_not, Bool.not_eq_true', Bool.not_eq_false', Bool.not_eq_true, Bool.not_eq_false, Option.isNone_none, Option.isNone_some, Option.isSome_none, Option.isSome_some, ne_eq, Decidable.not_not] at hb24_22
                                       refine WL.val rfl rfl rfl rfl (r_move rfl (ev_t rfl)) ?_
                                       refine WL.cons (SO.call (count_ok hH) rfl body_29 ⟨(ev_t rfl), trivial⟩ rfl rfl rfl rfl ?_)
                                       rintro v w33 ⟨rfl, rfl⟩
                                       refine WL.val rfl rfl rfl rfl (r_eql rfl (ev_t rfl) ev_c) ?_
                                       refine WL.val rfl rfl rfl rfl (r_pickT rfl (ev_t rfl) (ev_t rfl)) ?_
                                       refine WL.val rfl rfl rfl rfl (r_assign rfl (ev_t rfl)) ?_
                                       refine WL.nil ?_
                                       refine WX.keep [(4, _)] ⟨rfl, trivial⟩ ?_
                                       refine WX.next ?_
                                       refine WC.ret ?_
                                       refine WX.retE1 rfl rfl ?_
                                       refine ⟨?_, hU⟩
                                       first
                                         | rfl
                                    · try (exfalso; first | (simp at hb24_22; done) | (simp only [decide_eq_true_eq, decide_eq_false_iff_not, Bool.not_eq_true', Bool.not_eq_false', Bool.not_eq_true, Bool.not_eq_false] at hb24_22; omega) | omega)
                                 · try (exfalso; first | (simp at hb24_15; done) | (simp only [decide_eq_true_eq, decide_eq_false_iff_not, Bool.not_eq_true', Bool.not_eq_false', Bool.not_eq_true, Bool.not_eq_false] at hb24_15; omega) | omega)
                              · try (exfalso; first | (simp at hb24_9; done) | (simp only [decide_eq_true_eq, decide_eq_false_iff_not, Bool.not_eq_true', Bool.not_eq_false', Bool.not_eq_true, Bool.not_eq_false] at hb24_9; omega) | omega)
                           · try (exfalso; first | (simp at hb24_2; done) | (simp only [decide_eq_true_eq, decide_eq_false_iff_not, Bool.not_eq_true', Bool.not_eq_false', Bool.not_eq_true, Bool.not_eq_false] at hb24_2; omega) | omega)
end heapTwice
end Go.Proofs.YtdpnnclkkbfihaaDoor

/-
  heap: room and Put, with whatever roots.
-/
namespace Go.Proofs.YtdpnnclkkbfihaaDoor
open Go
set_option linter.unusedSimpArgs false
set_option linter.unusedVariables false

theorem Roots.left {w0 w : World} {ra rb : List (Nat × Nat)} {xa xb : List Nat} (h : Roots w0 w (ra ++ rb) (xa ++ xb)) (hl : ra.length = xa.length) (hd : ∀ (k o o' : Nat), (k, o) ∈ ra → (k, o') ∉ rb) : Roots w0 w ra xa := by
  refine ⟨hl, fun b cs ⟨o, ho⟩ hk => ?_⟩
  obtain ⟨cs', h1, h2, h3, h4⟩ := h.blk b cs ⟨o, List.mem_append_left _ ho⟩ hk
  refine ⟨cs', h1, h2, fun o2 ho2 => h3 o2 (fun h5 => ?_), fun i o2 hi => ?_⟩
  · rcases List.mem_append.1 h5 with h5 | h5
    · exact ho2 h5
    · exact hd b o o2 ho h5
  · have hil := (List.getElem?_eq_some_iff.1 hi).1
    obtain ⟨y, h6, h7⟩ := h4 i o2 (by rw [List.getElem?_append_left hil]; exact hi)
    rw [List.getElem?_append_left (by omega)] at h6
    exact ⟨y, h6, h7⟩
theorem Roots.right {w0 w : World} {ra rb : List (Nat × Nat)} {xa xb : List Nat} (h : Roots w0 w (ra ++ rb) (xa ++ xb)) (hl : ra.length = xa.length) (hd : ∀ (k o o' : Nat), (k, o) ∈ ra → (k, o') ∉ rb) : Roots w0 w rb xb := by
  have hlen := h.len
  rw [List.length_append, List.length_append] at hlen
  refine ⟨by omega, fun b cs ⟨o, ho⟩ hk => ?_⟩
  obtain ⟨cs', h1, h2, h3, h4⟩ := h.blk b cs ⟨o, List.mem_append_right _ ho⟩ hk
  refine ⟨cs', h1, h2, fun o2 ho2 => h3 o2 (fun h5 => ?_), fun i o2 hi => ?_⟩
  · rcases List.mem_append.1 h5 with h5 | h5
    · exact hd b o2 o h5 ho
    · exact ho2 h5
  · obtain ⟨y, h6, h7⟩ := h4 (ra.length + i) o2 (by rw [List.getElem?_append_right (by omega), Nat.add_sub_cancel_left]; exact hi)
    rw [List.getElem?_append_right (by omega), show ra.length + i - xa.length = i by omega] at h6
    exact ⟨y, h6, h7⟩
theorem Roots.both {w0 w : World} {ra rb : List (Nat × Nat)} {xa xb : List Nat} (ha : Roots w0 w ra xa) (hb : Roots w0 w rb xb) (hd : ∀ (k o o' : Nat), (k, o) ∈ ra → (k, o') ∉ rb) : Roots w0 w (ra ++ rb) (xa ++ xb) := by
  have hla := ha.len
  have hlb := hb.len
  refine ⟨by rw [List.length_append, List.length_append]; omega, fun b cs ⟨o, ho⟩ hk => ?_⟩
  rcases List.mem_append.1 ho with h | h
  · obtain ⟨cs', h1, h2, h3, h4⟩ := ha.blk b cs ⟨o, h⟩ hk
    refine ⟨cs', h1, h2, fun o2 ho2 => h3 o2 (fun h5 => ho2 (List.mem_append_left _ h5)), fun i o2 hi => ?_⟩
    rcases Nat.lt_or_ge i ra.length with hil | hil
    · rw [List.getElem?_append_left hil] at hi
      obtain ⟨y, h6, h7⟩ := h4 i o2 hi
      exact ⟨y, by rw [List.getElem?_append_left (by omega)]; exact h6, h7⟩
    · rw [List.getElem?_append_right hil] at hi
      exact absurd (List.mem_of_getElem? hi) (hd b o o2 h)
  · obtain ⟨cs', h1, h2, h3, h4⟩ := hb.blk b cs ⟨o, h⟩ hk
    refine ⟨cs', h1, h2, fun o2 ho2 => h3 o2 (fun h5 => ho2 (List.mem_append_right _ h5)), fun i o2 hi => ?_⟩
    rcases Nat.lt_or_ge i ra.length with hil | hil
    · rw [List.getElem?_append_left hil] at hi
      exact absurd h (hd b o2 o (List.mem_of_getElem? hi))
    · rw [List.getElem?_append_right hil] at hi
      obtain ⟨y, h6, h7⟩ := h4 (i - ra.length) o2 hi
      exact ⟨y, by rw [List.getElem?_append_right (by omega), show i - xa.length = i - ra.length by omega]; exact h6, h7⟩
theorem Roots.base {w w1 : World} {S : Nat → Prop} {rl : List (Nat × Nat)} {xs : List Nat} (h : Roots w w rl xs) (hb : ∀ e ∈ rl, ∃ cs, Blk w e.1 cs tWord) (hu : Upd S w w1) (hn : ∀ k, (∃ o, (k, o) ∈ rl) → ¬ S k) : Roots w1 w1 rl xs := by
  refine ⟨h.len, fun b cs ⟨o, ho⟩ hk => ?_⟩
  obtain ⟨cs0, h0⟩ : ∃ cs, Blk w b cs tWord := hb _ ho
  obtain rfl := hk.inj (h0.upd hu (hn b ⟨o, ho⟩))
  obtain ⟨cs', h1, h2, h3, h4⟩ := h.blk b cs ⟨o, ho⟩ h0
  obtain rfl := h1.inj h0
  exact ⟨cs', hk, rfl, fun _ _ => rfl, h4⟩
theorem Roots.since {w w1 w' : World} {S : Nat → Prop} {rl : List (Nat × Nat)} {xs : List Nat} (h : Roots w1 w' rl xs) (hu : Upd S w w1) (hn : ∀ k, (∃ o, (k, o) ∈ rl) → ¬ S k) : Roots w w' rl xs :=
  ⟨h.len, fun b cs hb hk => h.blk b cs hb (hk.upd hu (hn b hb))⟩
/-- a readable row at the head of a block is read there alone -/
theorem Rd.atRow {w : World} {F : Nat → Prop} {g n c sz : Nat} {xs : List Value} (h : Rd w F (.slice (some ⟨g, 0, none⟩) n c) n sz xs) : Rd w (At g) (.slice (some ⟨g, 0, none⟩) n c) n sz xs := by
  obtain ⟨A, c', e, h1, h2, h3, h4⟩ := h
  injection e with e1 e2 e3
  subst e1 e3
  refine ⟨_, _, rfl, h1, h2, h3, fun h0 => ?_⟩
  obtain ⟨b, off, e4, _, h6, h7⟩ := h4 h0
  injection e4 with e4
  injection e4 with e4 e5
  subst e4 e5
  exact ⟨_, _, rfl, rfl, h6, h7⟩
/-- what room leaves -/
def RX (w0 : World) (rl : List (Nat × Nat)) (xs mem st : List Nat) (q d n : Nat) (w' : World) (M : List Nat) (N : Nat) : Prop :=
  (d + mem.length ≤ q ∧ M = mem ∧ N = n ∧ Roots w0 w' rl xs) ∨
  (¬ d + mem.length ≤ q ∧ N = n + 1 ∧ ∃ fin mv, Bfs mem 0 (xs.foldl come []) fin ∧ (∀ x ∈ xs, x % 2 = 1 ∨ x / 2 ∈ fin) ∧ PI mem st fin M mv M.length ∧ Roots w0 w' rl (xs.map (there mem fin)))
theorem roomR_ok {w : World} {G R : Nat → Prop} {p : Nat} {A : Option Addr} {c : Nat} {mem st xs : List Nat} {q n d : Nat} {vR : Value} {rl : List (Nat × Nat)} (hH : HS w G p A c mem q n) (hn : n + 1 ≤ 1000000000) (hv : Vd mem st)
    (hR : Rd w R vR rl.length 1 (rl.map ptrV)) (hnd : rl.Nodup) (h0 : Roots w w rl xs) (hb0 : ∀ e ∈ rl, ∃ cs, Blk w e.1 cs tWord) (hpG : ∀ e ∈ rl, ¬ G e.1) (hRa : ∀ k, R k → ∀ o, (k, o) ∉ rl) (hRl : ∀ k, R k → k < w.heap.size) (hRp : ¬ R p)
    (hx : ∀ x ∈ xs, x < 18446744073709551616 ∧ (x % 2 = 1 ∨ x / 2 ∈ st)) (hrl : rl.length ≤ 1000000) (hd : d ≤ 1000000000) :
    Ret Tryd.prog 41 #[.pointer (some ⟨p, 0, none⟩), .int .i64 (d : Int), vR] w fun v w' => ∃ G1 A1 c1 M N, v = .bool (decide (d + M.length ≤ q)) ∧ HS w' G1 p A1 c1 M q N ∧ (∀ k, G1 k → G k ∨ w.heap.size ≤ k) ∧ Upd (fun k => k = p ∨ ∃ o, (k, o) ∈ rl) w w' ∧ RX w rl xs mem st q d n w' M N := by
  by_cases hf : d + mem.length ≤ q
  · refine Calls.mono (roomFit_ok (vR := vR) hH (by omega) hf) ?_
    rintro e w' ⟨v, rfl, rfl, hu⟩
    exact ⟨_, rfl, G, A, c, mem, n, congrArg Value.bool (decide_eq_true hf).symm, hH.upd hu (fun _ _ _ h => h), fun _ h => .inl h, hu.no, .inl ⟨hf, rfl, rfl, h0.upd hu (fun _ _ _ h => h)⟩⟩
  · have hle := hH.le
    have hlp := hH.hd.lt
    refine enterRet (vs := [_, _, _]) (N := 34) Tryd.func41 rfl rfl rfl ?_
    have hU := Upd.refl (fun k => k = p ∨ ∃ o, (k, o) ∈ rl) w
    refine WC.keep [(0, _), (1, _), (2, _)] ⟨rfl, rfl, rfl, trivial⟩ ?_
    refine WC.seq ?_
    refine WC.region ?_
    refine WL.val rfl rfl rfl rfl (r_assign rfl ev_c) ?_
    refine WL.nil ?_
    refine WX.keep [(0, _), (1, _), (2, _)] ⟨rfl, rfl, rfl, trivial⟩ ?_
    refine WX.next ?_
    refine WC.seq ?_
    refine WC.seq ?_
    refine WC.draws' (fun u0_ u1_ => Upd No u0_ u1_) (fun j => [0, 0, 0, 0, 0, 0, 0, 0, 1, 0, 0, 0].getD j 0) (.calm 0 (.calm 1 (.calm 2 (.calm 3 (.calm 5 (.calm 6 (.calm 7 (.held 4 (.one 8 (.calm 9 (.calm 10 (.calm 11 (.done))))))))))))) mixed (by kernel_rfl) (by repeat (first | with_reducible exact Deaf.body | with_reducible apply Deaf.then)) ?_
    intro w1 hu1
    have hz1 := congrArg Array.size hu1.2.2.2
    replace hu1 := Upd.of_draw hu1
    have hs1 := hu1.size
    replace hU := hU.transA hu1
    replace hH := hH.upd hu1 (fun k hk hl hS => by first | exact (show False from hS).elim)
    replace hR := hR.upd hu1 (fun k hk hl hS => by first | exact (show False from hS).elim)
    have hS1 := Upd.refl No w1
    have hH0 := hH
    refine WN.calm _ rfl rfl rfl rfl rfl (fun _ => r_move rfl (ev_t rfl)) ?_
    refine WN.calm _ rfl rfl rfl rfl rfl (fun _ => r_move rfl (ev_t rfl)) ?_
    refine WN.calm _ rfl rfl rfl rfl rfl (fun _ => r_nilCheck rfl (ev_t rfl)) ?_
    refine WN.calm _ rfl rfl rfl rfl rfl (fun _ => r_field0 rfl (ev_t rfl) fld_79_1) ?_
    refine WN.calm _ rfl rfl rfl rfl rfl (fun _ => r_move rfl (ev_t rfl)) ?_
    refine WN.calm _ rfl rfl rfl rfl rfl (fun _ => r_nilCheck rfl (ev_t rfl)) ?_
    refine WN.calm _ rfl rfl rfl rfl rfl (fun _ => r_field0 rfl (ev_t rfl) fld_79_0) ?_
    refine WN.held _ rfl rfl rfl rfl rfl hS1 (fun w' hS => r_load rfl (ev_t rfl) flat_3 (Blk.cell (hH0.hd.upd hS (fun h => h)) rfl)) ?_
    refine WN.step _ rfl (SO.val rfl rfl rfl rfl (r_load rfl (ev_t rfl) flat_30 (Blk.cell hH0.hd rfl)) ?_)
    refine ⟨hS1, ?_⟩
    refine WN.calm _ rfl rfl rfl rfl rfl (fun _ => r_lenSlice (ts := #[]) rfl (ev_t rfl) elem_30) ?_
    refine WN.calm _ rfl rfl rfl rfl rfl (fun _ => r_subN rfl (ev_t rfl) (ev_t rfl) (by simp only [inK]; omega)) ?_
    refine WN.calm _ rfl rfl rfl rfl rfl (fun _ => r_gtr rfl (ev_t rfl) (ev_t rfl)) ?_
    refine WN.done ?_
    refine WX.keep [(0, _), (1, _), (2, _), (18, _)] ⟨rfl, rfl, rfl, rfl, trivial⟩ ?_
    refine WX.next ?_
    refine WC.cond rfl (ev_t rfl) (fun hc1 => ?_) (fun hc1 => ?_)
    · try (exfalso; first | (simp at hc1; done) | (simp only [decide_eq_true_eq, decide_eq_false_iff_not, Bool.not_eq_true', Bool.not_eq_false', Bool.not_eq_true, Bool.not_eq_false] at hc1; omega) | omega)
      all_goals
       try simp only [decide_eq_true_eq, decide_eq_false_iff_not, Bool.not_eq_true', Bool.not_eq_false', Bool.not_eq_true, Bool.not_eq_false, Option.isNone_none, Option.isNone_some, Option.isSome_none, Option.isSome_some, ne_eq, Decidable.not_not] at hc1
       have hU0 : Upd No w w1 := hu1
       refine WC.region ?_
       refine WL.val rfl rfl rfl rfl (r_move rfl (ev_t rfl)) ?_
       refine WL.val rfl rfl rfl rfl (r_move rfl (ev_t rfl)) ?_
       refine WL.cons (SO.call (collect_ok hH hn hv hR hnd (h0.base hb0 hU0 (fun _ _ h => h)) (fun e he => by obtain ⟨cs, h⟩ := hb0 e he; exact ⟨cs, h.upd hU0 (fun h => h)⟩) hpG hRa (fun k hk => by have := hRl k hk; omega) hRp hx hrl) rfl body_14 ⟨(ev_t rfl), (ev_t rfl), trivial⟩ rfl rfl rfl rfl ?_)
       rintro v w2 ⟨fin, to, mv, bt, hbf, ⟨r0, hr0⟩, hPI, hH2, hbt, hro, hu2⟩
       have hs2 := hu2.size
       replace hU := hU.transA hu2
       clear hH
       have hH := hH2
       have htl := hPI.le hv
       have hro2 := hro.since hU0 (fun _ _ h => h)
       refine WL.nil ?_
       refine WX.keep [(0, _), (1, _)] ⟨rfl, rfl, trivial⟩ ?_
       refine WX.next ?_
       refine WC.seq ?_
       refine WC.draws' (fun u0_ u1_ => Upd No u0_ u1_) (fun j => [0, 0, 0, 0, 0, 0, 0, 0, 1, 0, 0, 0, 0].getD j 0) (.calm 0 (.calm 1 (.calm 2 (.calm 3 (.calm 5 (.calm 6 (.calm 7 (.held 4 (.one 8 (.calm 9 (.calm 10 (.calm 11 (.calm 12 (.done)))))))))))))) mixed (by kernel_rfl) (by repeat (first | with_reducible exact Deaf.body | with_reducible apply Deaf.then)) ?_
       intro w3 hu3
       have hz3 := congrArg Array.size hu3.2.2.2
       replace hu3 := Upd.of_draw hu3
       have hs3 := hu3.size
       replace hU := hU.transA hu3
       replace hH := hH.upd hu3 (fun k hk hl hS => by first | exact (show False from hS).elim)
       replace hro2 := hro2.upd hu3 (fun k hk hl hS => by first | exact (show False from hS).elim)
       have hS3 := Upd.refl No w3
       have hH1 := hH
       refine WN.calm _ rfl rfl rfl rfl rfl (fun _ => r_move rfl (ev_t rfl)) ?_
       refine WN.calm _ rfl rfl rfl rfl rfl (fun _ => r_move rfl (ev_t rfl)) ?_
       refine WN.calm _ rfl rfl rfl rfl rfl (fun _ => r_nilCheck rfl (ev_t rfl)) ?_
       refine WN.calm _ rfl rfl rfl rfl rfl (fun _ => r_field0 rfl (ev_t rfl) fld_79_1) ?_
       refine WN.calm _ rfl rfl rfl rfl rfl (fun _ => r_move rfl (ev_t rfl)) ?_
       refine WN.calm _ rfl rfl rfl rfl rfl (fun _ => r_nilCheck rfl (ev_t rfl)) ?_
       refine WN.calm _ rfl rfl rfl rfl rfl (fun _ => r_field0 rfl (ev_t rfl) fld_79_0) ?_
       refine WN.held _ rfl rfl rfl rfl rfl hS3 (fun w' hS => r_load rfl (ev_t rfl) flat_3 (Blk.cell (hH1.hd.upd hS (fun h => h)) rfl)) ?_
       refine WN.step _ rfl (SO.val rfl rfl rfl rfl (r_load rfl (ev_t rfl) flat_30 (Blk.cell hH1.hd rfl)) ?_)
       refine ⟨hS3, ?_⟩
       refine WN.calm _ rfl rfl rfl rfl rfl (fun _ => r_lenSlice (ts := #[]) rfl (ev_t rfl) elem_30) ?_
       refine WN.calm _ rfl rfl rfl rfl rfl (fun _ => r_subN rfl (ev_t rfl) (ev_t rfl) (by simp only [inK]; omega)) ?_
       refine WN.calm _ rfl rfl rfl rfl rfl (fun _ => r_leq rfl (ev_t rfl) (ev_t rfl)) ?_
       refine WN.calm _ rfl rfl rfl rfl rfl (fun _ => r_assign rfl (ev_t rfl)) ?_
       refine WN.done ?_
       refine WX.keep [(6, _)] ⟨rfl, trivial⟩ ?_
       refine WX.next ?_
       refine WC.ret ?_
       refine WX.retE1 rfl rfl ?_
       refine ⟨At bt, _, _, to, n + 1, congrArg Value.bool (decide_eq_decide.2 (by omega)), hH, fun k hk => by simp only [At] at hk; omega, hU, .inr ⟨hf, rfl, fin, mv, hbf, fun y hy2 => ?_, hPI, hro2⟩⟩
       rcases come_fold_mem (ys := []) (ord := []) hy2 with h | h
       · exact .inl h
       · rw [hr0]; exact .inr (List.mem_append_left _ h)
    · try simp only [decide_eq_true_eq, decide_eq_false_iff_not, Bool.not_eq_true', Bool.not_eq_false', Bool.not_eq_true, Bool.not_eq_false, Option.isNone_none, Option.isNone_some, Option.isSome_none, Option.isSome_some, ne_eq, Decidable.not_not] at hc1
      exfalso
      omega
theorem headK_ok {w : World} {k n : Nat} (hk : k < 256) (hn : n ≤ 1000000000000) : Ret Tryd.prog 42 #[.int .u8 (k : Int), .int .i64 (n : Int)] w fun v w' => v = Wd (n * 256 + k) ∧ w = w' := by
  refine enterRet (vs := [_, _]) (N := 11) Tryd.func42 rfl rfl rfl ?_
  refine WC.keep [(0, _), (1, _)] ⟨rfl, rfl, trivial⟩ ?_
  refine WC.seq ?_
  refine WC.region ?_
  refine WL.val rfl rfl rfl rfl (r_assign rfl ev_c) ?_
  refine WL.nil ?_
  refine WX.keep [(0, _), (1, _)] ⟨rfl, rfl, trivial⟩ ?_
  refine WX.next ?_
  refine WC.seq ?_
  refine WC.region ?_
  refine WL.val rfl rfl rfl rfl (r_move rfl (ev_t rfl)) ?_
  refine WL.val rfl rfl rfl rfl (r_convN rfl (ev_t rfl) some_3 int_32 (by simp only [inK]; omega)) ?_
  refine WL.val rfl rfl rfl rfl (r_shl rfl (ev_t rfl) ev_c (by omega) (by simp only [IntKind.bits]; omega)) ?_
  refine WL.val rfl rfl rfl rfl (r_move rfl (ev_t rfl)) ?_
  refine WL.val rfl rfl rfl rfl (r_convN rfl (ev_t rfl) some_5 int_32 (by simp only [inK]; omega)) ?_
  refine WL.val rfl rfl rfl rfl (r_or rfl (ev_t rfl) (ev_t rfl)) ?_
  refine WL.val rfl rfl rfl rfl (r_assign rfl (ev_t rfl)) ?_
  refine WL.nil ?_
  refine WX.keep [(4, _)] ⟨rfl, trivial⟩ ?_
  refine WX.next ?_
  refine WC.ret ?_
  refine WX.retE1 rfl rfl ?_
  refine ⟨?_, rfl⟩
  have h := shl8or n (UInt8.ofNat k) (by omega)
  have e : (UInt8.ofNat k).toNat = k := by rw [UInt8.toNat_ofNat']; omega
  rw [e] at h
  exact congrArg (Value.int .u64) h
/-- what Put leaves -/
def PX (w0 : World) (ra rb : List (Nat × Nat)) (ys ps mem st : List Nat) (q hd n : Nat) (w' : World) (v : Value) (mem' : List Nat) (N : Nat) : Prop :=
  ∃ M ys' ps', ys'.length = ys.length ∧ ps'.length = ps.length ∧ Roots w0 w' (ra ++ rb) (ys' ++ ps') ∧
    ((1 + ps.length + mem.length ≤ q ∧ M = mem ∧ N = n ∧ ys' = ys ∧ ps' = ps) ∨
      (¬ 1 + ps.length + mem.length ≤ q ∧ N = n + 1 ∧ ∃ fin mv, Bfs mem 0 ((ys ++ ps).foldl come []) fin ∧ (∀ x ∈ ys ++ ps, x % 2 = 1 ∨ x / 2 ∈ fin) ∧ PI mem st fin M mv M.length ∧ ys' = ys.map (there mem fin) ∧ ps' = ps.map (there mem fin))) ∧
    (1 + ps.length + M.length ≤ q → v = .tuple #[.int .u64 ((2 * M.length : Nat) : Int), .int .i64 0] ∧ mem' = M ++ [hd] ++ ps') ∧ (¬ 1 + ps.length + M.length ≤ q → v = .tuple #[.int .u64 0, .int .i64 11] ∧ mem' = M)
theorem RX.upd {w0 w w' : World} {S : Nat → Prop} {rl : List (Nat × Nat)} {xs mem st : List Nat} {q d n : Nat} {M : List Nat} {N : Nat} (h : RX w0 rl xs mem st q d n w M N) (hu : Upd S w w') (hn : ∀ k, (∃ o, (k, o) ∈ rl) → k < w.heap.size → ¬ S k) : RX w0 rl xs mem st q d n w' M N := by
  rcases h with ⟨h1, h2, h3, h4⟩ | ⟨h1, h2, fin, mv, h3, h4, h5, h6⟩
  · exact .inl ⟨h1, h2, h3, h4.upd hu hn⟩
  · exact .inr ⟨h1, h2, fin, mv, h3, h4, h5, h6.upd hu hn⟩
theorem RX.since {w w0 w' : World} {S : Nat → Prop} {rl : List (Nat × Nat)} {xs mem st : List Nat} {q d n : Nat} {M : List Nat} {N : Nat} (h : RX w0 rl xs mem st q d n w' M N) (hu : Upd S w w0) (hn : ∀ k, (∃ o, (k, o) ∈ rl) → ¬ S k) : RX w rl xs mem st q d n w' M N := by
  rcases h with ⟨h1, h2, h3, h4⟩ | ⟨h1, h2, fin, mv, h3, h4, h5, h6⟩
  · exact .inl ⟨h1, h2, h3, h4.since hu hn⟩
  · exact .inr ⟨h1, h2, fin, mv, h3, h4, h5, h6.since hu hn⟩
theorem RX.vals {w0 w' : World} {rl : List (Nat × Nat)} {ys ps mem st : List Nat} {q d n : Nat} {M : List Nat} {N : Nat} (h : RX w0 rl (ys ++ ps) mem st q d n w' M N) :
    ∃ ys' ps', ys'.length = ys.length ∧ ps'.length = ps.length ∧ Roots w0 w' rl (ys' ++ ps') ∧ ((d + mem.length ≤ q ∧ M = mem ∧ N = n ∧ ys' = ys ∧ ps' = ps) ∨
      (¬ d + mem.length ≤ q ∧ N = n + 1 ∧ ∃ fin mv, Bfs mem 0 ((ys ++ ps).foldl come []) fin ∧ (∀ x ∈ ys ++ ps, x % 2 = 1 ∨ x / 2 ∈ fin) ∧ PI mem st fin M mv M.length ∧ ys' = ys.map (there mem fin) ∧ ps' = ps.map (there mem fin))) := by
  rcases h with ⟨h1, h2, h3, h4⟩ | ⟨h1, h2, fin, mv, h3, h4, h5, h6⟩
  · exact ⟨ys, ps, rfl, rfl, h4, .inl ⟨h1, h2, h3, rfl, rfl⟩⟩
  · rw [List.map_append] at h6
    exact ⟨_, _, by rw [List.length_map], by rw [List.length_map], h6, .inr ⟨h1, h2, fin, mv, h3, h4, h5, rfl, rfl⟩⟩
set_option maxHeartbeats 4000000 in
theorem putR_ok {w : World} {G Gp R : Nat → Prop} {p : Nat} {A : Option Addr} {c : Nat} {mem st ys ps : List Nat} {q n kd gp : Nat} {vP vR : Value} {ra : List (Nat × Nat)} (hH : HS w G p A c mem q n) (hn : n + 1 ≤ 1000000000) (hv : Vd mem st)
    (hR : Rd w R vR ra.length 1 (ra.map ptrV)) (hra : ra.Nodup) (h0 : Roots w w ra ys) (hb0 : ∀ e ∈ ra, ∃ cs, Blk w e.1 cs tWord) (hpG : ∀ e ∈ ra, ¬ G e.1) (hRl : ∀ k, R k → k < w.heap.size)
    (hP : Own w Gp tWord 1 vP ps.length (ps.map Wd)) (hPA : ∃ c, vP = .slice (if 0 < ps.length then some ⟨gp, 0, none⟩ else none) ps.length c) (hPG : ∀ k, Gp k → k ≠ p ∧ ¬ G k ∧ ∀ o, (k, o) ∉ ra)
    (hx : ∀ x ∈ ys ++ ps, x < 18446744073709551616 ∧ (x % 2 = 1 ∨ x / 2 ∈ st)) (hrl : ra.length ≤ 1000) (hpl : ps.length ≤ 1000) (hkd : kd < 256 ∧ kd ≠ 3) :
    Ret Tryd.prog 38 #[.pointer (some ⟨p, 0, none⟩), .int .u8 (kd : Int), vP, vR] w fun v w' => ∃ G' A' c' mem' N, HS w' G' p A' c' mem' q N ∧ (∀ k, G' k → G k ∨ w.heap.size ≤ k) ∧ Upd (fun k => k = p ∨ G k ∨ ∃ o, (k, o) ∈ ra ++ rowAt gp ps.length) w w' ∧ PX w ra (rowAt gp ps.length) ys ps mem st q (ps.length * 256 + kd) n w' v mem' N := by
  have hle := hH.le
  have hlp := hH.hd.lt
  obtain ⟨cP, rfl⟩ := hPA
  obtain ⟨AR, cR, rfl, hcR⟩ := hR.slice_form
  have hxl := h0.len
  have hlG := hH.lt
  have hrr : ∀ j, (ra ++ rowAt gp j).length = ra.length + j := fun j => by rw [List.length_append, rowAt_len]
  obtain ⟨g2, A2, c2, hvP, hpos, hroP, hblP, hback⟩ := hP.roots
  have hgp : 0 < ps.length → g2 = gp ∧ Gp gp := fun h => by
    obtain ⟨e1, e2, _⟩ := hpos h
    injection hvP with hvP _ _
    rw [if_pos h, e1] at hvP
    injection hvP with hvP
    injection hvP with hvP _
    exact ⟨hvP.symm, hvP ▸ e2⟩
  have hrow : rowAt g2 ps.length = rowAt gp ps.length := by
    rcases Nat.eq_zero_or_pos ps.length with h | h
    · rw [h]; rfl
    · rw [(hgp h).1]
  rw [hrow] at hroP hblP hback
  have hdis : ∀ (k o o' : Nat), (k, o) ∈ ra → (k, o') ∉ rowAt gp ps.length := fun k o o' h1 h2 => by
    obtain ⟨rfl, h3⟩ := rowAt_mem h2
    exact (hPG k (hgp (by omega)).2).2.2 o h1
  have hroB := h0.both hroP hdis
  have hblB : ∀ e ∈ ra ++ rowAt gp ps.length, ∃ cs, Blk w e.1 cs tWord := fun e he => by
    rcases List.mem_append.1 he with h | h
    · exact hb0 e h
    · exact hblP e h
  have hndB : (ra ++ rowAt gp ps.length).Nodup := by
    rw [List.nodup_append]
    refine ⟨hra, rowAt_nodup _ _, fun a ha b hb e => ?_⟩
    subst e
    exact hdis a.1 a.2 a.2 ha hb
  have hGB : ∀ e ∈ ra ++ rowAt gp ps.length, ¬ G e.1 := fun e he => by
    rcases List.mem_append.1 he with h | h
    · exact hpG e h
    · obtain ⟨h1, h2⟩ := rowAt_mem (b := e.1) (o := e.2) h
      rw [h1]
      exact (hPG gp (hgp (by omega)).2).2.1
  have hpB : ∀ e ∈ ra ++ rowAt gp ps.length, e.1 ≠ p := fun e he => by
    obtain ⟨cs, h⟩ := hblB e he
    exact h.ne hH.hd (by decide)
  have hltB : ∀ e ∈ ra ++ rowAt gp ps.length, e.1 < w.heap.size := fun e he => by
    obtain ⟨cs, h⟩ := hblB e he
    exact h.lt
  refine enterRet (vs := [_, _, _, _]) (N := 60) Tryd.func38 rfl rfl rfl ?_
  have hU := Upd.refl (fun k => k = p ∨ G k ∨ ∃ o, (k, o) ∈ ra ++ rowAt gp ps.length) w
  refine WC.keep [(0, _), (1, _), (2, _), (3, _)] ⟨rfl, rfl, rfl, rfl, trivial⟩ ?_
  refine WC.seq ?_
  refine WC.region ?_
  refine WL.val rfl rfl rfl rfl (r_assign rfl ev_c) ?_
  refine WL.val rfl rfl rfl rfl (r_assign rfl ev_c) ?_
  refine WL.nil ?_
  refine WX.keep [(0, _), (1, _), (2, _), (3, _)] ⟨rfl, rfl, rfl, rfl, trivial⟩ ?_
  refine WX.next ?_
  refine WC.seq ?_
  refine WC.seq ?_
  refine WC.region ?_
  refine WL.val rfl rfl rfl rfl (r_move rfl (ev_t rfl)) ?_
  refine WL.val rfl rfl rfl rfl (r_eqlPtrNil rfl (ev_t rfl) ev_c ptr_26) ?_
  refine WL.nil ?_
  refine WX.keep [(0, _), (1, _), (2, _), (3, _), (14, _)] ⟨rfl, rfl, rfl, rfl, rfl, trivial⟩ ?_
  refine WX.next ?_
  refine WC.cond rfl (ev_t rfl) (fun hc1 => ?_) (fun hc1 => ?_)
  · try (exfalso; first | (simp at hc1; done) | (simp only [decide_eq_true_eq, decide_eq_false_iff_not, Bool.not_eq_true', Bool.not_eq_false', Bool.not_eq_true, Bool.not_eq_false] at hc1; omega) | omega)
  · try (exfalso; first | (simp at hc1; done) | (simp only [decide_eq_true_eq, decide_eq_false_iff_not, Bool.not_eq_true', Bool.not_eq_false', Bool.not_eq_true, Bool.not_eq_false] at hc1; omega) | omega)
    all_goals
     try simp only [decide_eq_true_eq, decide_eq_false_iff_not, Bool.not_eq_true', Bool.not_eq_false', Bool.not_eq_true, Bool.not_eq_false, Option.isNone_none, Option.isNone_some, Option.isSome_none, Option.isSome_some, ne_eq, Decidable.not_not] at hc1
     refine WC.skip ?_
     refine WX.next ?_
     refine WC.seq ?_
     refine WC.region ?_
     refine WL.val rfl rfl rfl rfl (r_move rfl (ev_t rfl)) ?_
     refine WL.cons (SO.append (Own.nil _ No _ _) hR row_35 (fun u hu => by obtain ⟨x, _, rfl⟩ := List.mem_map.1 hu; rfl) (le_maxLen (by omega)) (by omega) rfl ev_c (ev_t rfl) rfl rfl rfl rfl ?_)
     intro v1 w1 hQ hu1
     have hs1 := hu1.size
     replace hU := hU.trans hu1 (by exact (fun _ _ h => h.elim))
     replace hH := hH.upd hu1 (fun k hk hl hS => by exact (show False from hS).elim)
     obtain ⟨A1, c1, rfl, hc1⟩ := Own.form hQ
     simp only [Nat.zero_add, List.nil_append] at hQ ⊢
     have hU0 : Upd No w w1 := hu1
     refine WL.val rfl rfl rfl rfl (r_assign rfl (ev_t rfl)) ?_
     refine WL.nil ?_
     refine WX.keep [(0, _), (1, _), (2, _), (10, _)] ⟨rfl, rfl, rfl, rfl, trivial⟩ ?_
     refine WX.next ?_
     refine WC.seq ?_
     refine WC.seq ?_
     refine WC.region ?_
     refine WL.val rfl rfl rfl rfl (r_move rfl (ev_t rfl)) ?_
     refine WL.val rfl rfl rfl rfl (r_lenSlice (ts := #[]) rfl (ev_t rfl) elem_30) ?_
     refine WL.val rfl rfl rfl rfl (r_move rfl ev_c) ?_
     refine WL.nil ?_
     refine WX.keep [(0, _), (1, _), (2, _), (10, _), (18, _), (19, _)] ⟨rfl, rfl, rfl, rfl, rfl, rfl, trivial⟩ ?_
     refine WX.next ?_
     refine WC.block ?_
     -- loop 1: live [0, 1, 2, 10, 18, 19]
     refine WC.keep [(0, _), (1, _), (2, _), (10, _), (18, _), (19, _)] ⟨rfl, rfl, rfl, rfl, rfl, rfl, trivial⟩ ?_
     refine WC.loop (fun qq E wC => ∃ (j : Nat) (vQ : Value) (Gq : Nat → Prop), j ≤ ps.length ∧ qq = ps.length - j ∧ Upd No w wC ∧ HS wC G p A c mem q n ∧ Own wC Gq 82 1 vQ (ra ++ rowAt gp j).length ((ra ++ rowAt gp j).map ptrV) ∧ (∀ k, Gq k → w.heap.size ≤ k) ∧ E = [(0, .pointer (some ⟨p, 0, none⟩)), (1, .int .u8 (kd : Int)), (2, .slice (if 0 < ps.length then some ⟨gp, 0, none⟩ else none) ps.length cP), (10, vQ), (18, .int .i64 (ps.length : Int)), (19, .int .i64 (j : Int))]) (ps.length) ?_ ?_
     · exact ⟨0, _, _, by omega, by omega, hU0, hH, by simpa [rowAt] using hQ, fun k hk => by rcases hk with h | h; exact h.elim; exact h.1, rfl⟩
     · clear hU hH hQ hU0
       rintro qq E wC ⟨j, vQ, Gq, hj, rfl, hU0, hH, hQ, hQn, rfl⟩
       have hU := hU0.no (S := fun k => k = p ∨ G k ∨ ∃ o, (k, o) ∈ ra ++ rowAt gp ps.length)
       have hUs := hU.size
       have hrj := hrr j
       refine WC.seq ?_
       refine WC.region ?_
       refine WL.val rfl rfl rfl rfl (r_lss rfl (ev_t rfl) (ev_t rfl)) ?_
       refine WL.nil ?_
       refine WX.keep [(0, _), (1, _), (2, _), (10, _), (18, _), (19, _), (20, _)] ⟨rfl, rfl, rfl, rfl, rfl, rfl, rfl, trivial⟩ ?_
       refine WX.next ?_
       refine WC.seq ?_
       refine WC.cond rfl (ev_t rfl) (fun hc5 => ?_) (fun hc5 => ?_)
       · try (exfalso; first | (simp at hc5; done) | (simp only [decide_eq_true_eq, decide_eq_false_iff_not, Bool.not_eq_true', Bool.not_eq_false', Bool.not_eq_true, Bool.not_eq_false] at hc5; omega) | omega)
         all_goals
          try simp only [decide_eq_true_eq, decide_eq_false_iff_not, Bool.not_eq_true', Bool.not_eq_false', Bool.not_eq_true, Bool.not_eq_false, Option.isNone_none, Option.isNone_some, Option.isSome_none, Option.isSome_some, ne_eq, Decidable.not_not] at hc5
          have hjl : j < ps.length := by omega
          rw [if_pos (by omega)]
          refine WC.skip ?_
          refine WX.next ?_
          refine WC.seq ?_
          refine WC.block ?_
          refine WC.seq ?_
          refine WC.region ?_
          refine WL.val rfl rfl rfl rfl (r_move rfl (ev_t rfl)) ?_
          refine WL.val rfl rfl rfl rfl (r_assign rfl (ev_t rfl)) ?_
          refine WL.nil ?_
          refine WX.keep [(0, _), (1, _), (2, _), (10, _), (11, _), (18, _), (19, _)] ⟨rfl, rfl, rfl, rfl, rfl, rfl, rfl, trivial⟩ ?_
          refine WX.next ?_
          refine WC.region ?_
          refine WL.val rfl rfl rfl rfl (r_move rfl (ev_t rfl)) ?_
          refine WL.val rfl rfl rfl rfl (r_move rfl (ev_t rfl)) ?_
          refine WL.val rfl rfl rfl rfl (r_move rfl (ev_t rfl)) ?_
          refine WL.val rfl rfl rfl rfl (r_indexAddr rfl (ev_t rfl) (ev_t rfl) elem_30 size_32 (by omega) (by omega)) ?_
          rw [show 0 + (j : Int).toNat * 1 = j by omega]
          refine WL.cons (SO.alloc rfl rfl rfl rfl (r_buildSlice1 (vs := [_]) rfl ⟨(ev_t rfl), trivial⟩ rfl row_35 rfl rfl) ?_)
          intro w2 hu2 hB2 hz2
          have hs2 := hu2.size
          replace hU := hU.trans hu2 (by exact (fun _ _ h => h.elim))
          replace hH := hH.upd hu2 (fun k hk hl hS => by exact (show False from hS).elim)
          replace hQ := hQ.upd hu2 (fun k hk hl hS => by first | exact (show False from hS).elim)
          replace hU0 := hU0.upd hu2 (fun k hl hk => by exact (show False from hk).elim)
          refine WL.cons (SO.append hQ (show Rd _ _ _ 1 1 [ptrV (gp, j)] from Rd.of_blk (F := At _) (n := 1) (sz := 1) hB2 rfl rfl (by omega)) row_35 (fun u hu => by simp at hu; subst hu; rfl) (le_maxLen (by omega)) (by omega) rfl (ev_t rfl) (ev_t rfl) rfl rfl rfl rfl ?_)
          intro v3 w3 hQ hu3
          have hs3 := hu3.size
          replace hU := hU.trans hu3 (by (intro k hl hk; first | exact (show False from hk).elim | (have h2 := hQn k hk; omega) | (simp only [At] at hk; exact .inl hk) | (have h9 := hG1 k hk; rcases h9 with h | h; exact .inr (.inl h); (exfalso; omega)) | (have h9 : (G1 k ∨ z2 ≤ k) := hk; rcases h9 with h9 | h9; have h10 := hG1 k h9; rcases h10 with h | h; exact .inr (.inl h); (exfalso; omega); (exfalso; omega)) | (rcases hk with h | h; exact .inl h; exact .inr (.inr h))))
          replace hH := hH.upd hu3 (fun k hk hl hS => by (have h2 := hQn k hS; rcases hk with hk | hk; omega; have := hlG k hk; omega))
          replace hU0 := hU0.upd hu3 (fun k hl hk => by (have h2 := hQn k hk; omega))
          obtain ⟨A3, c3, rfl, hc3⟩ := Own.form hQ
          refine WL.val rfl rfl rfl rfl (r_assign rfl (ev_t rfl)) ?_
          refine WL.nil ?_
          refine WX.keep [(0, _), (1, _), (2, _), (10, _), (18, _), (19, _)] ⟨rfl, rfl, rfl, rfl, rfl, rfl, trivial⟩ ?_
          refine WX.blockNormal ?_
          refine WX.next ?_
          refine WC.region ?_
          refine WL.val rfl rfl rfl rfl (r_addN rfl (ev_t rfl) ev_c (by simp only [inK]; omega)) ?_
          refine WL.val rfl rfl rfl rfl (r_move rfl (ev_t rfl)) ?_
          refine WL.nil ?_
          refine WX.keep [(0, _), (1, _), (2, _), (10, _), (18, _), (19, _)] ⟨rfl, rfl, rfl, rfl, rfl, rfl, trivial⟩ ?_
          refine WX.meet [(0, _), (1, _), (2, _), (10, _), (18, _), (19, _)] ⟨rfl, rfl, rfl, rfl, rfl, rfl, trivial⟩ ?_
          rw [show (ra ++ rowAt gp j).map ptrV ++ [ptrV (gp, j)] = (ra ++ rowAt gp (j + 1)).map ptrV by unfold rowAt; rw [List.range_succ]; simp, show (ra ++ rowAt gp j).length + 1 = (ra ++ rowAt gp (j + 1)).length by rw [hrr, hrr]; omega] at hQ
          rw [show (ra ++ rowAt gp j).length + 1 = (ra ++ rowAt gp (j + 1)).length by rw [hrr, hrr]; omega]
          have hs9 := (hu3).size
          refine ⟨ps.length - (j + 1), by omega, j + 1, _, _, by omega, rfl, hU0, hH, hQ, fun k hk => ?_, ?_⟩
          · rcases hk with hk | hk
            · exact hQn k hk
            · omega
          · first
            | rfl
       · try (exfalso; first | (simp at hc5; done) | (simp only [decide_eq_true_eq, decide_eq_false_iff_not, Bool.not_eq_true', Bool.not_eq_false', Bool.not_eq_true, Bool.not_eq_false] at hc5; omega) | omega)
         all_goals
          try simp only [decide_eq_true_eq, decide_eq_false_iff_not, Bool.not_eq_true', Bool.not_eq_false', Bool.not_eq_true, Bool.not_eq_false, Option.isNone_none, Option.isNone_some, Option.isSome_none, Option.isSome_some, ne_eq, Decidable.not_not] at hc5
          refine WC.exit ?_
          refine WX.thenExit ?_
          refine WX.thenExit ?_
          refine WX.blockHere ?_
          refine WX.next ?_
          refine WC.seq ?_
          refine WC.seq ?_
          obtain rfl : j = ps.length := by omega
          have hQr := hrr ps.length
          replace hQ := hQ.bound
          obtain ⟨z1, hz1⟩ : ∃ z, z = wC.heap.size := ⟨_, rfl⟩
          rw [← hz1] at hQ
          generalize hGe : (fun k => Gq k ∧ k < z1) = Gs at hQ
          have hQs : ∀ k, Gs k → w.heap.size ≤ k ∧ k < z1 := by subst hGe; exact fun k h => ⟨hQn k h.1, h.2⟩
          clear hGe
          have hszk : szO (ps.length * 256 + kd) = 1 + ps.length := by unfold szO; rw [if_neg (by omega)]; omega
          refine WC.region ?_
          refine WL.val rfl rfl rfl rfl (r_move rfl (ev_t rfl)) ?_
          refine WL.val rfl rfl rfl rfl (r_move rfl (ev_t rfl)) ?_
          refine WL.val rfl rfl rfl rfl (r_move rfl (ev_t rfl)) ?_
          refine WL.val rfl rfl rfl rfl (r_lenSlice (ts := #[]) rfl (ev_t rfl) elem_30) ?_
          refine WL.cons (SO.call (needK_ok (k := kd) (n := ps.length) (by omega) (by omega)) rfl body_10 ⟨(ev_t rfl), (ev_t rfl), trivial⟩ rfl rfl rfl rfl ?_)
          rw [hszk]
          rintro v w4 ⟨rfl, rfl⟩
          refine WL.val rfl rfl rfl rfl (r_move rfl (ev_t rfl)) ?_
          refine WL.cons (SO.call (roomR_ok hH hn hv (hQ.rd (by omega)) hndB (hroB.base hblB hU0 (fun _ _ h => h)) (fun e he => by obtain ⟨cs, h⟩ := hblB e he; exact ⟨cs, h.upd hU0 (fun h => h)⟩) hGB (fun k hk o ho => by have := hQs k hk; have := hltB _ ho; omega) (fun k hk => by have := hQs k hk; omega) (fun h => by have := hQs p h; omega) hx (by omega) (by omega)) rfl body_41 ⟨(ev_t rfl), (ev_t rfl), (ev_t rfl), trivial⟩ rfl rfl rfl rfl ?_)
          rintro v w5 ⟨G1, A1, c1, M, N, rfl, hH2, hG1, hu5, hRX⟩
          have hUz := hU0.size
          replace hG1 : ∀ k, G1 k → G k ∨ w.heap.size ≤ k := fun k hk => (hG1 k hk).imp id (fun h => by omega)
          obtain ⟨ys', ps', hy', hp', hro, hcase⟩ := (hRX.since hU0 (fun _ _ h => h)).vals
          have hPr : ∃ F', Rd w5 F' (.slice (if 0 < ps.length then some ⟨gp, 0, none⟩ else none) ps.length cP) ps.length 1 (ps'.map Wd) ∧ ∀ k, F' k → ¬ G1 k ∧ k ≠ p ∧ k < w.heap.size := by
            rcases Nat.eq_zero_or_pos ps.length with h | h
            · rw [if_neg (by omega)]
              have e : ps' = [] := List.eq_nil_of_length_eq_zero (by omega)
              rw [e, h]
              exact ⟨No, ⟨_, _, rfl, Nat.zero_le _, by omega, by simp, fun h => absurd rfl h⟩, fun k h => h.elim⟩
            · have hoP := hback w5 _ ps' ((hU0.no (S := fun k => k = p ∨ ∃ o, (k, o) ∈ ra ++ rowAt gp ps.length)).trans hu5 (fun _ _ h => h)) (fun h0 => by omega) (hro.right (by omega) hdis)
              rw [if_pos h] at hoP ⊢
              refine ⟨At gp, (hoP.mono (F' := Gp) (fun _ h => h)).rd (by omega) |>.atRow, fun k hk => ?_⟩
              simp only [At] at hk
              subst hk
              have h9 := hPG k (hgp h).2
              refine ⟨fun h8 => ?_, h9.1, ?_⟩
              · rcases hG1 k h8 with h8 | h8
                · exact h9.2.1 h8
                · have := hltB _ (List.mem_append_right _ (List.mem_of_getElem? (rowAt_get (g := k) h))); omega
              · exact hltB _ (List.mem_append_right _ (List.mem_of_getElem? (rowAt_get (g := k) h)))
          obtain ⟨F', hPr, hF'⟩ := hPr
          have hs5 := hu5.size
          replace hU := hU.trans hu5 (by (intro k hl hk; first | exact (show False from hk).elim | (have h2 := hQn k hk; omega) | (simp only [At] at hk; exact .inl hk) | (have h9 := hG1 k hk; rcases h9 with h | h; exact .inr (.inl h); (exfalso; omega)) | (have h9 : (G1 k ∨ z2 ≤ k) := hk; rcases h9 with h9 | h9; have h10 := hG1 k h9; rcases h10 with h | h; exact .inr (.inl h); (exfalso; omega); (exfalso; omega)) | (rcases hk with h | h; exact .inl h; exact .inr (.inr h))))
          clear hH
          have hH := hH2
          refine WL.val rfl rfl rfl rfl (r_not rfl (ev_t rfl)) ?_
          refine WL.nil ?_
          refine WX.keep [(0, _), (1, _), (2, _), (36, _)] ⟨rfl, rfl, rfl, rfl, trivial⟩ ?_
          refine WX.next ?_
          refine WC.cond rfl (ev_t rfl) (fun hc9 => ?_) (fun hc9 => ?_)
          · try (exfalso; first | (simp at hc9; done) | (simp only [decide_eq_true_eq, decide_eq_false_iff_not, Bool.not_eq_true', Bool.not_eq_false', Bool.not_eq_true, Bool.not_eq_false] at hc9; omega) | omega)
            all_goals
             try simp only [decide_eq_true_eq, decide_eq_false_iff_not, Bool.not_eq_true', Bool.not_eq_false', Bool.not_eq_true, Bool.not_eq_false, Option.isNone_none, Option.isNone_some, Option.isSome_none, Option.isSome_some, ne_eq, Decidable.not_not] at hc9
             refine WC.seq ?_
             refine WC.region ?_
             refine WL.val rfl rfl rfl rfl (r_assign rfl ev_c) ?_
             refine WL.val rfl rfl rfl rfl (r_assign rfl ev_c) ?_
             refine WL.nil ?_
             refine WX.keep [(8, _), (9, _)] ⟨rfl, rfl, trivial⟩ ?_
             refine WX.next ?_
             refine WC.ret ?_
             refine WX.thenRet ?_
             refine WX.retE2 rfl rfl rfl ?_
             exact ⟨G1, _, _, M, N, hH, hG1, hU, M, ys', ps', hy', hp', hro, hcase, fun h => absurd h (by simpa using hc9), fun _ => ⟨rfl, rfl⟩⟩
          · try (exfalso; first | (simp at hc9; done) | (simp only [decide_eq_true_eq, decide_eq_false_iff_not, Bool.not_eq_true', Bool.not_eq_false', Bool.not_eq_true, Bool.not_eq_false] at hc9; omega) | omega)
            all_goals
             try simp only [decide_eq_true_eq, decide_eq_false_iff_not, Bool.not_eq_true', Bool.not_eq_false', Bool.not_eq_true, Bool.not_eq_false, Option.isNone_none, Option.isNone_some, Option.isSome_none, Option.isSome_some, ne_eq, Decidable.not_not] at hc9
             have hfit : 1 + ps.length + M.length ≤ q := by simpa using hc9
             refine WC.skip ?_
             refine WX.next ?_
             refine WC.seq ?_
             refine WC.region ?_
             refine WL.val rfl rfl rfl rfl (r_move rfl (ev_t rfl)) ?_
             refine WL.val rfl rfl rfl rfl (r_nilCheck rfl (ev_t rfl)) ?_
             refine WL.val rfl rfl rfl rfl (r_field0 rfl (ev_t rfl) fld_79_0) ?_
             refine WL.val rfl rfl rfl rfl (r_load rfl (ev_t rfl) flat_30 (Blk.cell hH.hd rfl)) ?_
             refine WL.val rfl rfl rfl rfl (r_lenSlice (ts := #[]) rfl (ev_t rfl) elem_30) ?_
             refine WL.val rfl rfl rfl rfl (r_assign rfl (ev_t rfl)) ?_
             refine WL.nil ?_
             refine WX.keep [(0, _), (1, _), (2, _), (12, _)] ⟨rfl, rfl, rfl, rfl, trivial⟩ ?_
             refine WX.next ?_
             refine WC.seq ?_
             obtain ⟨hhd, how, hne, hlt, hle2, hcn⟩ := hH
             obtain ⟨z2, hz2⟩ : ∃ z, z = w5.heap.size := ⟨_, rfl⟩
             have hlp2 := hhd.lt
             refine WC.draws' (fun u0_ u1_ => Upd (fun k => k = p ∨ G1 k ∨ z2 ≤ k) u0_ u1_) (fun j => [0, 0, 0, 0, 2, 0, 0, 0, 2, 2, 2, 0, 2, 0, 0, 2].getD j 0) (.calm 0 (.calm 1 (.calm 2 (.calm 3 (.calm 5 (.calm 6 (.calm 7 (.calm 11 (.two 4 8 (.one 8 (.one 9 (.one 10 (.one 12 (.calm 13 (.calm 14 (.one 15 (.done)))))))) (.two 4 9 (.one 9 (.one 10 (.one 12 (.calm 13 (.calm 14 (.one 15 (.done))))))) (.one 4 (.one 10 (.one 12 (.calm 13 (.calm 14 (.one 15 (.done))))))))))))))))) mixed (by kernel_rfl) (by repeat (first | with_reducible exact Deaf.body | with_reducible apply Deaf.then)) ?_
             intro w6 hu6
             have hz6 := congrArg Array.size hu6.2.2.2
             replace hu6 := Upd.of_draw hu6
             have hs6 := hu6.size
             replace hU := hU.trans hu6 (by exact (fun _ _ h => h.elim))
             replace hro := hro.upd hu6 (fun k hk hl hS => by obtain ⟨o, ho⟩ := hk; have h8 := hltB _ ho; exact (show False from hS).elim)
             replace hPr := hPr.upd hu6 (fun k hk hl hS => by have h8 := hF' k hk; exact (show False from hS).elim)
             replace hhd := hhd.upd hu6 (fun hS => by exact (show False from hS))
             replace how := how.upd hu6 (fun k hk hl hS => by exact (show False from hS).elim)
             refine WN.calm _ rfl rfl rfl rfl rfl (fun _ => r_move rfl (ev_t rfl)) ?_
             refine WN.calm _ rfl rfl rfl rfl rfl (fun _ => r_move rfl (ev_t rfl)) ?_
             refine WN.calm _ rfl rfl rfl rfl rfl (fun _ => r_nilCheck rfl (ev_t rfl)) ?_
             refine WN.calm _ rfl rfl rfl rfl rfl (fun _ => r_field0 rfl (ev_t rfl) fld_79_0) ?_
             refine WN.calm _ rfl rfl rfl rfl rfl (fun _ => r_move rfl (ev_t rfl)) ?_
             refine WN.calm _ rfl rfl rfl rfl rfl (fun _ => r_move rfl (ev_t rfl)) ?_
             refine WN.calm _ rfl rfl rfl rfl rfl (fun _ => r_lenSlice (ts := #[]) rfl (ev_t rfl) elem_30) ?_
             refine WN.calm _ rfl rfl rfl rfl rfl (fun _ => r_move rfl (ev_t rfl)) ?_
             refine WN.fork _ _ rfl rfl ?_ ?_
             · refine SO.val rfl rfl rfl rfl (r_load rfl (ev_t rfl) flat_30 (Blk.cell hhd rfl)) ?_
               refine ⟨trivial, ?_⟩
               refine WN.step _ rfl (SO.call (headK_ok (k := kd) (n := ps.length) (by omega) (by omega)) rfl body_42 ⟨(ev_t rfl), (ev_t rfl), trivial⟩ rfl rfl rfl rfl ?_)
               rintro v w7 ⟨rfl, rfl⟩
               refine ⟨trivial, ?_⟩
               refine WN.step _ rfl (SO.alloc rfl rfl rfl rfl (r_buildSlice1 (vs := [_]) rfl ⟨(ev_t rfl), trivial⟩ rfl row_30 rfl rfl) ?_)
               intro w8 hu8 hB8 hz8
               have hs8 := hu8.size
               replace hU := hU.trans hu8 (by exact (fun _ _ h => h.elim))
               replace hro := hro.upd hu8 (fun k hk hl hS => by obtain ⟨o, ho⟩ := hk; have h8 := hltB _ ho; exact (show False from hS).elim)
               replace hPr := hPr.upd hu8 (fun k hk hl hS => by have h8 := hF' k hk; exact (show False from hS).elim)
               replace hhd := hhd.upd hu8 (fun hS => by exact (show False from hS))
               replace how := how.upd hu8 (fun k hk hl hS => by exact (show False from hS).elim)
               refine ⟨trivial, ?_⟩
               refine WN.step _ rfl (SO.append how (show Rd _ _ _ 1 1 [Wd (ps.length * 256 + kd)] from Rd.of_blk (F := At _) (n := 1) (sz := 1) hB8 rfl rfl (by omega)) row_30 (fun u hu => by simp at hu; subst hu; rfl) (le_maxLen (by omega)) (by omega) rfl (ev_t rfl) (ev_t rfl) rfl rfl rfl rfl ?_)
               intro v9 w9 how hu9
               have hs9 := hu9.size
               replace hU := hU.trans hu9 (by (intro k hl hk; first | exact (show False from hk).elim | (have h2 := hQn k hk; omega) | (simp only [At] at hk; exact .inl hk) | (have h9 := hG1 k hk; rcases h9 with h | h; exact .inr (.inl h); (exfalso; omega)) | (have h9 : (G1 k ∨ z2 ≤ k) := hk; rcases h9 with h9 | h9; have h10 := hG1 k h9; rcases h10 with h | h; exact .inr (.inl h); (exfalso; omega); (exfalso; omega)) | (rcases hk with h | h; exact .inl h; exact .inr (.inr h))))
               replace hro := hro.upd hu9 (fun k hk hl hS => by obtain ⟨o, ho⟩ := hk; have h8 := hltB _ ho; (have h9 := hG1 k hS; rcases h9 with h9 | h9; exact hGB _ ho h9; omega))
               replace hPr := hPr.upd hu9 (fun k hk hl hS => by have h8 := hF' k hk; exact h8.1 hS)
               replace hhd := hhd.upd hu9 (fun hS => by exact hne hS)
               refine ⟨trivial, ?_⟩
               obtain ⟨A9, c9, rfl, hc9⟩ := Own.form how
               replace how := how.mono (F' := fun k => G1 k ∨ z2 ≤ k) (fun k hk => by rcases hk with hk | hk; exact .inl hk; exact .inr (by omega))
               refine WN.step _ rfl (SO.append how hPr row_30 (fun u hu => by obtain ⟨x, _, rfl⟩ := List.mem_map.1 hu; rfl) (le_maxLen (by omega)) (by omega) rfl (ev_t rfl) (ev_t rfl) rfl rfl rfl rfl ?_)
               intro v10 w10 how hu10
               have hs10 := hu10.size
               replace hU := hU.trans hu10 (by (intro k hl hk; first | exact (show False from hk).elim | (have h2 := hQn k hk; omega) | (simp only [At] at hk; exact .inl hk) | (have h9 := hG1 k hk; rcases h9 with h | h; exact .inr (.inl h); (exfalso; omega)) | (have h9 : (G1 k ∨ z2 ≤ k) := hk; rcases h9 with h9 | h9; have h10 := hG1 k h9; rcases h10 with h | h; exact .inr (.inl h); (exfalso; omega); (exfalso; omega)) | (rcases hk with h | h; exact .inl h; exact .inr (.inr h))))
               replace hro := hro.upd hu10 (fun k hk hl hS => by obtain ⟨o, ho⟩ := hk; have h8 := hltB _ ho; (have h9 : (G1 k ∨ z2 ≤ k) := hS; rcases h9 with h9 | h9; have h10 := hG1 k h9; rcases h10 with h10 | h10; exact hGB _ ho h10; omega; omega))
               replace hPr := hPr.upd hu10 (fun k hk hl hS => by have h8 := hF' k hk; (have h9 : (G1 k ∨ z2 ≤ k) := hS; rcases h9 with h9 | h9; exact h8.1 h9; omega))
               replace hhd := hhd.upd hu10 (fun hS => by (have h9 : (G1 p ∨ z2 ≤ p) := hS; rcases h9 with h9 | h9; exact hne h9; omega))
               refine ⟨trivial, ?_⟩
               obtain ⟨A10, c10, rfl, hc10⟩ := Own.form how
               replace how := how.mono (F' := fun k => G1 k ∨ z2 ≤ k) (fun k hk => by rcases hk with hk | hk; exact hk; exact .inr (by omega))
               refine WN.calm _ rfl rfl rfl rfl rfl (fun _ => r_nilCheck rfl (ev_t rfl)) ?_
               refine WN.calm _ rfl rfl rfl rfl rfl (fun _ => r_field0 rfl (ev_t rfl) fld_79_0) ?_
               refine WN.step _ rfl (SO.store rfl (ev_t rfl) (ev_t rfl) size_30 hhd rfl rfl rfl rfl rfl ?_)
               intro w11 hu11 hhd hz11
               have hs11 := hu11.size
               replace hU := hU.trans hu11 (by (intro k hl hk; (try simp only [At, New, Grow, From, No] at hk ⊢); omega))
               replace hro := hro.upd hu11 (fun k hk hl hS => by obtain ⟨o, ho⟩ := hk; have h8 := hltB _ ho; (simp only [At] at hS; exact hpB _ ho hS))
               replace hPr := hPr.upd hu11 (fun k hk hl hS => by have h8 := hF' k hk; (simp only [At] at hS; omega))
               replace how := how.upd hu11 (fun k hk hl hS => by (simp only [At] at hS; subst hS; first | exact hne hk | (have h9 : (G1 k ∨ z2 ≤ k) := hk; rcases h9 with h9 | h9; exact hne h9; omega)))
               refine ⟨trivial, ?_⟩
               refine WN.done ?_
               refine WX.keep [(12, _)] ⟨rfl, trivial⟩ ?_
               refine WX.next ?_
               refine WC.seq ?_
               refine WC.region ?_
               refine WL.val rfl rfl rfl rfl (r_move rfl (ev_t rfl)) ?_
               refine WL.val rfl rfl rfl rfl (r_convN rfl (ev_t rfl) some_3 int_32 (by simp only [inK]; omega)) ?_
               refine WL.val rfl rfl rfl rfl (r_shl rfl (ev_t rfl) ev_c (by omega) (by simp only [IntKind.bits]; omega)) ?_
               refine WL.val rfl rfl rfl rfl (r_assign rfl (ev_t rfl)) ?_
               refine WL.val rfl rfl rfl rfl (r_assign rfl ev_c) ?_
               refine WL.nil ?_
               refine WX.keep [(8, _), (9, _)] ⟨rfl, rfl, trivial⟩ ?_
               refine WX.next ?_
               refine WC.ret ?_
               refine WX.retE2 rfl rfl rfl ?_
               have eL : M.length + 1 + ps.length = (M ++ [ps.length * 256 + kd] ++ ps').length := by simp; omega
               have eM : M.map Wd ++ [Wd (ps.length * 256 + kd)] ++ ps'.map Wd = (M ++ [ps.length * 256 + kd] ++ ps').map Wd := by simp
               rw [eM] at how
               rw [eL] at how hhd
               have ew : IntKind.u64.wrap ((M.length : Int) * 2 ^ Int.toNat 1) = ((2 * M.length : Nat) : Int) := by
                 rw [wrap_u64, show (2 : Int) ^ Int.toNat 1 = 2 by decide]; omega
               rw [ew]
               have hzz := hU.size
               refine ⟨_, _, _, _, N, ⟨hhd, how.bound, ?_, fun k hk => hk.2, ⟨by omega, hle2.2⟩, hcn⟩, fun k hk => ?_, hU, M, ys', ps', hy', hp', hro, hcase, fun _ => ⟨rfl, rfl⟩, fun h => absurd hfit h⟩
               · intro h
                 rcases h.1 with h | h
                 · exact hne h
                 · omega
               · rcases hk.1 with h | h
                 · exact hG1 k h
                 · exact .inr (by omega)
             · refine SO.call (headK_ok (k := kd) (n := ps.length) (by omega) (by omega)) rfl body_42 ⟨(ev_t rfl), (ev_t rfl), trivial⟩ rfl rfl rfl rfl ?_
               rintro v w12 ⟨rfl, rfl⟩
               refine ⟨trivial, ?_⟩
               refine WN.fork _ _ rfl rfl ?_ ?_
               · refine SO.val rfl rfl rfl rfl (r_load rfl (ev_t rfl) flat_30 (Blk.cell hhd rfl)) ?_
                 refine ⟨trivial, ?_⟩
                 refine WN.step _ rfl (SO.alloc rfl rfl rfl rfl (r_buildSlice1 (vs := [_]) rfl ⟨(ev_t rfl), trivial⟩ rfl row_30 rfl rfl) ?_)
                 intro w13 hu13 hB13 hz13
                 have hs13 := hu13.size
                 replace hU := hU.trans hu13 (by exact (fun _ _ h => h.elim))
                 replace hro := hro.upd hu13 (fun k hk hl hS => by obtain ⟨o, ho⟩ := hk; have h8 := hltB _ ho; exact (show False from hS).elim)
                 replace hPr := hPr.upd hu13 (fun k hk hl hS => by have h8 := hF' k hk; exact (show False from hS).elim)
                 replace hhd := hhd.upd hu13 (fun hS => by exact (show False from hS))
                 replace how := how.upd hu13 (fun k hk hl hS => by exact (show False from hS).elim)
                 refine ⟨trivial, ?_⟩
                 refine WN.step _ rfl (SO.append how (show Rd _ _ _ 1 1 [Wd (ps.length * 256 + kd)] from Rd.of_blk (F := At _) (n := 1) (sz := 1) hB13 rfl rfl (by omega)) row_30 (fun u hu => by simp at hu; subst hu; rfl) (le_maxLen (by omega)) (by omega) rfl (ev_t rfl) (ev_t rfl) rfl rfl rfl rfl ?_)
                 intro v14 w14 how hu14
                 have hs14 := hu14.size
                 replace hU := hU.trans hu14 (by (intro k hl hk; first | exact (show False from hk).elim | (have h2 := hQn k hk; omega) | (simp only [At] at hk; exact .inl hk) | (have h9 := hG1 k hk; rcases h9 with h | h; exact .inr (.inl h); (exfalso; omega)) | (have h9 : (G1 k ∨ z2 ≤ k) := hk; rcases h9 with h9 | h9; have h10 := hG1 k h9; rcases h10 with h | h; exact .inr (.inl h); (exfalso; omega); (exfalso; omega)) | (rcases hk with h | h; exact .inl h; exact .inr (.inr h))))
                 replace hro := hro.upd hu14 (fun k hk hl hS => by obtain ⟨o, ho⟩ := hk; have h8 := hltB _ ho; (have h9 := hG1 k hS; rcases h9 with h9 | h9; exact hGB _ ho h9; omega))
                 replace hPr := hPr.upd hu14 (fun k hk hl hS => by have h8 := hF' k hk; exact h8.1 hS)
                 replace hhd := hhd.upd hu14 (fun hS => by exact hne hS)
                 refine ⟨trivial, ?_⟩
                 obtain ⟨A14, c14, rfl, hc14⟩ := Own.form how
                 replace how := how.mono (F' := fun k => G1 k ∨ z2 ≤ k) (fun k hk => by rcases hk with hk | hk; exact .inl hk; exact .inr (by omega))
                 refine WN.step _ rfl (SO.append how hPr row_30 (fun u hu => by obtain ⟨x, _, rfl⟩ := List.mem_map.1 hu; rfl) (le_maxLen (by omega)) (by omega) rfl (ev_t rfl) (ev_t rfl) rfl rfl rfl rfl ?_)
                 intro v15 w15 how hu15
                 have hs15 := hu15.size
                 replace hU := hU.trans hu15 (by (intro k hl hk; first | exact (show False from hk).elim | (have h2 := hQn k hk; omega) | (simp only [At] at hk; exact .inl hk) | (have h9 := hG1 k hk; rcases h9 with h | h; exact .inr (.inl h); (exfalso; omega)) | (have h9 : (G1 k ∨ z2 ≤ k) := hk; rcases h9 with h9 | h9; have h10 := hG1 k h9; rcases h10 with h | h; exact .inr (.inl h); (exfalso; omega); (exfalso; omega)) | (rcases hk with h | h; exact .inl h; exact .inr (.inr h))))
                 replace hro := hro.upd hu15 (fun k hk hl hS => by obtain ⟨o, ho⟩ := hk; have h8 := hltB _ ho; (have h9 : (G1 k ∨ z2 ≤ k) := hS; rcases h9 with h9 | h9; have h10 := hG1 k h9; rcases h10 with h10 | h10; exact hGB _ ho h10; omega; omega))
                 replace hPr := hPr.upd hu15 (fun k hk hl hS => by have h8 := hF' k hk; (have h9 : (G1 k ∨ z2 ≤ k) := hS; rcases h9 with h9 | h9; exact h8.1 h9; omega))
                 replace hhd := hhd.upd hu15 (fun hS => by (have h9 : (G1 p ∨ z2 ≤ p) := hS; rcases h9 with h9 | h9; exact hne h9; omega))
                 refine ⟨trivial, ?_⟩
                 obtain ⟨A15, c15, rfl, hc15⟩ := Own.form how
                 replace how := how.mono (F' := fun k => G1 k ∨ z2 ≤ k) (fun k hk => by rcases hk with hk | hk; exact hk; exact .inr (by omega))
                 refine WN.calm _ rfl rfl rfl rfl rfl (fun _ => r_nilCheck rfl (ev_t rfl)) ?_
                 refine WN.calm _ rfl rfl rfl rfl rfl (fun _ => r_field0 rfl (ev_t rfl) fld_79_0) ?_
                 refine WN.step _ rfl (SO.store rfl (ev_t rfl) (ev_t rfl) size_30 hhd rfl rfl rfl rfl rfl ?_)
                 intro w16 hu16 hhd hz16
                 have hs16 := hu16.size
                 replace hU := hU.trans hu16 (by (intro k hl hk; (try simp only [At, New, Grow, From, No] at hk ⊢); omega))
                 replace hro := hro.upd hu16 (fun k hk hl hS => by obtain ⟨o, ho⟩ := hk; have h8 := hltB _ ho; (simp only [At] at hS; exact hpB _ ho hS))
                 replace hPr := hPr.upd hu16 (fun k hk hl hS => by have h8 := hF' k hk; (simp only [At] at hS; omega))
                 replace how := how.upd hu16 (fun k hk hl hS => by (simp only [At] at hS; subst hS; first | exact hne hk | (have h9 : (G1 k ∨ z2 ≤ k) := hk; rcases h9 with h9 | h9; exact hne h9; omega)))
                 refine ⟨trivial, ?_⟩
                 refine WN.done ?_
                 refine WX.keep [(12, _)] ⟨rfl, trivial⟩ ?_
                 refine WX.next ?_
                 refine WC.seq ?_
                 refine WC.region ?_
                 refine WL.val rfl rfl rfl rfl (r_move rfl (ev_t rfl)) ?_
                 refine WL.val rfl rfl rfl rfl (r_convN rfl (ev_t rfl) some_3 int_32 (by simp only [inK]; omega)) ?_
                 refine WL.val rfl rfl rfl rfl (r_shl rfl (ev_t rfl) ev_c (by omega) (by simp only [IntKind.bits]; omega)) ?_
                 refine WL.val rfl rfl rfl rfl (r_assign rfl (ev_t rfl)) ?_
                 refine WL.val rfl rfl rfl rfl (r_assign rfl ev_c) ?_
                 refine WL.nil ?_
                 refine WX.keep [(8, _), (9, _)] ⟨rfl, rfl, trivial⟩ ?_
                 refine WX.next ?_
                 refine WC.ret ?_
                 refine WX.retE2 rfl rfl rfl ?_
                 have eL : M.length + 1 + ps.length = (M ++ [ps.length * 256 + kd] ++ ps').length := by simp; omega
                 have eM : M.map Wd ++ [Wd (ps.length * 256 + kd)] ++ ps'.map Wd = (M ++ [ps.length * 256 + kd] ++ ps').map Wd := by simp
                 rw [eM] at how
                 rw [eL] at how hhd
                 have ew : IntKind.u64.wrap ((M.length : Int) * 2 ^ Int.toNat 1) = ((2 * M.length : Nat) : Int) := by
                   rw [wrap_u64, show (2 : Int) ^ Int.toNat 1 = 2 by decide]; omega
                 rw [ew]
                 have hzz := hU.size
                 refine ⟨_, _, _, _, N, ⟨hhd, how.bound, ?_, fun k hk => hk.2, ⟨by omega, hle2.2⟩, hcn⟩, fun k hk => ?_, hU, M, ys', ps', hy', hp', hro, hcase, fun _ => ⟨rfl, rfl⟩, fun h => absurd hfit h⟩
                 · intro h
                   rcases h.1 with h | h
                   · exact hne h
                   · omega
                 · rcases hk.1 with h | h
                   · exact hG1 k h
                   · exact .inr (by omega)
               · refine SO.alloc rfl rfl rfl rfl (r_buildSlice1 (vs := [_]) rfl ⟨(ev_t rfl), trivial⟩ rfl row_30 rfl rfl) ?_
                 intro w17 hu17 hB17 hz17
                 have hs17 := hu17.size
                 replace hU := hU.trans hu17 (by exact (fun _ _ h => h.elim))
                 replace hro := hro.upd hu17 (fun k hk hl hS => by obtain ⟨o, ho⟩ := hk; have h8 := hltB _ ho; exact (show False from hS).elim)
                 replace hPr := hPr.upd hu17 (fun k hk hl hS => by have h8 := hF' k hk; exact (show False from hS).elim)
                 replace hhd := hhd.upd hu17 (fun hS => by exact (show False from hS))
                 replace how := how.upd hu17 (fun k hk hl hS => by exact (show False from hS).elim)
                 refine ⟨trivial, ?_⟩
                 refine WN.step _ rfl (SO.val rfl rfl rfl rfl (r_load rfl (ev_t rfl) flat_30 (Blk.cell hhd rfl)) ?_)
                 refine ⟨trivial, ?_⟩
                 refine WN.step _ rfl (SO.append how (show Rd _ _ _ 1 1 [Wd (ps.length * 256 + kd)] from Rd.of_blk (F := At _) (n := 1) (sz := 1) hB17 rfl rfl (by omega)) row_30 (fun u hu => by simp at hu; subst hu; rfl) (le_maxLen (by omega)) (by omega) rfl (ev_t rfl) (ev_t rfl) rfl rfl rfl rfl ?_)
                 intro v18 w18 how hu18
                 have hs18 := hu18.size
                 replace hU := hU.trans hu18 (by (intro k hl hk; first | exact (show False from hk).elim | (have h2 := hQn k hk; omega) | (simp only [At] at hk; exact .inl hk) | (have h9 := hG1 k hk; rcases h9 with h | h; exact .inr (.inl h); (exfalso; omega)) | (have h9 : (G1 k ∨ z2 ≤ k) := hk; rcases h9 with h9 | h9; have h10 := hG1 k h9; rcases h10 with h | h; exact .inr (.inl h); (exfalso; omega); (exfalso; omega)) | (rcases hk with h | h; exact .inl h; exact .inr (.inr h))))
                 replace hro := hro.upd hu18 (fun k hk hl hS => by obtain ⟨o, ho⟩ := hk; have h8 := hltB _ ho; (have h9 := hG1 k hS; rcases h9 with h9 | h9; exact hGB _ ho h9; omega))
                 replace hPr := hPr.upd hu18 (fun k hk hl hS => by have h8 := hF' k hk; exact h8.1 hS)
                 replace hhd := hhd.upd hu18 (fun hS => by exact hne hS)
                 refine ⟨trivial, ?_⟩
                 obtain ⟨A18, c18, rfl, hc18⟩ := Own.form how
                 replace how := how.mono (F' := fun k => G1 k ∨ z2 ≤ k) (fun k hk => by rcases hk with hk | hk; exact .inl hk; exact .inr (by omega))
                 refine WN.step _ rfl (SO.append how hPr row_30 (fun u hu => by obtain ⟨x, _, rfl⟩ := List.mem_map.1 hu; rfl) (le_maxLen (by omega)) (by omega) rfl (ev_t rfl) (ev_t rfl) rfl rfl rfl rfl ?_)
                 intro v19 w19 how hu19
                 have hs19 := hu19.size
                 replace hU := hU.trans hu19 (by (intro k hl hk; first | exact (show False from hk).elim | (have h2 := hQn k hk; omega) | (simp only [At] at hk; exact .inl hk) | (have h9 := hG1 k hk; rcases h9 with h | h; exact .inr (.inl h); (exfalso; omega)) | (have h9 : (G1 k ∨ z2 ≤ k) := hk; rcases h9 with h9 | h9; have h10 := hG1 k h9; rcases h10 with h | h; exact .inr (.inl h); (exfalso; omega); (exfalso; omega)) | (rcases hk with h | h; exact .inl h; exact .inr (.inr h))))
                 replace hro := hro.upd hu19 (fun k hk hl hS => by obtain ⟨o, ho⟩ := hk; have h8 := hltB _ ho; (have h9 : (G1 k ∨ z2 ≤ k) := hS; rcases h9 with h9 | h9; have h10 := hG1 k h9; rcases h10 with h10 | h10; exact hGB _ ho h10; omega; omega))
                 replace hPr := hPr.upd hu19 (fun k hk hl hS => by have h8 := hF' k hk; (have h9 : (G1 k ∨ z2 ≤ k) := hS; rcases h9 with h9 | h9; exact h8.1 h9; omega))
                 replace hhd := hhd.upd hu19 (fun hS => by (have h9 : (G1 p ∨ z2 ≤ p) := hS; rcases h9 with h9 | h9; exact hne h9; omega))
                 refine ⟨trivial, ?_⟩
                 obtain ⟨A19, c19, rfl, hc19⟩ := Own.form how
                 replace how := how.mono (F' := fun k => G1 k ∨ z2 ≤ k) (fun k hk => by rcases hk with hk | hk; exact hk; exact .inr (by omega))
                 refine WN.calm _ rfl rfl rfl rfl rfl (fun _ => r_nilCheck rfl (ev_t rfl)) ?_
                 refine WN.calm _ rfl rfl rfl rfl rfl (fun _ => r_field0 rfl (ev_t rfl) fld_79_0) ?_
                 refine WN.step _ rfl (SO.store rfl (ev_t rfl) (ev_t rfl) size_30 hhd rfl rfl rfl rfl rfl ?_)
                 intro w20 hu20 hhd hz20
                 have hs20 := hu20.size
                 replace hU := hU.trans hu20 (by (intro k hl hk; (try simp only [At, New, Grow, From, No] at hk ⊢); omega))
                 replace hro := hro.upd hu20 (fun k hk hl hS => by obtain ⟨o, ho⟩ := hk; have h8 := hltB _ ho; (simp only [At] at hS; exact hpB _ ho hS))
                 replace hPr := hPr.upd hu20 (fun k hk hl hS => by have h8 := hF' k hk; (simp only [At] at hS; omega))
                 replace how := how.upd hu20 (fun k hk hl hS => by (simp only [At] at hS; subst hS; first | exact hne hk | (have h9 : (G1 k ∨ z2 ≤ k) := hk; rcases h9 with h9 | h9; exact hne h9; omega)))
                 refine ⟨trivial, ?_⟩
                 refine WN.done ?_
                 refine WX.keep [(12, _)] ⟨rfl, trivial⟩ ?_
                 refine WX.next ?_
                 refine WC.seq ?_
                 refine WC.region ?_
                 refine WL.val rfl rfl rfl rfl (r_move rfl (ev_t rfl)) ?_
                 refine WL.val rfl rfl rfl rfl (r_convN rfl (ev_t rfl) some_3 int_32 (by simp only [inK]; omega)) ?_
                 refine WL.val rfl rfl rfl rfl (r_shl rfl (ev_t rfl) ev_c (by omega) (by simp only [IntKind.bits]; omega)) ?_
                 refine WL.val rfl rfl rfl rfl (r_assign rfl (ev_t rfl)) ?_
                 refine WL.val rfl rfl rfl rfl (r_assign rfl ev_c) ?_
                 refine WL.nil ?_
                 refine WX.keep [(8, _), (9, _)] ⟨rfl, rfl, trivial⟩ ?_
                 refine WX.next ?_
                 refine WC.ret ?_
                 refine WX.retE2 rfl rfl rfl ?_
                 have eL : M.length + 1 + ps.length = (M ++ [ps.length * 256 + kd] ++ ps').length := by simp; omega
                 have eM : M.map Wd ++ [Wd (ps.length * 256 + kd)] ++ ps'.map Wd = (M ++ [ps.length * 256 + kd] ++ ps').map Wd := by simp
                 rw [eM] at how
                 rw [eL] at how hhd
                 have ew : IntKind.u64.wrap ((M.length : Int) * 2 ^ Int.toNat 1) = ((2 * M.length : Nat) : Int) := by
                   rw [wrap_u64, show (2 : Int) ^ Int.toNat 1 = 2 by decide]; omega
                 rw [ew]
                 have hzz := hU.size
                 refine ⟨_, _, _, _, N, ⟨hhd, how.bound, ?_, fun k hk => hk.2, ⟨by omega, hle2.2⟩, hcn⟩, fun k hk => ?_, hU, M, ys', ps', hy', hp', hro, hcase, fun _ => ⟨rfl, rfl⟩, fun h => absurd hfit h⟩
                 · intro h
                   rcases h.1 with h | h
                   · exact hne h
                   · omega
                 · rcases hk.1 with h | h
                   · exact hG1 k h
                   · exact .inr (by omega)
end Go.Proofs.YtdpnnclkkbfihaaDoor

/-
  heap: Part, SetPart; the law's part.
-/
namespace Go.Proofs.YtdpnnclkkbfihaaDoor
open Go
set_option linter.unusedSimpArgs false
set_option linter.unusedVariables false

theorem part_ok {w : World} {G : Nat → Prop} {p : Nat} {A : Option Addr} {c : Nat} {mem : List Nat} {q n a x i : Nat} (hH : HS w G p A c mem q n) (ha : mem[a]? = some x) (hx : x < 18446744073709551616) (hs : a + szO x ≤ mem.length) (hi : i ≤ 1000000000) :
    Ret Tryd.prog 39 #[.pointer (some ⟨p, 0, none⟩), .int .u64 ((2 * a : Nat) : Int), .int .i64 (i : Int)] w fun v w' => Upd No w w' ∧ (i < x / 256 ∧ x % 256 ≠ 3 → v = .tuple #[Wd (mem.getD (a + 1 + i) 0), .int .i64 0]) ∧ (¬ (i < x / 256 ∧ x % 256 ≠ 3) → v = .tuple #[.int .u64 0, .int .i64 1]) := by
  have hle := hH.le
  have hal := (List.getElem?_eq_some_iff.1 ha).1
  have hr := hH.ow.rd (by omega)
  obtain ⟨b0, off, rfl, _⟩ := hr.open (by omega)
  refine enterRet (vs := [_, _, _]) (N := 35) Tryd.func39 rfl rfl rfl ?_
  have hU := Upd.refl No w
  refine WC.keep [(0, _), (1, _), (2, _)] ⟨rfl, rfl, rfl, trivial⟩ ?_
  refine WC.seq ?_
  refine WC.region ?_
  refine WL.val rfl rfl rfl rfl (r_assign rfl ev_c) ?_
  refine WL.val rfl rfl rfl rfl (r_assign rfl ev_c) ?_
  refine WL.nil ?_
  refine WX.keep [(0, _), (1, _), (2, _)] ⟨rfl, rfl, rfl, trivial⟩ ?_
  refine WX.next ?_
  refine WC.seq ?_
  refine WC.seq ?_
  refine WC.region ?_
  refine WL.val rfl rfl rfl rfl (r_move rfl (ev_t rfl)) ?_
  refine WL.val rfl rfl rfl rfl (r_lss rfl (ev_t rfl) ev_c) ?_
  refine WL.val rfl rfl rfl rfl (r_move rfl (ev_t rfl)) ?_
  refine WL.cases 10 rfl (fun hb1_2 => ?_) (fun hb1_2 => ?_)
  · try (exfalso; first | (simp at hb1_2; done) | (simp only [decide_eq_true_eq, decide_eq_false_iff_not, Bool.not_eq_true', Bool.not_eq_false', Bool.not_eq_true, Bool.not_eq_false] at hb1_2; omega) | omega)
  · try (exfalso; first | (simp at hb1_2; done) | (simp only [decide_eq_true_eq, decide_eq_false_iff_not, Bool.not_eq_true', Bool.not_eq_false', Bool.not_eq_true, Bool.not_eq_false] at hb1_2; omega) | omega)
    all_goals
     try simp only [decide_eq_true_eq, decide_eq_false_iff_not, Bool.not_eq_true', Bool.not_eq_false', Bool.not_eq_true, Bool.not_eq_false, Option.isNone_none, Option.isNone_some, Option.isSome_none, Option.isSome_some, ne_eq, Decidable.not_not] at hb1_2
     refine WL.val rfl rfl rfl rfl (r_move rfl (ev_t rfl)) ?_
     refine WL.val rfl rfl rfl rfl (r_move rfl (ev_t rfl)) ?_
     refine WL.val rfl rfl rfl rfl (r_move rfl (ev_t rfl)) ?_
     refine WL.cons (SO.call (len_ok hH ha hx) rfl body_16 ⟨(ev_t rfl), (ev_t rfl), trivial⟩ rfl rfl rfl rfl ?_)
     rintro v w1 ⟨rfl, rfl⟩
     refine WL.val rfl rfl rfl rfl (r_geq rfl (ev_t rfl) (ev_t rfl)) ?_
     refine WL.val rfl rfl rfl rfl (r_pickF rfl (ev_t rfl) (ev_t rfl)) ?_
     refine WL.val rfl rfl rfl rfl (r_move rfl (ev_t rfl)) ?_
     refine WL.cases 17 rfl (fun hb1_9 => ?_) (fun hb1_9 => ?_)
     · try (exfalso; first | (simp at hb1_9; done) | (simp only [decide_eq_true_eq, decide_eq_false_iff_not, Bool.not_eq_true', Bool.not_eq_false', Bool.not_eq_true, Bool.not_eq_false] at hb1_9; omega) | omega)
       all_goals
        try simp only [decide_eq_true_eq, decide_eq_false_iff_not, Bool.not_eq_true', Bool.not_eq_false', Bool.not_eq_true, Bool.not_eq_false, Option.isNone_none, Option.isNone_some, Option.isSome_none, Option.isSome_some, ne_eq, Decidable.not_not] at hb1_9
        refine WL.skip rfl rfl rfl ?_
        refine WL.skip rfl rfl rfl ?_
        refine WL.skip rfl rfl rfl ?_
        refine WL.skip rfl rfl rfl ?_
        refine WL.val rfl rfl rfl rfl (r_pickT rfl (ev_t rfl) ev_c) ?_
        refine WL.nil ?_
        refine WX.keep [(0, _), (1, _), (2, _), (22, _)] ⟨rfl, rfl, rfl, rfl, trivial⟩ ?_
        refine WX.next ?_
        refine WC.cond_true rfl (ev_t rfl) ?_
        refine WC.seq ?_
        refine WC.region ?_
        refine WL.val rfl rfl rfl rfl (r_assign rfl ev_c) ?_
        refine WL.val rfl rfl rfl rfl (r_assign rfl ev_c) ?_
        refine WL.nil ?_
        refine WX.keep [(6, _), (7, _)] ⟨rfl, rfl, trivial⟩ ?_
        refine WX.next ?_
        refine WC.ret ?_
        refine WX.thenRet ?_
        refine WX.retE2 rfl rfl rfl ?_
        refine ⟨hU, fun h => ?_, fun _ => rfl⟩
        exfalso
        first
          | omega
     · try (exfalso; first | (simp at hb1_9; done) | (simp only [decide_eq_true_eq, decide_eq_false_iff_not, Bool.not_eq_true', Bool.not_eq_false', Bool.not_eq_true, Bool.not_eq_false] at hb1_9; omega) | omega)
       all_goals
        try simp only [decide_eq_true_eq, decide_eq_false_iff_not, Bool.not_eq_true', Bool.not_eq_false', Bool.not_eq_true, Bool.not_eq_false, Option.isNone_none, Option.isNone_some, Option.isSome_none, Option.isSome_some, ne_eq, Decidable.not_not] at hb1_9
        refine WL.val rfl rfl rfl rfl (r_move rfl (ev_t rfl)) ?_
        refine WL.val rfl rfl rfl rfl (r_move rfl (ev_t rfl)) ?_
        refine WL.cons (SO.call (kind_ok hH ha) rfl body_40 ⟨(ev_t rfl), (ev_t rfl), trivial⟩ rfl rfl rfl rfl ?_)
        rintro v w2 ⟨rfl, rfl⟩
        refine WL.val rfl rfl rfl rfl (r_eql rfl (ev_t rfl) ev_c) ?_
        refine WL.val rfl rfl rfl rfl (r_pickF rfl (ev_t rfl) (ev_t rfl)) ?_
        refine WL.nil ?_
        refine WX.keep [(0, _), (1, _), (2, _), (22, _)] ⟨rfl, rfl, rfl, rfl, trivial⟩ ?_
        refine WX.next ?_
        refine WC.cond rfl (ev_t rfl) (fun hc1 => ?_) (fun hc1 => ?_)
        · try (exfalso; first | (simp at hc1; done) | (simp only [decide_eq_true_eq, decide_eq_false_iff_not, Bool.not_eq_true', Bool.not_eq_false', Bool.not_eq_true, Bool.not_eq_false] at hc1; omega) | omega)
          all_goals
           try simp only [decide_eq_true_eq, decide_eq_false_iff_not, Bool.not_eq_true', Bool.not_eq_false', Bool.not_eq_true, Bool.not_eq_false, Option.isNone_none, Option.isNone_some, Option.isSome_none, Option.isSome_some, ne_eq, Decidable.not_not] at hc1
           refine WC.seq ?_
           refine WC.region ?_
           refine WL.val rfl rfl rfl rfl (r_assign rfl ev_c) ?_
           refine WL.val rfl rfl rfl rfl (r_assign rfl ev_c) ?_
           refine WL.nil ?_
           refine WX.keep [(6, _), (7, _)] ⟨rfl, rfl, trivial⟩ ?_
           refine WX.next ?_
           refine WC.ret ?_
           refine WX.thenRet ?_
           refine WX.retE2 rfl rfl rfl ?_
           refine ⟨hU, fun h => ?_, fun _ => rfl⟩
           exfalso
           first
             | omega
        · try (exfalso; first | (simp at hc1; done) | (simp only [decide_eq_true_eq, decide_eq_false_iff_not, Bool.not_eq_true', Bool.not_eq_false', Bool.not_eq_true, Bool.not_eq_false] at hc1; omega) | omega)
          all_goals
           try simp only [decide_eq_true_eq, decide_eq_false_iff_not, Bool.not_eq_true', Bool.not_eq_false', Bool.not_eq_true, Bool.not_eq_false, Option.isNone_none, Option.isNone_some, Option.isSome_none, Option.isSome_some, ne_eq, Decidable.not_not] at hc1
           have hik : i < x / 256 ∧ x % 256 ≠ 3 := by first
             | omega
             | (simp_all; omega)
           have hs3 : szO x = 1 + x / 256 := by unfold szO; rw [if_neg hik.2]
           refine WC.skip ?_
           refine WX.next ?_
           refine WC.seq ?_
           refine WC.draws' (fun u0_ u1_ => Upd No u0_ u1_) (fun j => [0, 0, 0, 0, 0, 0, 1, 0, 0, 0, 0, 2, 0, 0].getD j 0) (.calm 0 (.calm 1 (.calm 2 (.calm 4 (.calm 5 (.calm 8 (.held 3 (.one 6 (.calm 7 (.calm 9 (.calm 10 (.one 11 (.calm 12 (.calm 13 (.done))))))))))))))) mixed (by kernel_rfl) (by repeat (first | with_reducible exact Deaf.body | with_reducible apply Deaf.then)) ?_
           intro w3 hu3
           have hz3 := congrArg Array.size hu3.2.2.2
           replace hu3 := Upd.of_draw hu3
           have hs3 := hu3.size
           replace hU := hU.transA hu3
           replace hH := hH.upd hu3 (fun k hk hl hS => by first | exact (show False from hS).elim)
           replace hr := hr.upd hu3 (fun k hk hl hS => by first | exact (show False from hS).elim)
           have hS3 := Upd.refl No w3
           have hH0 := hH
           have hr0 := hr
           refine WN.calm _ rfl rfl rfl rfl rfl (fun _ => r_move rfl (ev_t rfl)) ?_
           refine WN.calm _ rfl rfl rfl rfl rfl (fun _ => r_nilCheck rfl (ev_t rfl)) ?_
           refine WN.calm _ rfl rfl rfl rfl rfl (fun _ => r_field0 rfl (ev_t rfl) fld_79_0) ?_
           refine WN.calm _ rfl rfl rfl rfl rfl (fun _ => r_move rfl (ev_t rfl)) ?_
           refine WN.calm _ rfl rfl rfl rfl rfl (fun _ => r_move rfl (ev_t rfl)) ?_
           refine WN.calm _ rfl rfl rfl rfl rfl (fun _ => r_move rfl (ev_t rfl)) ?_
           refine WN.held _ rfl rfl rfl rfl rfl hS3 (fun w' hS => r_load rfl (ev_t rfl) flat_30 (Blk.cell (hH0.upd hS (fun _ _ _ h => h)).hd rfl)) ?_
           refine WN.step _ rfl (SO.call (at_ok hH hal) rfl body_46 ⟨(ev_t rfl), (ev_t rfl), trivial⟩ rfl rfl rfl rfl ?_)
           rintro v w4 ⟨rfl, rfl⟩
           refine ⟨hS3, ?_⟩
           refine WN.calm _ rfl rfl rfl rfl rfl (fun _ => r_addN rfl (ev_t rfl) ev_c (by simp only [inK]; omega)) ?_
           refine WN.calm _ rfl rfl rfl rfl rfl (fun _ => r_addN rfl (ev_t rfl) (ev_t rfl) (by simp only [inK]; omega)) ?_
           refine WN.calm _ rfl rfl rfl rfl rfl (fun _ => r_indexAddr rfl (ev_t rfl) (ev_t rfl) elem_30 size_32 (by omega) (by omega)) ?_
           refine WN.step _ rfl (SO.val rfl rfl rfl rfl (r_load rfl (ev_t rfl) flat_32 (hr.cell (j := a + 1 + i) (u := Wd (mem.getD (a + 1 + i) 0)) (show off + ((a : Int) + 1 + (i : Int)).toNat * 1 = off + (a + 1 + i) by omega) (by rw [List.getElem?_map, getD_lt (l := mem) (i := a + 1 + i) (by omega)]; rfl))) ?_)
           refine ⟨trivial, ?_⟩
           refine WN.calm _ rfl rfl rfl rfl rfl (fun _ => r_assign rfl (ev_t rfl)) ?_
           refine WN.calm _ rfl rfl rfl rfl rfl (fun _ => r_assign rfl ev_c) ?_
           refine WN.done ?_
           refine WX.keep [(6, _), (7, _)] ⟨rfl, rfl, trivial⟩ ?_
           refine WX.next ?_
           refine WC.ret ?_
           refine WX.retE2 rfl rfl rfl ?_
           exact ⟨hU, fun _ => rfl, fun h => absurd hik h⟩
theorem setpart_ok {w : World} {G : Nat → Prop} {p : Nat} {A : Option Addr} {c : Nat} {mem : List Nat} {q n a x i z : Nat} (hH : HS w G p A c mem q n) (ha : mem[a]? = some x) (hx : x < 18446744073709551616) (hs : a + szO x ≤ mem.length) (hi : i ≤ 1000000000) :
    Ret Tryd.prog 35 #[.pointer (some ⟨p, 0, none⟩), .int .u64 ((2 * a : Nat) : Int), .int .i64 (i : Int), Wd z] w fun v w' => Upd G w w' ∧ (i < x / 256 ∧ x % 256 ≠ 3 → v = .int .i64 0 ∧ HS w' G p A c (mem.set (a + 1 + i) z) q n) ∧ (¬ (i < x / 256 ∧ x % 256 ≠ 3) → v = .int .i64 1 ∧ HS w' G p A c mem q n) := by
  have hle := hH.le
  have hal := (List.getElem?_eq_some_iff.1 ha).1
  obtain ⟨g, cap, cur, e0, _⟩ := hH.ow.open (by omega)
  injection e0 with e0
  subst e0
  refine enterRet (vs := [_, _, _, _]) (N := 36) Tryd.func35 rfl rfl rfl ?_
  have hU := Upd.refl G w
  refine WC.keep [(0, _), (1, _), (2, _), (3, _)] ⟨rfl, rfl, rfl, rfl, trivial⟩ ?_
  refine WC.seq ?_
  refine WC.region ?_
  refine WL.val rfl rfl rfl rfl (r_assign rfl ev_c) ?_
  refine WL.nil ?_
  refine WX.keep [(0, _), (1, _), (2, _), (3, _)] ⟨rfl, rfl, rfl, rfl, trivial⟩ ?_
  refine WX.next ?_
  refine WC.seq ?_
  refine WC.seq ?_
  refine WC.region ?_
  refine WL.val rfl rfl rfl rfl (r_move rfl (ev_t rfl)) ?_
  refine WL.val rfl rfl rfl rfl (r_lss rfl (ev_t rfl) ev_c) ?_
  refine WL.val rfl rfl rfl rfl (r_move rfl (ev_t rfl)) ?_
  refine WL.cases 11 rfl (fun hb1_2 => ?_) (fun hb1_2 => ?_)
  · try (exfalso; first | (simp at hb1_2; done) | (simp only [decide_eq_true_eq, decide_eq_false_iff_not, Bool.not_eq_true', Bool.not_eq_false', Bool.not_eq_true, Bool.not_eq_false] at hb1_2; omega) | omega)
  · try (exfalso; first | (simp at hb1_2; done) | (simp only [decide_eq_true_eq, decide_eq_false_iff_not, Bool.not_eq_true', Bool.not_eq_false', Bool.not_eq_true, Bool.not_eq_false] at hb1_2; omega) | omega)
    all_goals
     try simp only [decide_eq_true_eq, decide_eq_false_iff_not, Bool.not_eq_true', Bool.not_eq_false', Bool.not_eq_true, Bool.not_eq_false, Option.isNone_none, Option.isNone_some, Option.isSome_none, Option.isSome_some, ne_eq, Decidable.not_not] at hb1_2
     refine WL.val rfl rfl rfl rfl (r_move rfl (ev_t rfl)) ?_
     refine WL.val rfl rfl rfl rfl (r_move rfl (ev_t rfl)) ?_
     refine WL.val rfl rfl rfl rfl (r_move rfl (ev_t rfl)) ?_
     refine WL.cons (SO.call (len_ok hH ha hx) rfl body_16 ⟨(ev_t rfl), (ev_t rfl), trivial⟩ rfl rfl rfl rfl ?_)
     rintro v w1 ⟨rfl, rfl⟩
     refine WL.val rfl rfl rfl rfl (r_geq rfl (ev_t rfl) (ev_t rfl)) ?_
     refine WL.val rfl rfl rfl rfl (r_pickF rfl (ev_t rfl) (ev_t rfl)) ?_
     refine WL.val rfl rfl rfl rfl (r_move rfl (ev_t rfl)) ?_
     refine WL.cases 18 rfl (fun hb1_9 => ?_) (fun hb1_9 => ?_)
     · try (exfalso; first | (simp at hb1_9; done) | (simp only [decide_eq_true_eq, decide_eq_false_iff_not, Bool.not_eq_true', Bool.not_eq_false', Bool.not_eq_true, Bool.not_eq_false] at hb1_9; omega) | omega)
       all_goals
        try simp only [decide_eq_true_eq, decide_eq_false_iff_not, Bool.not_eq_true', Bool.not_eq_false', Bool.not_eq_true, Bool.not_eq_false, Option.isNone_none, Option.isNone_some, Option.isSome_none, Option.isSome_some, ne_eq, Decidable.not_not] at hb1_9
        refine WL.skip rfl rfl rfl ?_
        refine WL.skip rfl rfl rfl ?_
        refine WL.skip rfl rfl rfl ?_
        refine WL.skip rfl rfl rfl ?_
        refine WL.val rfl rfl rfl rfl (r_pickT rfl (ev_t rfl) ev_c) ?_
        refine WL.nil ?_
        refine WX.keep [(0, _), (1, _), (2, _), (3, _), (23, _)] ⟨rfl, rfl, rfl, rfl, rfl, trivial⟩ ?_
        refine WX.next ?_
        refine WC.cond_true rfl (ev_t rfl) ?_
        refine WC.seq ?_
        refine WC.region ?_
        refine WL.val rfl rfl rfl rfl (r_assign rfl ev_c) ?_
        refine WL.nil ?_
        refine WX.keep [(8, _)] ⟨rfl, trivial⟩ ?_
        refine WX.next ?_
        refine WC.ret ?_
        refine WX.thenRet ?_
        refine WX.retE1 rfl rfl ?_
        refine ⟨hU, fun h => ?_, fun _ => ⟨rfl, hH⟩⟩
        exfalso
        first
          | omega
     · try (exfalso; first | (simp at hb1_9; done) | (simp only [decide_eq_true_eq, decide_eq_false_iff_not, Bool.not_eq_true', Bool.not_eq_false', Bool.not_eq_true, Bool.not_eq_false] at hb1_9; omega) | omega)
       all_goals
        try simp only [decide_eq_true_eq, decide_eq_false_iff_not, Bool.not_eq_true', Bool.not_eq_false', Bool.not_eq_true, Bool.not_eq_false, Option.isNone_none, Option.isNone_some, Option.isSome_none, Option.isSome_some, ne_eq, Decidable.not_not] at hb1_9
        refine WL.val rfl rfl rfl rfl (r_move rfl (ev_t rfl)) ?_
        refine WL.val rfl rfl rfl rfl (r_move rfl (ev_t rfl)) ?_
        refine WL.cons (SO.call (kind_ok hH ha) rfl body_40 ⟨(ev_t rfl), (ev_t rfl), trivial⟩ rfl rfl rfl rfl ?_)
        rintro v w2 ⟨rfl, rfl⟩
        refine WL.val rfl rfl rfl rfl (r_eql rfl (ev_t rfl) ev_c) ?_
        refine WL.val rfl rfl rfl rfl (r_pickF rfl (ev_t rfl) (ev_t rfl)) ?_
        refine WL.nil ?_
        refine WX.keep [(0, _), (1, _), (2, _), (3, _), (23, _)] ⟨rfl, rfl, rfl, rfl, rfl, trivial⟩ ?_
        refine WX.next ?_
        refine WC.cond rfl (ev_t rfl) (fun hc1 => ?_) (fun hc1 => ?_)
        · try (exfalso; first | (simp at hc1; done) | (simp only [decide_eq_true_eq, decide_eq_false_iff_not, Bool.not_eq_true', Bool.not_eq_false', Bool.not_eq_true, Bool.not_eq_false] at hc1; omega) | omega)
          all_goals
           try simp only [decide_eq_true_eq, decide_eq_false_iff_not, Bool.not_eq_true', Bool.not_eq_false', Bool.not_eq_true, Bool.not_eq_false, Option.isNone_none, Option.isNone_some, Option.isSome_none, Option.isSome_some, ne_eq, Decidable.not_not] at hc1
           refine WC.seq ?_
           refine WC.region ?_
           refine WL.val rfl rfl rfl rfl (r_assign rfl ev_c) ?_
           refine WL.nil ?_
           refine WX.keep [(8, _)] ⟨rfl, trivial⟩ ?_
           refine WX.next ?_
           refine WC.ret ?_
           refine WX.thenRet ?_
           refine WX.retE1 rfl rfl ?_
           refine ⟨hU, fun h => ?_, fun _ => ⟨rfl, hH⟩⟩
           exfalso
           first
             | omega
        · try (exfalso; first | (simp at hc1; done) | (simp only [decide_eq_true_eq, decide_eq_false_iff_not, Bool.not_eq_true', Bool.not_eq_false', Bool.not_eq_true, Bool.not_eq_false] at hc1; omega) | omega)
          all_goals
           try simp only [decide_eq_true_eq, decide_eq_false_iff_not, Bool.not_eq_true', Bool.not_eq_false', Bool.not_eq_true, Bool.not_eq_false, Option.isNone_none, Option.isNone_some, Option.isSome_none, Option.isSome_some, ne_eq, Decidable.not_not] at hc1
           have hik : i < x / 256 ∧ x % 256 ≠ 3 := by first
             | omega
             | (simp_all; omega)
           have hs3 : szO x = 1 + x / 256 := by unfold szO; rw [if_neg hik.2]
           refine WC.skip ?_
           refine WX.next ?_
           refine WC.seq ?_
           refine WC.draws' (fun u0_ u1_ => Upd G u0_ u1_) (fun j => [0, 0, 0, 0, 0, 0, 1, 0, 0, 0, 0, 0, 2].getD j 0) (.calm 0 (.calm 1 (.calm 2 (.calm 4 (.calm 5 (.calm 8 (.calm 10 (.held 3 (.one 6 (.calm 7 (.calm 9 (.calm 11 (.one 12 (.done)))))))))))))) mixed (by kernel_rfl) (by repeat (first | with_reducible exact Deaf.body | with_reducible apply Deaf.then)) ?_
           intro w3 hu3
           have hz3 := congrArg Array.size hu3.2.2.2
           replace hu3 := Upd.of_draw hu3
           have hs3 := hu3.size
           replace hU := hU.trans hu3 (by exact (fun _ _ h => h.elim))
           replace hH := hH.upd hu3 (fun k hk hl hS => by first | exact (show False from hS).elim)
           have hS3 := Upd.refl G w3
           have hH0 := hH
           refine WN.calm _ rfl rfl rfl rfl rfl (fun _ => r_move rfl (ev_t rfl)) ?_
           refine WN.calm _ rfl rfl rfl rfl rfl (fun _ => r_nilCheck rfl (ev_t rfl)) ?_
           refine WN.calm _ rfl rfl rfl rfl rfl (fun _ => r_field0 rfl (ev_t rfl) fld_79_0) ?_
           refine WN.calm _ rfl rfl rfl rfl rfl (fun _ => r_move rfl (ev_t rfl)) ?_
           refine WN.calm _ rfl rfl rfl rfl rfl (fun _ => r_move rfl (ev_t rfl)) ?_
           refine WN.calm _ rfl rfl rfl rfl rfl (fun _ => r_move rfl (ev_t rfl)) ?_
           refine WN.calm _ rfl rfl rfl rfl rfl (fun _ => r_move rfl (ev_t rfl)) ?_
           refine WN.held _ rfl rfl rfl rfl rfl hS3 (fun w' hS => r_load rfl (ev_t rfl) flat_30 (Blk.cell (hH0.hd.upd hS (fun h => hH0.ne h)) rfl)) ?_
           refine WN.step _ rfl (SO.call (at_ok hH hal) rfl body_46 ⟨(ev_t rfl), (ev_t rfl), trivial⟩ rfl rfl rfl rfl ?_)
           rintro v w4 ⟨rfl, rfl⟩
           refine ⟨hS3, ?_⟩
           refine WN.calm _ rfl rfl rfl rfl rfl (fun _ => r_addN rfl (ev_t rfl) ev_c (by simp only [inK]; omega)) ?_
           refine WN.calm _ rfl rfl rfl rfl rfl (fun _ => r_addN rfl (ev_t rfl) (ev_t rfl) (by simp only [inK]; omega)) ?_
           have hgx := hH
           refine WN.calm _ rfl rfl rfl rfl rfl (fun _ => r_indexAddr rfl (ev_t rfl) (ev_t rfl) elem_30 size_32 (by omega) (by omega)) ?_
           rw [show 0 + ((a : Int) + 1 + (i : Int)).toNat * 1 = a + 1 + i by omega]
           obtain ⟨hhd, how, hne, hlt, hle2, hcn⟩ := hH
           refine WN.step _ rfl (SO.ownSet1 (i := a + 1 + i) (z := z) how rfl (by omega) rfl rfl (ev_t rfl) (ev_t rfl) size_32 rfl rfl rfl ?_)
           intro w5 hu5 how2 hz3
           have hs5 := hu5.size
           try replace hS3 := Upd.trans hS3 hu5 (by intro k hl hk; exact hk)
           replace hU := hU.trans hu5 (by exact (fun _ _ h => h))
           replace hhd := hhd.upd hu5 (fun hS => by exact hne hS)
           refine ⟨trivial, ?_⟩
           refine WN.done ?_
           refine WX.keep [] trivial ?_
           refine WX.next ?_
           refine WC.seq ?_
           refine WC.region ?_
           refine WL.val rfl rfl rfl rfl (r_assign rfl ev_c) ?_
           refine WL.nil ?_
           refine WX.keep [(8, _)] ⟨rfl, trivial⟩ ?_
           refine WX.next ?_
           refine WC.ret ?_
           refine WX.retE1 rfl rfl ?_
           refine ⟨hU, fun _ => ⟨rfl, ⟨by rw [List.length_set]; exact hhd, by rw [List.length_set]; exact how2, hne, fun k hk => by have := hlt k hk; omega, by rw [List.length_set]; exact hle2, hcn⟩⟩, fun h => absurd hik h⟩
theorem lpart_ok {w : World} {F : Nat → Prop} {v : Value} {ys : List Nat} {n : Int} (hr : Rd w F v ys.length 1 (ys.map Wd)) (hn : -9223372036854775808 ≤ n ∧ n ≤ 9223372036854775807) (hl : ys.length ≤ 1000000) (hy : ∀ y ∈ ys, y < 18446744073709551616) :
    Ret Tryd.prog 30 #[.int .i64 n, v] w fun v' w' => Upd No w w' ∧ ∃ z, v' = Wd z ∧ z < 18446744073709551616 ∧ (z % 2 = 1 ∨ z ∈ ys) := by
  obtain ⟨A, c, rfl, hc⟩ := hr.slice_form
  refine enterRet (vs := [_, _]) (N := 26) Tryd.func30 rfl rfl rfl ?_
  have hU := Upd.refl No w
  refine WC.keep [(0, _), (1, _)] ⟨rfl, rfl, trivial⟩ ?_
  refine WC.seq ?_
  refine WC.region ?_
  refine WL.val rfl rfl rfl rfl (r_assign rfl ev_c) ?_
  refine WL.nil ?_
  refine WX.keep [(0, _), (1, _)] ⟨rfl, rfl, trivial⟩ ?_
  refine WX.next ?_
  refine WC.seq ?_
  refine WC.seq ?_
  refine WC.region ?_
  refine WL.val rfl rfl rfl rfl (r_move rfl (ev_t rfl)) ?_
  refine WL.val rfl rfl rfl rfl (r_rem rfl (ev_t rfl) ev_c (by omega)) ?_
  refine WL.val rfl rfl rfl rfl (r_eql rfl (ev_t rfl) ev_c) ?_
  refine WL.val rfl rfl rfl rfl (r_move rfl (ev_t rfl)) ?_
  refine WL.cases 8 rfl (fun hb1_3 => ?_) (fun hb1_3 => ?_)
  · try (exfalso; first | (simp at hb1_3; done) | (simp only [decide_eq_true_eq, decide_eq_false_iff_not, Bool.not_eq_true', Bool.not_eq_false', Bool.not_eq_true, Bool.not_eq_false] at hb1_3; omega) | omega)
    all_goals
     try simp only [decide_eq_true_eq, decide_eq_false_iff_not, Bool.not_eq_true', Bool.not_eq_false', Bool.not_eq_true, Bool.not_eq_false, Option.isNone_none, Option.isNone_some, Option.isSome_none, Option.isSome_some, ne_eq, Decidable.not_not] at hb1_3
     refine WL.val rfl rfl rfl rfl (r_move rfl (ev_t rfl)) ?_
     refine WL.val rfl rfl rfl rfl (r_lenSlice (ts := #[]) rfl (ev_t rfl) elem_30) ?_
     refine WL.val rfl rfl rfl rfl (r_gtr rfl (ev_t rfl) ev_c) ?_
     refine WL.val rfl rfl rfl rfl (r_pickT rfl (ev_t rfl) (ev_t rfl)) ?_
     refine WL.nil ?_
     refine WX.keep [(0, _), (1, _), (12, _)] ⟨rfl, rfl, rfl, trivial⟩ ?_
     refine WX.next ?_
     refine WC.cond rfl (ev_t rfl) (fun hc1 => ?_) (fun hc1 => ?_)
     · try (exfalso; first | (simp at hc1; done) | (simp only [decide_eq_true_eq, decide_eq_false_iff_not, Bool.not_eq_true', Bool.not_eq_false', Bool.not_eq_true, Bool.not_eq_false] at hc1; omega) | omega)
       all_goals
        try simp only [decide_eq_true_eq, decide_eq_false_iff_not, Bool.not_eq_true', Bool.not_eq_false', Bool.not_eq_true, Bool.not_eq_false, Option.isNone_none, Option.isNone_some, Option.isSome_none, Option.isSome_some, ne_eq, Decidable.not_not] at hc1
        have hlp : 0 < ys.length := by first
          | omega
          | (simp_all; omega)
        obtain ⟨b0, off, rfl, _⟩ := hr.open (by omega)
        refine WC.seq ?_
        refine WC.region ?_
        refine WL.val rfl rfl rfl rfl (r_move rfl (ev_t rfl)) ?_
        refine WL.val rfl rfl rfl rfl (r_move rfl (ev_t rfl)) ?_
        refine WL.val rfl rfl rfl rfl (r_quo rfl (ev_t rfl) ev_c (by omega)) ?_
        refine WL.val rfl rfl rfl rfl (r_conv rfl (ev_t rfl) some_2 int_31) ?_
        refine WL.val rfl rfl rfl rfl (r_move rfl (ev_t rfl)) ?_
        refine WL.val rfl rfl rfl rfl (r_lenSlice (ts := #[]) rfl (ev_t rfl) elem_30) ?_
        refine WL.val rfl rfl rfl rfl (r_convN rfl (ev_t rfl) some_3 int_31 (by simp only [inK]; omega)) ?_
        obtain ⟨m, hm⟩ : ∃ m : Nat, IntKind.u64.wrap (IntKind.i64.wrap (n.tdiv 2)) = (m : Int) := ⟨(IntKind.u64.wrap (IntKind.i64.wrap (n.tdiv 2))).toNat, by rw [wrap_u64]; omega⟩
        rw [hm]
        have hml : m % ys.length < ys.length := Nat.mod_lt _ hlp
        refine WL.val rfl rfl rfl rfl (r_remN rfl (ev_t rfl) (ev_t rfl) (by omega) (by omega)) ?_
        try rw [show (m : Int).tmod (ys.length : Int) = ((m % ys.length : Nat) : Int) from rfl]
        try rw [show (m : Int) % (ys.length : Int) = ((m % ys.length : Nat) : Int) from rfl]
        refine WL.val rfl rfl rfl rfl (r_convN rfl (ev_t rfl) some_31 int_3 (by simp only [inK]; omega)) ?_
        refine WL.val rfl rfl rfl rfl (r_indexAddr rfl (ev_t rfl) (ev_t rfl) elem_30 size_32 (by omega) (by omega)) ?_
        refine WL.val rfl rfl rfl rfl (r_load rfl (ev_t rfl) flat_32 (hr.cell (j := m % ys.length) (u := Wd ys[m % ys.length]) (show off + ((m % ys.length : Nat) : Int).toNat * 1 = off + m % ys.length by omega) (by rw [List.getElem?_map, List.getElem?_eq_getElem hml]; rfl))) ?_
        refine WL.val rfl rfl rfl rfl (r_assign rfl (ev_t rfl)) ?_
        refine WL.nil ?_
        refine WX.keep [(4, _)] ⟨rfl, trivial⟩ ?_
        refine WX.next ?_
        refine WC.ret ?_
        refine WX.thenRet ?_
        refine WX.retE1 rfl rfl ?_
        exact ⟨hU, _, rfl, hy _ (List.getElem_mem hml), .inr (List.getElem_mem hml)⟩
     · try (exfalso; first | (simp at hc1; done) | (simp only [decide_eq_true_eq, decide_eq_false_iff_not, Bool.not_eq_true', Bool.not_eq_false', Bool.not_eq_true, Bool.not_eq_false] at hc1; omega) | omega)
       all_goals
        try simp only [decide_eq_true_eq, decide_eq_false_iff_not, Bool.not_eq_true', Bool.not_eq_false', Bool.not_eq_true, Bool.not_eq_false, Option.isNone_none, Option.isNone_some, Option.isSome_none, Option.isSome_some, ne_eq, Decidable.not_not] at hc1
        refine WC.skip ?_
        refine WX.next ?_
        refine WC.seq ?_
        refine WC.region ?_
        refine WL.val rfl rfl rfl rfl (r_move rfl (ev_t rfl)) ?_
        refine WL.cons (SO.call (num_ok) rfl body_17 ⟨(ev_t rfl), trivial⟩ rfl rfl rfl rfl ?_)
        rintro v w1 ⟨rfl, rfl⟩
        refine WL.val rfl rfl rfl rfl (r_assign rfl (ev_t rfl)) ?_
        refine WL.nil ?_
        refine WX.keep [(4, _)] ⟨rfl, trivial⟩ ?_
        refine WX.next ?_
        refine WC.ret ?_
        refine WX.retE1 rfl rfl ?_
        exact ⟨hU, _, rfl, numW_lt _, .inl (numW_odd _)⟩
  · try (exfalso; first | (simp at hb1_3; done) | (simp only [decide_eq_true_eq, decide_eq_false_iff_not, Bool.not_eq_true', Bool.not_eq_false', Bool.not_eq_true, Bool.not_eq_false] at hb1_3; omega) | omega)
    all_goals
     try simp only [decide_eq_true_eq, decide_eq_false_iff_not, Bool.not_eq_true', Bool.not_eq_false', Bool.not_eq_true, Bool.not_eq_false, Option.isNone_none, Option.isNone_some, Option.isSome_none, Option.isSome_some, ne_eq, Decidable.not_not] at hb1_3
     refine WL.skip rfl rfl rfl ?_
     refine WL.skip rfl rfl rfl ?_
     refine WL.skip rfl rfl rfl ?_
     refine WL.val rfl rfl rfl rfl (r_pickF rfl (ev_t rfl) ev_c) ?_
     refine WL.nil ?_
     refine WX.keep [(0, _), (1, _), (12, _)] ⟨rfl, rfl, rfl, trivial⟩ ?_
     refine WX.next ?_
     refine WC.cond_false rfl (ev_t rfl) ?_
     refine WC.skip ?_
     refine WX.next ?_
     refine WC.seq ?_
     refine WC.region ?_
     refine WL.val rfl rfl rfl rfl (r_move rfl (ev_t rfl)) ?_
     refine WL.cons (SO.call (num_ok) rfl body_17 ⟨(ev_t rfl), trivial⟩ rfl rfl rfl rfl ?_)
     rintro v w2 ⟨rfl, rfl⟩
     refine WL.val rfl rfl rfl rfl (r_assign rfl (ev_t rfl)) ?_
     refine WL.nil ?_
     refine WX.keep [(4, _)] ⟨rfl, trivial⟩ ?_
     refine WX.next ?_
     refine WC.ret ?_
     refine WX.retE1 rfl rfl ?_
     exact ⟨hU, _, rfl, numW_lt _, .inl (numW_odd _)⟩
end Go.Proofs.YtdpnnclkkbfihaaDoor

/-
  HeapPlays: looks.
-/
namespace Go.Proofs.YtdpnnclkkbfihaaDoor
open Go
set_option linter.unusedSimpArgs false
set_option linter.unusedVariables false

/-- texts are as PutText writes them -/
def TxI (mem st : List Nat) : Prop := ∀ a ∈ st, mem.getD a 0 % 256 = 3 → ∃ s, TextAt mem a s
theorem TextAt.bytes {mem : List Nat} {a : Nat} {s : List UInt8} (h : TextAt mem a s) : textB mem a = s := by
  have hk : mem.getD a 0 = s.length * 256 + 3 := getD_of h.1
  have hl : (textB mem a).length = s.length := by rw [textB_len (by rw [hk]; omega), hk]; omega
  apply List.ext_getElem?
  intro i
  rcases Nat.lt_or_ge i s.length with hi | hi
  · have h1 := textB_get (l := mem) (a := a) (i := i / 8) (j := i % 8) (by rw [hk]; omega) (Nat.mod_lt _ (by decide)) (by rw [hk]; omega)
    rw [show 8 * (i / 8) + i % 8 = i by omega] at h1
    obtain ⟨x, h2, h3, h4⟩ := encT_byte (List.getElem?_eq_getElem hi)
    rw [getD_of (h.2 _ _ h2), h3] at h1
    rw [h1, List.getElem?_eq_getElem hi]
    congr 1
    exact UInt8.ofNat_toNat
  · rw [List.getElem?_eq_none (by omega), List.getElem?_eq_none hi]
theorem textNK_ok {w : World} {G : Nat → Prop} {p : Nat} {A : Option Addr} {c : Nat} {mem : List Nat} {q n a x : Nat} (hH : HS w G p A c mem q n) (ha : mem[a]? = some x) (hk : x % 256 ≠ 3) :
    Ret Tryd.prog 15 #[.pointer (some ⟨p, 0, none⟩), .int .u64 ((2 * a : Nat) : Int)] w fun v w' => v = .string ⟨#[]⟩ ∧ Upd No w w' := by
  refine enterRet (vs := [_, _]) (N := 38) Tryd.func15 rfl rfl rfl ?_
  have hU := Upd.refl No w
  refine WC.keep [(0, _), (1, _)] ⟨rfl, rfl, trivial⟩ ?_
  refine WC.seq ?_
  refine WC.region ?_
  refine WL.val rfl rfl rfl rfl (r_assign rfl ev_c) ?_
  refine WL.nil ?_
  refine WX.keep [(0, _), (1, _)] ⟨rfl, rfl, trivial⟩ ?_
  refine WX.next ?_
  refine WC.seq ?_
  refine WC.seq ?_
  refine WC.region ?_
  refine WL.val rfl rfl rfl rfl (r_move rfl (ev_t rfl)) ?_
  refine WL.val rfl rfl rfl rfl (r_move rfl (ev_t rfl)) ?_
  refine WL.cons (SO.call (kind_ok hH ha) rfl body_40 ⟨(ev_t rfl), (ev_t rfl), trivial⟩ rfl rfl rfl rfl ?_)
  rintro v w1 ⟨rfl, rfl⟩
  refine WL.val rfl rfl rfl rfl (r_neq rfl (ev_t rfl) ev_c) ?_
  refine WL.nil ?_
  refine WX.keep [(0, _), (1, _), (10, _)] ⟨rfl, rfl, rfl, trivial⟩ ?_
  refine WX.next ?_
  refine WC.cond rfl (ev_t rfl) (fun hc1 => ?_) (fun hc1 => ?_)
  · try (exfalso; first | (simp at hc1; done) | (simp only [decide_eq_true_eq, decide_eq_false_iff_not, Bool.not_eq_true', Bool.not_eq_false', Bool.not_eq_true, Bool.not_eq_false] at hc1; omega) | omega)
    all_goals
     try simp only [decide_eq_true_eq, decide_eq_false_iff_not, Bool.not_eq_true', Bool.not_eq_false', Bool.not_eq_true, Bool.not_eq_false, Option.isNone_none, Option.isNone_some, Option.isSome_none, Option.isSome_some, ne_eq, Decidable.not_not] at hc1
     refine WC.seq ?_
     refine WC.region ?_
     refine WL.val rfl rfl rfl rfl (r_assign rfl ev_c) ?_
     refine WL.nil ?_
     refine WX.keep [(4, _)] ⟨rfl, trivial⟩ ?_
     refine WX.next ?_
     refine WC.ret ?_
     refine WX.thenRet ?_
     refine WX.retE1 rfl rfl ?_
     exact ⟨rfl, hU⟩
  · try simp only [decide_eq_true_eq, decide_eq_false_iff_not, Bool.not_eq_true', Bool.not_eq_false', Bool.not_eq_true, Bool.not_eq_false, Option.isNone_none, Option.isNone_some, Option.isSome_none, Option.isSome_some, ne_eq, Decidable.not_not] at hc1
    exfalso
    omega
theorem textA_ok {w : World} {G : Nat → Prop} {p : Nat} {A : Option Addr} {c : Nat} {mem st : List Nat} {q n a : Nat} (hH : HS w G p A c mem q n) (hg : GoodH mem st) (ht : TxI mem st) (ha : a ∈ st) (hm : mem.length ≤ 1000) :
    Ret Tryd.prog 15 #[.pointer (some ⟨p, 0, none⟩), .int .u64 ((2 * a : Nat) : Int)] w fun v w' => v = .string ⟨(textB mem a).toArray⟩ ∧ Upd No w w' := by
  have hgx := getD_lt (hg.vd.in ha).1
  by_cases hk : mem.getD a 0 % 256 = 3
  · obtain ⟨s, hs⟩ := ht a ha hk
    have h1 := szText hs.1
    have h2 := (hg.vd.in ha).2
    rw [hs.bytes]
    exact text_ok hH hs (by omega)
  · have e : textB mem a = [] := if_neg hk
    rw [e]
    exact textNK_ok hH hgx hk
set_option maxHeartbeats 4000000 in
theorem looks_ok {w : World} {G F R : Nat → Prop} {p : Nat} {A : Option Addr} {c : Nat} {mem st ys : List Nat} {q n : Nat} {vm vr : Value} (hH : HS w G p A c mem q n) (hg : GoodH mem st) (ht : TxI mem st) (hm : mem.length ≤ 1000)
    (hr : Rd w F vm mem.length 1 (mem.map Wd)) (hF : ∀ k, F k → k < w.heap.size) (hR : Rd w R vr ys.length 1 (ys.map Wd)) (hRl : ∀ k, R k → k < w.heap.size) (hyl : ys.length ≤ 1000) (hy : ∀ y ∈ ys, y % 2 = 0 ∧ y / 2 ∈ st) :
    Ret Tryd.prog 37 #[.pointer (some ⟨p, 0, none⟩), vm, vr] w fun v w' => v = .bool true ∧ Upd No w w' := by
  have hw := hg.vd.w64
  have hlG := hH.lt
  have hlp := hH.hd.lt
  obtain ⟨A1, c1, rfl, hc1z⟩ := hr.slice_form
  obtain ⟨A2, c2, rfl, hc2z⟩ := hR.slice_form
  generalize hB : w.heap.size = B at *
  refine enterRet (vs := [_, _, _]) (N := 103) Tryd.func37 rfl rfl rfl ?_
  have hU := Upd.refl No w
  refine WC.keep [(0, _), (1, _), (2, _)] ⟨rfl, rfl, rfl, trivial⟩ ?_
  refine WC.seq ?_
  refine WC.region ?_
  refine WL.val rfl rfl rfl rfl (r_assign rfl ev_c) ?_
  refine WL.nil ?_
  refine WX.keep [(0, _), (1, _), (2, _)] ⟨rfl, rfl, rfl, trivial⟩ ?_
  refine WX.next ?_
  refine WC.seq ?_
  refine WC.seq ?_
  refine WC.region ?_
  refine WL.val rfl rfl rfl rfl (r_assign rfl ev_c) ?_
  refine WL.nil ?_
  refine WX.keep [(0, _), (1, _), (2, _), (7, _)] ⟨rfl, rfl, rfl, rfl, trivial⟩ ?_
  refine WX.next ?_
  refine WC.block ?_
  -- loop 1: live [0, 1, 2, 7]
  refine WC.keep [(0, _), (1, _), (2, _), (7, _)] ⟨rfl, rfl, rfl, rfl, trivial⟩ ?_
  refine WC.loop (fun qq E wC => ∃ (i : Nat), i ≤ ys.length ∧ qq = ys.length - i ∧ Upd No w wC ∧ HS wC G p A c mem q n ∧ Rd wC F (.slice A1 mem.length c1) mem.length 1 (mem.map Wd) ∧ Rd wC R (.slice A2 ys.length c2) ys.length 1 (ys.map Wd) ∧ E = [(0, .pointer (some ⟨p, 0, none⟩)), (1, .slice A1 mem.length c1), (2, .slice A2 ys.length c2), (7, .int .i64 (i : Int))]) (ys.length) ?_ ?_
  · exact ⟨0, by omega, by omega, hU, hH, hr, hR, rfl⟩
  · clear hU hH hr hR
    rintro qq E wC ⟨i, hi, rfl, hU, hH, hr, hR, rfl⟩
    have hUs := hU.size
    refine WC.seq ?_
    refine WC.seq ?_
    refine WC.region ?_
    refine WL.val rfl rfl rfl rfl (r_move rfl (ev_t rfl)) ?_
    refine WL.val rfl rfl rfl rfl (r_move rfl (ev_t rfl)) ?_
    refine WL.val rfl rfl rfl rfl (r_lenSlice (ts := #[]) rfl (ev_t rfl) elem_30) ?_
    refine WL.val rfl rfl rfl rfl (r_lss rfl (ev_t rfl) (ev_t rfl)) ?_
    refine WL.nil ?_
    refine WX.keep [(0, _), (1, _), (2, _), (7, _), (20, _)] ⟨rfl, rfl, rfl, rfl, rfl, trivial⟩ ?_
    refine WX.next ?_
    refine WC.cond rfl (ev_t rfl) (fun hc2 => ?_) (fun hc2 => ?_)
    · try (exfalso; first | (simp at hc2; done) | (simp only [decide_eq_true_eq, decide_eq_false_iff_not, Bool.not_eq_true', Bool.not_eq_false', Bool.not_eq_true, Bool.not_eq_false] at hc2; omega) | omega)
      all_goals
       try simp only [decide_eq_true_eq, decide_eq_false_iff_not, Bool.not_eq_true', Bool.not_eq_false', Bool.not_eq_true, Bool.not_eq_false, Option.isNone_none, Option.isNone_some, Option.isSome_none, Option.isSome_some, ne_eq, Decidable.not_not] at hc2
       have hil : i < ys.length := by omega
       obtain ⟨b2, off2, rfl, _⟩ := hR.open (by omega)
       obtain ⟨y, hyi⟩ : ∃ y, ys[i]? = some y := ⟨_, List.getElem?_eq_getElem hil⟩
       obtain ⟨hye, hys⟩ := hy y (List.mem_of_getElem? hyi)
       obtain ⟨a, ha⟩ : ∃ a, y = 2 * a := ⟨y / 2, by omega⟩
       subst ha
       rw [Nat.mul_div_cancel_left _ (by decide)] at hys
       obtain ⟨hal, hafit⟩ := hg.vd.in hys
       obtain ⟨hk1, hk2⟩ := hg.kd a hys
       have hn8 := hg.n8 hys
       have hval : validAt mem a := ⟨hal, hk1, hk2, hn8, hafit⟩
       have hgx := getD_lt hal
       have hx64 := hw _ (List.mem_of_getElem? hgx)
       refine WC.skip ?_
       refine WX.next ?_
       refine WC.seq ?_
       refine WC.block ?_
       refine WC.seq ?_
       refine WC.region ?_
       refine WL.val rfl rfl rfl rfl (r_move rfl (ev_t rfl)) ?_
       refine WL.val rfl rfl rfl rfl (r_move rfl (ev_t rfl)) ?_
       refine WL.val rfl rfl rfl rfl (r_indexAddr rfl (ev_t rfl) (ev_t rfl) elem_30 size_32 (by omega) (by omega)) ?_
       refine WL.val rfl rfl rfl rfl (r_load rfl (ev_t rfl) flat_32 (hR.cell (j := i) (u := Wd (2 * a)) (show off2 + (i : Int).toNat * 1 = off2 + i by omega) (by rw [List.getElem?_map, hyi]; rfl))) ?_
       refine WL.val rfl rfl rfl rfl (r_assign rfl (ev_t rfl)) ?_
       refine WL.nil ?_
       refine WX.keep [(0, _), (1, _), (2, _), (7, _), (8, _)] ⟨rfl, rfl, rfl, rfl, rfl, trivial⟩ ?_
       refine WX.next ?_
       refine WC.seq ?_
       refine WC.seq ?_
       refine WC.region ?_
       refine WL.val rfl rfl rfl rfl (r_move rfl (ev_t rfl)) ?_
       refine WL.cons (SO.call (isNum_ok (x := 2 * a) (by omega)) rfl body_19 ⟨(ev_t rfl), trivial⟩ rfl rfl rfl rfl ?_)
       rintro v w1 ⟨rfl, rfl⟩
       refine WL.nil ?_
       refine WX.keep [(0, _), (1, _), (2, _), (7, _), (8, _), (28, _)] ⟨rfl, rfl, rfl, rfl, rfl, rfl, trivial⟩ ?_
       refine WX.next ?_
       refine WC.cond rfl (ev_t rfl) (fun hc5 => ?_) (fun hc5 => ?_)
       · try simp only [decide_eq_true_eq, decide_eq_false_iff_not, Bool.not_eq_true', Bool.not_eq_false', Bool.not_eq_true, Bool.not_eq_false, Option.isNone_none, Option.isNone_some, Option.isSome_none, Option.isSome_some, ne_eq, Decidable.not_not] at hc5
         exfalso
         (simp at hc5)
       · try (exfalso; first | (simp at hc5; done) | (simp only [decide_eq_true_eq, decide_eq_false_iff_not, Bool.not_eq_true', Bool.not_eq_false', Bool.not_eq_true, Bool.not_eq_false] at hc5; omega) | omega)
         all_goals
          try simp only [decide_eq_true_eq, decide_eq_false_iff_not, Bool.not_eq_true', Bool.not_eq_false', Bool.not_eq_true, Bool.not_eq_false, Option.isNone_none, Option.isNone_some, Option.isSome_none, Option.isSome_some, ne_eq, Decidable.not_not] at hc5
          refine WC.skip ?_
          refine WX.next ?_
          refine WC.seq ?_
          refine WC.region ?_
          refine WL.val rfl rfl rfl rfl (r_move rfl (ev_t rfl)) ?_
          refine WL.val rfl rfl rfl rfl (r_move rfl (ev_t rfl)) ?_
          refine WL.val rfl rfl rfl rfl (r_shr rfl (ev_t rfl) ev_c (by omega) (by simp only [IntKind.bits]; omega)) ?_
          refine WL.val rfl rfl rfl rfl (r_conv rfl (ev_t rfl) some_32 int_3) ?_
          rw [show IntKind.i64.wrap (((2 * a : Nat) : Int) / 2 ^ Int.toNat 1) = (a : Int) by rw [half_i64 (by omega)]; omega]
          refine WL.cons (SO.call (at9_ok hr (by omega) (by omega) (fun k hk => by have := hF k hk; have := hU.size; omega) hw) rfl body_28 ⟨(ev_t rfl), (ev_t rfl), trivial⟩ rfl rfl rfl rfl ?_)
          rintro v w2 ⟨kd, n9, vP, ps, s9, rfl, hP, hu2, hres⟩
          obtain ⟨AP, cP, rfl, _⟩ := hP.form
          have hs2 := hu2.size
          replace hU := hU.trans hu2 (by exact (fun _ _ h => h))
          replace hH := hH.upd hu2 (fun k hk hl hS => by exact (show False from hS).elim)
          replace hr := hr.upd hu2 (fun k hk hl hS => by exact (show False from hS).elim)
          replace hR := hR.upd hu2 (fun k hk hl hS => by exact (show False from hS).elim)
          have hv9 : kd = mem.getD a 0 % 256 ∧ ps = parts mem a ∧ s9 = textB mem a := by
            rcases hres with ⟨h, _⟩ | ⟨h1, _, h2, h3, h4⟩
            · exact absurd hval h
            · exact ⟨h2, h3, h4⟩
          obtain ⟨rfl, rfl, rfl⟩ := hv9
          refine WL.val rfl rfl rfl rfl (r_move rfl (ev_t rfl)) ?_
          refine WL.val rfl rfl rfl rfl (r_extract rfl (ev_t rfl) rfl) ?_
          refine WL.val rfl rfl rfl rfl (r_extract rfl (ev_t rfl) rfl) ?_
          obtain ⟨bO, hbOe⟩ : ∃ g, g = w2.heap.size := ⟨_, rfl⟩
          refine WL.cons (SO.alloc rfl rfl rfl rfl (r_alloc rfl zero_56) ?_)
          intro w3 hu3 hB3 hz3
          have hs3 := hu3.size
          replace hU := hU.trans hu3 (by exact (fun _ _ h => h))
          replace hH := hH.upd hu3 (fun k hk hl hS => by exact (show False from hS).elim)
          replace hr := hr.upd hu3 (fun k hk hl hS => by exact (show False from hS).elim)
          replace hR := hR.upd hu3 (fun k hk hl hS => by exact (show False from hS).elim)
          replace hP := hP.upd hu3 (fun k hk hl hS => by exact (show False from hS).elim)
          refine WL.cons (SO.storeAll (us := [_, _, _]) rfl (ev_t rfl) (ev_t rfl) size_56 hB3 rfl rfl rfl rfl rfl ?_)
          intro w4 hu4 hB3 hz4
          have hs4 := hu4.size
          replace hU := hU.trans hu4 (by (intro k hl hk; (try simp only [At, New, Grow, From, No] at hk ⊢); omega))
          replace hH := hH.upd hu4 (fun k hk hl hS => by (simp only [At] at hS; rcases hk with hk | hk; omega; have := hlG k hk; omega))
          replace hr := hr.upd hu4 (fun k hk hl hS => by (simp only [At] at hS; have := hF k hk; omega))
          replace hR := hR.upd hu4 (fun k hk hl hS => by (simp only [At] at hS; have := hRl k hk; omega))
          replace hP := hP.upd hu4 (fun k hk hl hS => by (simp only [At] at hS; have := hk.2; omega))
          refine WL.val rfl rfl rfl rfl (r_assign rfl (ev_t rfl)) ?_
          refine WL.nil ?_
          refine WX.keep [(0, _), (1, _), (2, _), (7, _), (8, _), (9, _)] ⟨rfl, rfl, rfl, rfl, rfl, rfl, trivial⟩ ?_
          have hbO := hB3
          rw [← hbOe] at hbO ⊢
          refine WX.next ?_
          refine WC.seq ?_
          refine WC.region ?_
          refine WL.val rfl rfl rfl rfl (r_field0 rfl (ev_t rfl) fld_56_1) ?_
          refine WL.val rfl rfl rfl rfl (r_load rfl (ev_t rfl) flat_46 (Blk.cell hbO rfl)) ?_
          refine WL.val rfl rfl rfl rfl (r_lenSlice (ts := #[]) rfl (ev_t rfl) elem_46) ?_
          refine WL.val rfl rfl rfl rfl (r_assign rfl (ev_t rfl)) ?_
          refine WL.nil ?_
          refine WX.keep [(0, _), (1, _), (2, _), (7, _), (8, _), (9, _), (11, _)] ⟨rfl, rfl, rfl, rfl, rfl, rfl, rfl, trivial⟩ ?_
          refine WX.next ?_
          -- cut 8: live [0, 1, 2, 7, 8, 9, 11]
          refine WC.cut (fun E wB => Upd No w wB ∧ HS wB G p A c mem q n ∧ Rd wB F (.slice A1 mem.length c1) mem.length 1 (mem.map Wd) ∧ Rd wB R (.slice (some ⟨b2, off2, none⟩) ys.length c2) ys.length 1 (ys.map Wd) ∧ (∃ Gp, Own wB Gp 31 1 (.slice AP (parts mem a).length cP) (parts mem a).length ((parts mem a).map Wd)) ∧ Blk wB bO #[.int .u8 ((mem.getD a 0 % 256 : Nat) : Int), .slice AP (parts mem a).length cP, .string ⟨(textB mem a).toArray⟩] 56 ∧ E = [(0, .pointer (some ⟨p, 0, none⟩)), (1, .slice A1 mem.length c1), (2, .slice (some ⟨b2, off2, none⟩) ys.length c2), (7, .int .i64 (i : Int)), (8, Wd (2 * a)), (9, .pointer (some ⟨bO, 0, none⟩)), (11, .int .i64 ((mem.getD a 0 / 256 : Nat) : Int))]) ?_ ?_
          · refine WC.seq ?_
            refine WC.region ?_
            refine WL.val rfl rfl rfl rfl (r_field0 rfl (ev_t rfl) fld_56_0) ?_
            refine WL.val rfl rfl rfl rfl (r_load rfl (ev_t rfl) flat_5 (Blk.cell hbO rfl)) ?_
            refine WL.val rfl rfl rfl rfl (r_eql rfl (ev_t rfl) ev_c) ?_
            refine WL.nil ?_
            refine WX.keep [(0, _), (1, _), (2, _), (7, _), (8, _), (9, _), (11, _), (42, _)] ⟨rfl, rfl, rfl, rfl, rfl, rfl, rfl, rfl, trivial⟩ ?_
            refine WX.next ?_
            refine WC.cond rfl (ev_t rfl) (fun hc8 => ?_) (fun hc8 => ?_)
            · try (exfalso; first | (simp at hc8; done) | (simp only [decide_eq_true_eq, decide_eq_false_iff_not, Bool.not_eq_true', Bool.not_eq_false', Bool.not_eq_true, Bool.not_eq_false] at hc8; omega) | omega)
              all_goals
               try simp only [decide_eq_true_eq, decide_eq_false_iff_not, Bool.not_eq_true', Bool.not_eq_false', Bool.not_eq_true, Bool.not_eq_false, Option.isNone_none, Option.isNone_some, Option.isSome_none, Option.isSome_some, ne_eq, Decidable.not_not] at hc8
               refine WC.region ?_
               refine WL.val rfl rfl rfl rfl (r_field0 rfl (ev_t rfl) fld_56_2) ?_
               refine WL.val rfl rfl rfl rfl (r_load rfl (ev_t rfl) flat_9 (Blk.cell hbO rfl)) ?_
               refine WL.val rfl rfl rfl rfl (r_lenStrL rfl (ev_t rfl) str_9) ?_
               refine WL.val rfl rfl rfl rfl (r_assign rfl (ev_t rfl)) ?_
               refine WL.nil ?_
               refine WX.keep [(0, _), (1, _), (2, _), (7, _), (8, _), (9, _), (11, _)] ⟨rfl, rfl, rfl, rfl, rfl, rfl, rfl, trivial⟩ ?_
               refine WX.meet [(0, _), (1, _), (2, _), (7, _), (8, _), (9, _), (11, _)] ⟨rfl, rfl, rfl, rfl, rfl, rfl, rfl, trivial⟩ ?_
               first
                 | (have hk3 : mem.getD a 0 % 256 = 3 := by omega
                    rw [← textB_len hk3]
                    exact ⟨hU, hH, hr, hR, ⟨_, hP⟩, hbO, rfl⟩)
            · try (exfalso; first | (simp at hc8; done) | (simp only [decide_eq_true_eq, decide_eq_false_iff_not, Bool.not_eq_true', Bool.not_eq_false', Bool.not_eq_true, Bool.not_eq_false] at hc8; omega) | omega)
              all_goals
               try simp only [decide_eq_true_eq, decide_eq_false_iff_not, Bool.not_eq_true', Bool.not_eq_false', Bool.not_eq_true, Bool.not_eq_false, Option.isNone_none, Option.isNone_some, Option.isSome_none, Option.isSome_some, ne_eq, Decidable.not_not] at hc8
               refine WC.skip ?_
               refine WX.meet [(0, _), (1, _), (2, _), (7, _), (8, _), (9, _), (11, _)] ⟨rfl, rfl, rfl, rfl, rfl, rfl, rfl, trivial⟩ ?_
               first
                 | (have hk3 : mem.getD a 0 % 256 ≠ 3 := by omega
                    rw [← parts_len hk3 hafit]
                    exact ⟨hU, hH, hr, hR, ⟨_, hP⟩, hbO, rfl⟩)
          · clear hU hH hr hR hP hbO
            rintro E wB ⟨hU, hH, hr, hR, ⟨Gp, hP⟩, hbO, rfl⟩
            have hUs := hU.size
            have hpl : (parts mem a).length ≤ 1000 := by
              unfold parts; split
              · simp
              · rw [List.length_take, List.length_drop]; omega
            have hPr := hP.rd (by omega)
            refine WC.seq ?_
            refine WC.seq ?_
            refine WC.draws' (fun u0_ u1_ => Upd No u0_ u1_) (fun j => [0, 0, 1, 0, 0, 0, 0, 0, 0, 1, 0, 0, 0, 0, 0, 0, 1, 0, 0, 0, 0].getD j 0) (.calm 0 (.calm 1 (.calm 3 (.held 4 (.one 2 (.calm 5 (.calm 6 (.calm 7 (.calm 8 (.calm 10 (.one 9 (.calm 11 (.calm 12 (.calm 13 (.calm 14 (.calm 15 (.calm 17 (.held 18 (.one 16 (.calm 19 (.calm 20 (.done)))))))))))))))))))))) mixed (by kernel_rfl) (by repeat (first | with_reducible exact Deaf.body | with_reducible apply Deaf.then | with_reducible apply Deaf.block)) ?_
            intro w5 hu5
            have hz5 := congrArg Array.size hu5.2.2.2
            replace hu5 := Upd.of_draw hu5
            have hs5 := hu5.size
            replace hU := hU.trans hu5 (by exact (fun _ _ h => h))
            replace hH := hH.upd hu5 (fun k hk hl hS => by exact (show False from hS).elim)
            replace hr := hr.upd hu5 (fun k hk hl hS => by exact (show False from hS).elim)
            replace hR := hR.upd hu5 (fun k hk hl hS => by exact (show False from hS).elim)
            replace hPr := hPr.upd hu5 (fun k hk hl hS => by first | exact (show False from hS).elim)
            replace hbO := hbO.upd hu5 (fun hS => by first | exact (show False from hS))
            replace hP := hP.upd hu5 (fun k hk hl hS => by exact (show False from hS).elim)
            have hS10 := Upd.refl No w5
            have hbO0 := hbO
            refine WN.calm _ rfl rfl rfl rfl rfl (fun _ => r_move rfl (ev_t rfl)) ?_
            refine WN.calm _ rfl rfl rfl rfl rfl (fun _ => r_move rfl (ev_t rfl)) ?_
            refine WN.calm _ rfl rfl rfl rfl rfl (fun _ => r_field0 rfl (ev_t rfl) fld_56_0) ?_
            refine WN.held _ rfl rfl rfl rfl rfl hS10 (fun w' hS => r_load rfl (ev_t rfl) flat_5 (Blk.cell (hbO0.upd hS (fun h => h)) rfl)) ?_
            refine WN.step _ rfl (SO.call (kind_ok hH hgx) rfl body_40 ⟨(ev_t rfl), (ev_t rfl), trivial⟩ rfl rfl rfl rfl ?_)
            rintro v w6 ⟨rfl, rfl⟩
            refine ⟨hS10, ?_⟩
            refine WN.calm _ rfl rfl rfl rfl rfl (fun _ => r_neq rfl (ev_t rfl) (ev_t rfl)) ?_
            refine WN.calm _ rfl rfl rfl rfl rfl (fun _ => r_move rfl (ev_t rfl)) ?_
            refine WN.cases 52 rfl (fun hb10_6 => ?_) (fun hb10_6 => ?_)
            · try simp only [decide_eq_true_eq, decide_eq_false_iff_not, Bool.not_eq_true', Bool.not_eq_false', Bool.not_eq_true, Bool.not_eq_false, Option.isNone_none, Option.isNone_some, Option.isSome_none, Option.isSome_some, ne_eq, Decidable.not_not] at hb10_6
              exfalso
              (simp at hb10_6)
            · try (exfalso; first | (simp at hb10_6; done) | (simp only [decide_eq_true_eq, decide_eq_false_iff_not, Bool.not_eq_true', Bool.not_eq_false', Bool.not_eq_true, Bool.not_eq_false] at hb10_6; omega) | omega)
              all_goals
               try simp only [decide_eq_true_eq, decide_eq_false_iff_not, Bool.not_eq_true', Bool.not_eq_false', Bool.not_eq_true, Bool.not_eq_false, Option.isNone_none, Option.isNone_some, Option.isSome_none, Option.isSome_some, ne_eq, Decidable.not_not] at hb10_6
               refine WN.calm _ rfl rfl rfl rfl rfl (fun _ => r_move rfl (ev_t rfl)) ?_
               refine WN.calm _ rfl rfl rfl rfl rfl (fun _ => r_move rfl (ev_t rfl)) ?_
               refine WN.calm _ rfl rfl rfl rfl rfl (fun _ => r_move rfl (ev_t rfl)) ?_
               refine WN.step _ rfl (SO.call (len_ok hH hgx hx64) rfl body_16 ⟨(ev_t rfl), (ev_t rfl), trivial⟩ rfl rfl rfl rfl ?_)
               rintro v w7 ⟨rfl, rfl⟩
               refine ⟨hS10, ?_⟩
               refine WN.calm _ rfl rfl rfl rfl rfl (fun _ => r_neq rfl (ev_t rfl) (ev_t rfl)) ?_
               refine WN.calm _ rfl rfl rfl rfl rfl (fun _ => r_pickF rfl (ev_t rfl) (ev_t rfl)) ?_
               refine WN.calm _ rfl rfl rfl rfl rfl (fun _ => r_move rfl (ev_t rfl)) ?_
               refine WN.cases 59 rfl (fun hb10_13 => ?_) (fun hb10_13 => ?_)
               · try simp only [decide_eq_true_eq, decide_eq_false_iff_not, Bool.not_eq_true', Bool.not_eq_false', Bool.not_eq_true, Bool.not_eq_false, Option.isNone_none, Option.isNone_some, Option.isSome_none, Option.isSome_some, ne_eq, Decidable.not_not] at hb10_13
                 exfalso
                 (simp at hb10_13)
               · try (exfalso; first | (simp at hb10_13; done) | (simp only [decide_eq_true_eq, decide_eq_false_iff_not, Bool.not_eq_true', Bool.not_eq_false', Bool.not_eq_true, Bool.not_eq_false] at hb10_13; omega) | omega)
                 all_goals
                  try simp only [decide_eq_true_eq, decide_eq_false_iff_not, Bool.not_eq_true', Bool.not_eq_false', Bool.not_eq_true, Bool.not_eq_false, Option.isNone_none, Option.isNone_some, Option.isSome_none, Option.isSome_some, ne_eq, Decidable.not_not] at hb10_13
                  refine WN.calm _ rfl rfl rfl rfl rfl (fun _ => r_move rfl (ev_t rfl)) ?_
                  refine WN.calm _ rfl rfl rfl rfl rfl (fun _ => r_move rfl (ev_t rfl)) ?_
                  refine WN.calm _ rfl rfl rfl rfl rfl (fun _ => r_field0 rfl (ev_t rfl) fld_56_2) ?_
                  refine WN.held _ rfl rfl rfl rfl rfl hS10 (fun w' hS => r_load rfl (ev_t rfl) flat_9 (Blk.cell (hbO0.upd hS (fun h => h)) rfl)) ?_
                  refine WN.step _ rfl (SO.call (textA_ok hH hg ht hys hm) rfl body_15 ⟨(ev_t rfl), (ev_t rfl), trivial⟩ rfl rfl rfl rfl ?_)
                  rintro v w8 ⟨rfl, hu8⟩
                  have hs8 := hu8.size
                  replace hS10 := Upd.transA hS10 hu8
                  replace hU := hU.trans hu8 (by exact (fun _ _ h => h))
                  replace hH := hH.upd hu8 (fun k hk hl hS => by exact (show False from hS).elim)
                  replace hr := hr.upd hu8 (fun k hk hl hS => by exact (show False from hS).elim)
                  replace hR := hR.upd hu8 (fun k hk hl hS => by exact (show False from hS).elim)
                  replace hPr := hPr.upd hu8 (fun k hk hl hS => by first | exact (show False from hS).elim)
                  replace hbO := hbO.upd hu8 (fun hS => by first | exact (show False from hS))
                  replace hP := hP.upd hu8 (fun k hk hl hS => by exact (show False from hS).elim)
                  refine ⟨hS10, ?_⟩
                  refine WN.calm _ rfl rfl rfl rfl rfl (fun _ => r_neqStrL rfl (ev_t rfl) (ev_t rfl)) ?_
                  refine WN.calm _ rfl rfl rfl rfl rfl (fun _ => r_pickF rfl (ev_t rfl) (ev_t rfl)) ?_
                  refine WN.done ?_
                  refine WX.keep [(0, _), (1, _), (2, _), (7, _), (8, _), (9, _), (66, _)] ⟨rfl, rfl, rfl, rfl, rfl, rfl, rfl, trivial⟩ ?_
                  refine WX.next ?_
                  refine WC.cond rfl (ev_t rfl) (fun hc10 => ?_) (fun hc10 => ?_)
                  · try simp only [decide_eq_true_eq, decide_eq_false_iff_not, Bool.not_eq_true', Bool.not_eq_false', Bool.not_eq_true, Bool.not_eq_false, Option.isNone_none, Option.isNone_some, Option.isSome_none, Option.isSome_some, ne_eq, Decidable.not_not] at hc10
                    exfalso
                    first
                      | (simp at hc10; done)
                  · try (exfalso; first | (simp at hc10; done) | (simp only [decide_eq_true_eq, decide_eq_false_iff_not, Bool.not_eq_true', Bool.not_eq_false', Bool.not_eq_true, Bool.not_eq_false] at hc10; omega) | omega)
                    all_goals
                     try simp only [decide_eq_true_eq, decide_eq_false_iff_not, Bool.not_eq_true', Bool.not_eq_false', Bool.not_eq_true, Bool.not_eq_false, Option.isNone_none, Option.isNone_some, Option.isSome_none, Option.isSome_some, ne_eq, Decidable.not_not] at hc10
                     refine WC.skip ?_
                     refine WX.next ?_
                     refine WC.seq ?_
                     refine WC.seq ?_
                     refine WC.region ?_
                     refine WL.val rfl rfl rfl rfl (r_assign rfl ev_c) ?_
                     refine WL.nil ?_
                     refine WX.keep [(0, _), (1, _), (2, _), (7, _), (8, _), (9, _), (12, _)] ⟨rfl, rfl, rfl, rfl, rfl, rfl, rfl, trivial⟩ ?_
                     refine WX.next ?_
                     refine WC.block ?_
                     -- loop 2: live [0, 1, 2, 7, 8, 9, 12]
                     refine WC.keep [(0, _), (1, _), (2, _), (7, _), (8, _), (9, _), (12, _)] ⟨rfl, rfl, rfl, rfl, rfl, rfl, rfl, trivial⟩ ?_
                     refine WC.loop (fun qq E wD => ∃ (k : Nat), k ≤ (parts mem a).length ∧ qq = (parts mem a).length - k ∧ Upd No w wD ∧ HS wD G p A c mem q n ∧ Rd wD F (.slice A1 mem.length c1) mem.length 1 (mem.map Wd) ∧ Rd wD R (.slice (some ⟨b2, off2, none⟩) ys.length c2) ys.length 1 (ys.map Wd) ∧ Rd wD Gp (.slice AP (parts mem a).length cP) (parts mem a).length 1 ((parts mem a).map Wd) ∧ Blk wD bO #[.int .u8 ((mem.getD a 0 % 256 : Nat) : Int), .slice AP (parts mem a).length cP, .string ⟨(textB mem a).toArray⟩] 56 ∧ E = [(0, .pointer (some ⟨p, 0, none⟩)), (1, .slice A1 mem.length c1), (2, .slice (some ⟨b2, off2, none⟩) ys.length c2), (7, .int .i64 (i : Int)), (8, Wd (2 * a)), (9, .pointer (some ⟨bO, 0, none⟩)), (12, .int .i64 (k : Int))]) ((parts mem a).length) ?_ ?_
                     · exact ⟨0, by omega, by omega, hU, hH, hr, hR, hPr, hbO, rfl⟩
                     · clear hU hH hr hR hPr hbO hP
                       rintro qq E wD ⟨k, hk, rfl, hU, hH, hr, hR, hPr, hbO, rfl⟩
                       have hUs := hU.size
                       refine WC.seq ?_
                       refine WC.seq ?_
                       refine WC.region ?_
                       refine WL.val rfl rfl rfl rfl (r_move rfl (ev_t rfl)) ?_
                       refine WL.val rfl rfl rfl rfl (r_field0 rfl (ev_t rfl) fld_56_1) ?_
                       refine WL.val rfl rfl rfl rfl (r_load rfl (ev_t rfl) flat_46 (Blk.cell hbO rfl)) ?_
                       refine WL.val rfl rfl rfl rfl (r_lenSlice (ts := #[]) rfl (ev_t rfl) elem_46) ?_
                       refine WL.val rfl rfl rfl rfl (r_lss rfl (ev_t rfl) (ev_t rfl)) ?_
                       refine WL.nil ?_
                       refine WX.keep [(0, _), (1, _), (2, _), (7, _), (8, _), (9, _), (12, _), (71, _)] ⟨rfl, rfl, rfl, rfl, rfl, rfl, rfl, rfl, trivial⟩ ?_
                       refine WX.next ?_
                       refine WC.cond rfl (ev_t rfl) (fun hc13 => ?_) (fun hc13 => ?_)
                       · try (exfalso; first | (simp at hc13; done) | (simp only [decide_eq_true_eq, decide_eq_false_iff_not, Bool.not_eq_true', Bool.not_eq_false', Bool.not_eq_true, Bool.not_eq_false] at hc13; omega) | omega)
                         all_goals
                          try simp only [decide_eq_true_eq, decide_eq_false_iff_not, Bool.not_eq_true', Bool.not_eq_false', Bool.not_eq_true, Bool.not_eq_false, Option.isNone_none, Option.isNone_some, Option.isSome_none, Option.isSome_some, ne_eq, Decidable.not_not] at hc13
                          have hkl : k < (parts mem a).length := by omega
                          have hk3 : mem.getD a 0 % 256 ≠ 3 := fun h => by
                            have : parts mem a = [] := if_pos h
                            rw [this] at hkl
                            simp at hkl
                          have hkx : k < mem.getD a 0 / 256 := by rw [← parts_len hk3 hafit]; exact hkl
                          obtain ⟨hpk, _⟩ := parts_get hk3 hkx hafit
                          obtain ⟨bp, op, rfl, _⟩ := hPr.open (by omega)
                          refine WC.skip ?_
                          refine WX.next ?_
                          refine WC.seq ?_
                          refine WC.block ?_
                          refine WC.seq ?_
                          refine WC.region ?_
                          refine WL.val rfl rfl rfl rfl (r_move rfl (ev_t rfl)) ?_
                          refine WL.val rfl rfl rfl rfl (r_move rfl (ev_t rfl)) ?_
                          refine WL.val rfl rfl rfl rfl (r_move rfl (ev_t rfl)) ?_
                          refine WL.cons (SO.call (part_ok hH hgx hx64 hafit (by omega)) rfl body_39 ⟨(ev_t rfl), (ev_t rfl), (ev_t rfl), trivial⟩ rfl rfl rfl rfl ?_)
                          rintro v w9 ⟨hu9, h1, -⟩
                          obtain rfl := h1 ⟨hkx, hk3⟩
                          have hs9 := hu9.size
                          replace hU := hU.trans hu9 (by exact (fun _ _ h => h))
                          replace hH := hH.upd hu9 (fun k hk hl hS => by exact (show False from hS).elim)
                          replace hr := hr.upd hu9 (fun k hk hl hS => by exact (show False from hS).elim)
                          replace hR := hR.upd hu9 (fun k hk hl hS => by exact (show False from hS).elim)
                          replace hPr := hPr.upd hu9 (fun k hk hl hS => by first | exact (show False from hS).elim)
                          replace hbO := hbO.upd hu9 (fun hS => by first | exact (show False from hS))
                          refine WL.val rfl rfl rfl rfl (r_move rfl (ev_t rfl)) ?_
                          refine WL.val rfl rfl rfl rfl (r_extract rfl (ev_t rfl) rfl) ?_
                          refine WL.val rfl rfl rfl rfl (r_extract rfl (ev_t rfl) rfl) ?_
                          refine WL.val rfl rfl rfl rfl (r_assign rfl (ev_t rfl)) ?_
                          refine WL.val rfl rfl rfl rfl (r_assign rfl (ev_t rfl)) ?_
                          refine WL.nil ?_
                          refine WX.keep [(0, _), (1, _), (2, _), (7, _), (8, _), (9, _), (12, _), (13, _), (14, _)] ⟨rfl, rfl, rfl, rfl, rfl, rfl, rfl, rfl, rfl, trivial⟩ ?_
                          refine WX.next ?_
                          refine WC.seq ?_
                          refine WC.region ?_
                          have hbO1 := hbO
                          have hPr1 := hPr
                          refine WL.val rfl rfl rfl rfl (r_move rfl (ev_t rfl)) ?_
                          refine WL.val rfl rfl rfl rfl (r_neq rfl (ev_t rfl) ev_c) ?_
                          refine WL.val rfl rfl rfl rfl (r_move rfl (ev_t rfl)) ?_
                          refine WL.cases 83 rfl (fun hb16_2 => ?_) (fun hb16_2 => ?_)
                          · try (exfalso; first | (simp at hb16_2; done) | (simp only [decide_eq_true_eq, decide_eq_false_iff_not, Bool.not_eq_true', Bool.not_eq_false', Bool.not_eq_true, Bool.not_eq_false] at hb16_2; omega) | omega)
                          · try (exfalso; first | (simp at hb16_2; done) | (simp only [decide_eq_true_eq, decide_eq_false_iff_not, Bool.not_eq_true', Bool.not_eq_false', Bool.not_eq_true, Bool.not_eq_false] at hb16_2; omega) | omega)
                            all_goals
                             try simp only [decide_eq_true_eq, decide_eq_false_iff_not, Bool.not_eq_true', Bool.not_eq_false', Bool.not_eq_true, Bool.not_eq_false, Option.isNone_none, Option.isNone_some, Option.isSome_none, Option.isSome_some, ne_eq, Decidable.not_not] at hb16_2
                             refine WL.val rfl rfl rfl rfl (r_move rfl (ev_t rfl)) ?_
                             refine WL.val rfl rfl rfl rfl (r_field0 rfl (ev_t rfl) fld_56_1) ?_
                             refine WL.val rfl rfl rfl rfl (r_load rfl (ev_t rfl) flat_46 (Blk.cell hbO1 rfl)) ?_
                             refine WL.val rfl rfl rfl rfl (r_move rfl (ev_t rfl)) ?_
                             refine WL.val rfl rfl rfl rfl (r_indexAddr rfl (ev_t rfl) (ev_t rfl) elem_46 size_31 (by omega) (by omega)) ?_
                             refine WL.val rfl rfl rfl rfl (r_load rfl (ev_t rfl) flat_31 (hPr1.cell (j := k) (u := Wd (mem.getD (a + 1 + k) 0)) (show op + (k : Int).toNat * 1 = op + k by omega) (by rw [List.getElem?_map, hpk]; rfl))) ?_
                             refine WL.val rfl rfl rfl rfl (r_neq rfl (ev_t rfl) (ev_t rfl)) ?_
                             refine WL.val rfl rfl rfl rfl (r_pickF rfl (ev_t rfl) (ev_t rfl)) ?_
                             refine WL.nil ?_
                             refine WX.keep [(0, _), (1, _), (2, _), (7, _), (8, _), (9, _), (12, _), (91, _)] ⟨rfl, rfl, rfl, rfl, rfl, rfl, rfl, rfl, trivial⟩ ?_
                             refine WX.next ?_
                             refine WC.cond rfl (ev_t rfl) (fun hc16 => ?_) (fun hc16 => ?_)
                             · try simp only [decide_eq_true_eq, decide_eq_false_iff_not, Bool.not_eq_true', Bool.not_eq_false', Bool.not_eq_true, Bool.not_eq_false, Option.isNone_none, Option.isNone_some, Option.isSome_none, Option.isSome_some, ne_eq, Decidable.not_not] at hc16
                               exfalso
                               (simp at hc16)
                             · try (exfalso; first | (simp at hc16; done) | (simp only [decide_eq_true_eq, decide_eq_false_iff_not, Bool.not_eq_true', Bool.not_eq_false', Bool.not_eq_true, Bool.not_eq_false] at hc16; omega) | omega)
                               all_goals
                                try simp only [decide_eq_true_eq, decide_eq_false_iff_not, Bool.not_eq_true', Bool.not_eq_false', Bool.not_eq_true, Bool.not_eq_false, Option.isNone_none, Option.isNone_some, Option.isSome_none, Option.isSome_some, ne_eq, Decidable.not_not] at hc16
                                refine WC.skip ?_
                                refine WX.blockNormal ?_
                                refine WX.next ?_
                                refine WC.region ?_
                                refine WL.val rfl rfl rfl rfl (r_move rfl (ev_t rfl)) ?_
                                refine WL.val rfl rfl rfl rfl (r_addN rfl (ev_t rfl) ev_c (by simp only [inK]; omega)) ?_
                                refine WL.val rfl rfl rfl rfl (r_assign rfl (ev_t rfl)) ?_
                                refine WL.nil ?_
                                refine WX.keep [(0, _), (1, _), (2, _), (7, _), (8, _), (9, _), (12, _)] ⟨rfl, rfl, rfl, rfl, rfl, rfl, rfl, trivial⟩ ?_
                                refine WX.meet [(0, _), (1, _), (2, _), (7, _), (8, _), (9, _), (12, _)] ⟨rfl, rfl, rfl, rfl, rfl, rfl, rfl, trivial⟩ ?_
                                exact ⟨(parts mem a).length - (k + 1), by omega, k + 1, by omega, rfl, hU, hH, hr, hR, hPr, hbO, rfl⟩
                       · try (exfalso; first | (simp at hc13; done) | (simp only [decide_eq_true_eq, decide_eq_false_iff_not, Bool.not_eq_true', Bool.not_eq_false', Bool.not_eq_true, Bool.not_eq_false] at hc13; omega) | omega)
                         all_goals
                          try simp only [decide_eq_true_eq, decide_eq_false_iff_not, Bool.not_eq_true', Bool.not_eq_false', Bool.not_eq_true, Bool.not_eq_false, Option.isNone_none, Option.isNone_some, Option.isSome_none, Option.isSome_some, ne_eq, Decidable.not_not] at hc13
                          refine WC.exit ?_
                          refine WX.thenExit ?_
                          refine WX.thenExit ?_
                          refine WX.blockHere ?_
                          refine WX.next ?_
                          refine WC.seq ?_
                          refine WC.region ?_
                          have hbO2 := hbO
                          refine WL.val rfl rfl rfl rfl (r_move rfl (ev_t rfl)) ?_
                          refine WL.val rfl rfl rfl rfl (r_move rfl (ev_t rfl)) ?_
                          refine WL.val rfl rfl rfl rfl (r_field0 rfl (ev_t rfl) fld_56_1) ?_
                          refine WL.val rfl rfl rfl rfl (r_load rfl (ev_t rfl) flat_46 (Blk.cell hbO2 rfl)) ?_
                          refine WL.val rfl rfl rfl rfl (r_lenSlice (ts := #[]) rfl (ev_t rfl) elem_46) ?_
                          refine WL.cons (SO.call (part_ok hH hgx hx64 hafit (by omega)) rfl body_39 ⟨(ev_t rfl), (ev_t rfl), (ev_t rfl), trivial⟩ rfl rfl rfl rfl ?_)
                          rintro v w10 ⟨hu10, -, h2⟩
                          obtain rfl := h2 (fun h => by have := parts_len h.2 hafit; omega)
                          have hs10 := hu10.size
                          replace hU := hU.trans hu10 (by exact (fun _ _ h => h))
                          replace hH := hH.upd hu10 (fun k hk hl hS => by exact (show False from hS).elim)
                          replace hr := hr.upd hu10 (fun k hk hl hS => by exact (show False from hS).elim)
                          replace hR := hR.upd hu10 (fun k hk hl hS => by exact (show False from hS).elim)
                          replace hPr := hPr.upd hu10 (fun k hk hl hS => by first | exact (show False from hS).elim)
                          replace hbO := hbO.upd hu10 (fun hS => by first | exact (show False from hS))
                          refine WL.val rfl rfl rfl rfl (r_move rfl (ev_t rfl)) ?_
                          refine WL.val rfl rfl rfl rfl (r_extract rfl (ev_t rfl) rfl) ?_
                          refine WL.val rfl rfl rfl rfl (r_extract rfl (ev_t rfl) rfl) ?_
                          refine WL.val rfl rfl rfl rfl (r_assign rfl (ev_t rfl)) ?_
                          refine WL.val rfl rfl rfl rfl (r_assign rfl (ev_t rfl)) ?_
                          refine WL.nil ?_
                          refine WX.keep [(0, _), (1, _), (2, _), (7, _), (16, _)] ⟨rfl, rfl, rfl, rfl, rfl, trivial⟩ ?_
                          refine WX.next ?_
                          refine WC.seq ?_
                          refine WC.region ?_
                          refine WL.val rfl rfl rfl rfl (r_move rfl (ev_t rfl)) ?_
                          refine WL.val rfl rfl rfl rfl (r_neq rfl (ev_t rfl) ev_c) ?_
                          refine WL.nil ?_
                          refine WX.keep [(0, _), (1, _), (2, _), (7, _), (102, _)] ⟨rfl, rfl, rfl, rfl, rfl, trivial⟩ ?_
                          refine WX.next ?_
                          refine WC.cond rfl (ev_t rfl) (fun hc19 => ?_) (fun hc19 => ?_)
                          · try (exfalso; first | (simp at hc19; done) | (simp only [decide_eq_true_eq, decide_eq_false_iff_not, Bool.not_eq_true', Bool.not_eq_false', Bool.not_eq_true, Bool.not_eq_false] at hc19; omega) | omega)
                          · try (exfalso; first | (simp at hc19; done) | (simp only [decide_eq_true_eq, decide_eq_false_iff_not, Bool.not_eq_true', Bool.not_eq_false', Bool.not_eq_true, Bool.not_eq_false] at hc19; omega) | omega)
                            all_goals
                             try simp only [decide_eq_true_eq, decide_eq_false_iff_not, Bool.not_eq_true', Bool.not_eq_false', Bool.not_eq_true, Bool.not_eq_false, Option.isNone_none, Option.isNone_some, Option.isSome_none, Option.isSome_some, ne_eq, Decidable.not_not] at hc19
                             refine WC.skip ?_
                             refine WX.blockNormal ?_
                             refine WX.next ?_
                             refine WC.region ?_
                             refine WL.val rfl rfl rfl rfl (r_move rfl (ev_t rfl)) ?_
                             refine WL.val rfl rfl rfl rfl (r_addN rfl (ev_t rfl) ev_c (by simp only [inK]; omega)) ?_
                             refine WL.val rfl rfl rfl rfl (r_assign rfl (ev_t rfl)) ?_
                             refine WL.nil ?_
                             refine WX.keep [(0, _), (1, _), (2, _), (7, _)] ⟨rfl, rfl, rfl, rfl, trivial⟩ ?_
                             refine WX.meet [(0, _), (1, _), (2, _), (7, _)] ⟨rfl, rfl, rfl, rfl, trivial⟩ ?_
                             exact ⟨ys.length - (i + 1), by omega, i + 1, by omega, rfl, hU, hH, hr, hR, rfl⟩
    · try (exfalso; first | (simp at hc2; done) | (simp only [decide_eq_true_eq, decide_eq_false_iff_not, Bool.not_eq_true', Bool.not_eq_false', Bool.not_eq_true, Bool.not_eq_false] at hc2; omega) | omega)
      all_goals
       try simp only [decide_eq_true_eq, decide_eq_false_iff_not, Bool.not_eq_true', Bool.not_eq_false', Bool.not_eq_true, Bool.not_eq_false, Option.isNone_none, Option.isNone_some, Option.isSome_none, Option.isSome_some, ne_eq, Decidable.not_not] at hc2
       refine WC.exit ?_
       refine WX.thenExit ?_
       refine WX.thenExit ?_
       refine WX.blockHere ?_
       refine WX.next ?_
       refine WC.seq ?_
       refine WC.region ?_
       refine WL.val rfl rfl rfl rfl (r_assign rfl ev_c) ?_
       refine WL.nil ?_
       refine WX.keep [(6, _)] ⟨rfl, trivial⟩ ?_
       refine WX.next ?_
       refine WC.ret ?_
       refine WX.retE1 rfl rfl ?_
       exact ⟨rfl, hU⟩
end Go.Proofs.YtdpnnclkkbfihaaDoor
