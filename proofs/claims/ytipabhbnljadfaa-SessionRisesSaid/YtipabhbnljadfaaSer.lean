/-
  law 17: a session's numbers rise.
-/
import Derived.Test.YtipabhbnljadfaaSed
namespace Go.Proofs.Ytipabhbnljadfaa
open Go
set_option linter.unusedSimpArgs false
set_option linter.unusedVariables false

/-- what one session makes of the table -/
def lR (id top : Nat) (d : List UInt8) : List Ls := if top = 0 then [] else [⟨id, top, d⟩]
theorem lR_zero (id : Nat) (d : List UInt8) : lR id 0 d = [] := rfl
theorem lR_pos {id top : Nat} (h : top ≠ 0) (d : List UInt8) : lR id top d = [⟨id, top, d⟩] := if_neg h
theorem lR_at {id top : Nat} (h : top ≠ 0) (d : List UInt8) : isAt (lR id top d) id = true ∧ lbI (lR id top d) id = 0 := by
  rw [lR_pos h]
  simp [isAt, lbI]
theorem lR_end (id top : Nat) (d : List UInt8) : isAt (lR id top d) id = true ∨ lbI (lR id top d) id = (lR id top d).length := by
  by_cases h : top = 0
  · subst h; exact .inr rfl
  · exact .inl (lR_at h d).1
theorem lR_ask {id top n : Nat} (hid : id ≠ 0) (d : List UInt8) : askS (lR id top d) id n = if n = 0 then ([], 1) else if top = 0 ∨ top < n then ([], 6) else if n < top then ([], 16) else (d, 0) := by
  unfold askS
  by_cases hn : n = 0
  · rw [if_pos (.inr hn), if_pos hn]
  · rw [if_neg (by omega), if_neg hn]
    by_cases h : top = 0
    · subst h
      simp [lR_zero, isAt, lbI]
    · rw [if_pos (lR_at h d).1, (lR_at h d).2, lR_pos h]
      simp only [List.getElem?_cons_zero]
      by_cases h1 : top < n
      · simp [h1]
      · simp [h, h1]
theorem lR_put {id top n : Nat} (hid : id ≠ 0) (d : List UInt8) (e : List UInt8) : ∃ c : Nat, putS (lR id top d) ⟨id, n, e⟩ = (if top < n then lR id n e else lR id top d, c) ∧ (c = 0 ↔ top < n) := by
  unfold putS
  rw [lR_ask hid]
  by_cases h1 : top < n
  · refine ⟨0, ?_, by simp [h1]⟩
    have hn : n ≠ 0 := by omega
    simp only [if_neg hn, h1, or_true, if_true]
    unfold insS
    by_cases h : top = 0
    · subst h
      rw [lR_pos hn]
      simp [lR_zero, isAt, lbI]
    · rw [if_pos (lR_at h d).1, (lR_at h d).2, lR_pos h, lR_pos hn]
      rfl
  · by_cases hn : n = 0
    · exact ⟨1, by simp [h1, hn], by simp [h1]⟩
    · have ht : top ≠ 0 := by omega
      by_cases h2 : n < top
      · exact ⟨16, by simp [h1, hn, ht, h2], by simp [h1]⟩
      · exact ⟨7, by simp [h1, hn, ht, h2], by simp [h1]⟩
theorem tok_lR {id top : Nat} {d : List UInt8} (h0 : 0 < id) (h1 : id < 18446744073709551616) (h2 : top < 18446744073709551616) (h3 : d.length ≤ 1048576) : TOK (lR id top d) := by
  by_cases h : top = 0
  · subst h; exact TOK.nil
  · rw [lR_pos h]
    exact ⟨List.pairwise_singleton _ _, by simp, fun x hx => by simp only [List.mem_singleton] at hx; subst hx; exact ⟨h0, h1, by show 0 < top; omega, h2, h3⟩⟩

set_option maxHeartbeats 2000000 in
theorem sessionRises.walk {w : World} {id : Nat} {v1 : Value} {l : List Int} (hid : id < 18446744073709551616) (hl0 : Rd w (fun k => k < w.heap.size) v1 l.length 1 (l.map fun n => .int .u64 n)) (hz : ∀ n ∈ l, inK .u64 n) :
    Ret Try.prog 4 #[.int .u64 (id : Int), v1] w fun v w' => v = .bool true ∧ Upd No w w' := by
  obtain ⟨Al, cl, rfl, hcl⟩ := hl0.slice_form
  have hlm := hl0.le
  refine enterRet (vs := [_, _]) (N := 75) Try.func4 rfl rfl rfl ?_
  have hU := Upd.refl No w
  refine WC.keep [(0, _), (1, _)] ⟨rfl, rfl, trivial⟩ ?_
  refine WC.seq ?_
  refine WC.region ?_
  refine WL.val rfl rfl rfl rfl (r_assign rfl ev_c) ?_
  refine WL.nil ?_
  refine WX.keep [(0, _), (1, _)] ⟨rfl, rfl, trivial⟩ ?_
  refine WX.next ?_
  refine WC.seq ?_
  refine WC.seq ?_
  refine WC.region ?_
  refine WL.cons (SO.call (awake17_ok _) rfl body_9 trivial rfl rfl rfl rfl ?_)
  rintro v w1 ⟨rfl, hu1⟩
  have hs1 := hu1.size
  replace hU := hU.trans hu1 (by first | exact (fun _ _ h => h) | exact (fun _ _ h => h.elim) | (intro k hl hk; (try simp only [At, New, Grow, From, No] at hk ⊢); omega) | (intro k hl hk; first | (have := hRw k hk; omega) | (simp only [At, New, Grow, From, No] at *; omega)))
  refine WL.val rfl rfl rfl rfl (r_not rfl (ev_t rfl)) ?_
  refine WL.val rfl rfl rfl rfl (r_move rfl (ev_t rfl)) ?_
  refine WL.cases 14 rfl (fun hb1_2 => ?_) (fun hb1_2 => ?_)
  · try (exfalso; first | (simp at hb1_2; done) | (simp only [decide_eq_true_eq, decide_eq_false_iff_not, Bool.not_eq_true', Bool.not_eq_false', Bool.not_eq_true, Bool.not_eq_false] at hb1_2; omega) | omega)
    all_goals
     try simp only [decide_eq_true_eq, decide_eq_false_iff_not, Bool.not_eq_true', Bool.not_eq_false', Bool.not_eq_true, Bool.not_eq_false, Option.isNone_none, Option.isNone_some, Option.isSome_none, Option.isSome_some, ne_eq, Decidable.not_not] at hb1_2
     refine WL.skip rfl rfl rfl ?_
     refine WL.skip rfl rfl rfl ?_
     refine WL.val rfl rfl rfl rfl (r_pickT rfl (ev_t rfl) ev_c) ?_
     refine WL.val rfl rfl rfl rfl (r_move rfl (ev_t rfl)) ?_
     refine WL.skip rfl rfl rfl ?_
     refine WL.skip rfl rfl rfl ?_
     refine WL.skip rfl rfl rfl ?_
     refine WL.val rfl rfl rfl rfl (r_pickT rfl (ev_t rfl) ev_c) ?_
     refine WL.nil ?_
     refine WX.keep [(0, _), (1, _), (22, _)] ⟨rfl, rfl, rfl, trivial⟩ ?_
     refine WX.next ?_
     refine WC.cond_true rfl (ev_t rfl) ?_
     refine WC.seq ?_
     refine WC.region ?_
     refine WL.cons (SO.call (awake17_ok _) rfl body_9 trivial rfl rfl rfl rfl ?_)
     rintro v w2 ⟨rfl, hu2⟩
     have hs2 := hu2.size
     replace hU := hU.trans hu2 (by first | exact (fun _ _ h => h) | exact (fun _ _ h => h.elim) | (intro k hl hk; (try simp only [At, New, Grow, From, No] at hk ⊢); omega) | (intro k hl hk; first | (have := hRw k hk; omega) | (simp only [At, New, Grow, From, No] at *; omega)))
     refine WL.val rfl rfl rfl rfl (r_assign rfl (ev_t rfl)) ?_
     refine WL.nil ?_
     refine WX.keep [(4, _)] ⟨rfl, trivial⟩ ?_
     refine WX.next ?_
     refine WC.ret ?_
     refine WX.thenRet ?_
     refine WX.retE1 rfl rfl ?_
     first
       | exact ⟨rfl, hU⟩
       | exact ⟨by simp, hU⟩
  · try (exfalso; first | (simp at hb1_2; done) | (simp only [decide_eq_true_eq, decide_eq_false_iff_not, Bool.not_eq_true', Bool.not_eq_false', Bool.not_eq_true, Bool.not_eq_false] at hb1_2; omega) | omega)
    all_goals
     try simp only [decide_eq_true_eq, decide_eq_false_iff_not, Bool.not_eq_true', Bool.not_eq_false', Bool.not_eq_true, Bool.not_eq_false, Option.isNone_none, Option.isNone_some, Option.isSome_none, Option.isSome_some, ne_eq, Decidable.not_not] at hb1_2
     refine WL.val rfl rfl rfl rfl (r_move rfl (ev_t rfl)) ?_
     refine WL.val rfl rfl rfl rfl (r_eql rfl (ev_t rfl) ev_c) ?_
     refine WL.val rfl rfl rfl rfl (r_pickF rfl (ev_t rfl) (ev_t rfl)) ?_
     refine WL.val rfl rfl rfl rfl (r_move rfl (ev_t rfl)) ?_
     refine WL.cases 18 rfl (fun hb1_6 => ?_) (fun hb1_6 => ?_)
     · try (exfalso; first | (simp at hb1_6; done) | (simp only [decide_eq_true_eq, decide_eq_false_iff_not, Bool.not_eq_true', Bool.not_eq_false', Bool.not_eq_true, Bool.not_eq_false] at hb1_6; omega) | omega)
       all_goals
        try simp only [decide_eq_true_eq, decide_eq_false_iff_not, Bool.not_eq_true', Bool.not_eq_false', Bool.not_eq_true, Bool.not_eq_false, Option.isNone_none, Option.isNone_some, Option.isSome_none, Option.isSome_some, ne_eq, Decidable.not_not] at hb1_6
        refine WL.skip rfl rfl rfl ?_
        refine WL.skip rfl rfl rfl ?_
        refine WL.skip rfl rfl rfl ?_
        refine WL.val rfl rfl rfl rfl (r_pickT rfl (ev_t rfl) ev_c) ?_
        refine WL.nil ?_
        refine WX.keep [(0, _), (1, _), (22, _)] ⟨rfl, rfl, rfl, trivial⟩ ?_
        refine WX.next ?_
        refine WC.cond_true rfl (ev_t rfl) ?_
        refine WC.seq ?_
        refine WC.region ?_
        refine WL.cons (SO.call (awake17_ok _) rfl body_9 trivial rfl rfl rfl rfl ?_)
        rintro v w3 ⟨rfl, hu3⟩
        have hs3 := hu3.size
        replace hU := hU.trans hu3 (by first | exact (fun _ _ h => h) | exact (fun _ _ h => h.elim) | (intro k hl hk; (try simp only [At, New, Grow, From, No] at hk ⊢); omega) | (intro k hl hk; first | (have := hRw k hk; omega) | (simp only [At, New, Grow, From, No] at *; omega)))
        refine WL.val rfl rfl rfl rfl (r_assign rfl (ev_t rfl)) ?_
        refine WL.nil ?_
        refine WX.keep [(4, _)] ⟨rfl, trivial⟩ ?_
        refine WX.next ?_
        refine WC.ret ?_
        refine WX.thenRet ?_
        refine WX.retE1 rfl rfl ?_
        first
          | exact ⟨rfl, hU⟩
          | exact ⟨by simp, hU⟩
     · try (exfalso; first | (simp at hb1_6; done) | (simp only [decide_eq_true_eq, decide_eq_false_iff_not, Bool.not_eq_true', Bool.not_eq_false', Bool.not_eq_true, Bool.not_eq_false] at hb1_6; omega) | omega)
       all_goals
        try simp only [decide_eq_true_eq, decide_eq_false_iff_not, Bool.not_eq_true', Bool.not_eq_false', Bool.not_eq_true, Bool.not_eq_false, Option.isNone_none, Option.isNone_some, Option.isSome_none, Option.isSome_some, ne_eq, Decidable.not_not] at hb1_6
        refine WL.val rfl rfl rfl rfl (r_move rfl (ev_t rfl)) ?_
        refine WL.val rfl rfl rfl rfl (r_lenSlice (ts := #[]) rfl (ev_t rfl) elem_22) ?_
        refine WL.val rfl rfl rfl rfl (r_gtr rfl (ev_t rfl) ev_c) ?_
        refine WL.val rfl rfl rfl rfl (r_pickF rfl (ev_t rfl) (ev_t rfl)) ?_
        refine WL.nil ?_
        refine WX.keep [(0, _), (1, _), (22, _)] ⟨rfl, rfl, rfl, trivial⟩ ?_
        refine WX.next ?_
        refine WC.cond rfl (ev_t rfl) (fun hc1 => ?_) (fun hc1 => ?_)
        · try (exfalso; first | (simp at hc1; done) | (simp only [decide_eq_true_eq, decide_eq_false_iff_not, Bool.not_eq_true', Bool.not_eq_false', Bool.not_eq_true, Bool.not_eq_false] at hc1; omega) | omega)
          all_goals
           try simp only [decide_eq_true_eq, decide_eq_false_iff_not, Bool.not_eq_true', Bool.not_eq_false', Bool.not_eq_true, Bool.not_eq_false, Option.isNone_none, Option.isNone_some, Option.isSome_none, Option.isSome_some, ne_eq, Decidable.not_not] at hc1
           refine WC.seq ?_
           refine WC.region ?_
           refine WL.cons (SO.call (awake17_ok _) rfl body_9 trivial rfl rfl rfl rfl ?_)
           rintro v w4 ⟨rfl, hu4⟩
           have hs4 := hu4.size
           replace hU := hU.trans hu4 (by first | exact (fun _ _ h => h) | exact (fun _ _ h => h.elim) | (intro k hl hk; (try simp only [At, New, Grow, From, No] at hk ⊢); omega) | (intro k hl hk; first | (have := hRw k hk; omega) | (simp only [At, New, Grow, From, No] at *; omega)))
           refine WL.val rfl rfl rfl rfl (r_assign rfl (ev_t rfl)) ?_
           refine WL.nil ?_
           refine WX.keep [(4, _)] ⟨rfl, trivial⟩ ?_
           refine WX.next ?_
           refine WC.ret ?_
           refine WX.thenRet ?_
           refine WX.retE1 rfl rfl ?_
           first
             | exact ⟨rfl, hU⟩
             | exact ⟨by simp, hU⟩
        · try (exfalso; first | (simp at hc1; done) | (simp only [decide_eq_true_eq, decide_eq_false_iff_not, Bool.not_eq_true', Bool.not_eq_false', Bool.not_eq_true, Bool.not_eq_false] at hc1; omega) | omega)
          all_goals
           try simp only [decide_eq_true_eq, decide_eq_false_iff_not, Bool.not_eq_true', Bool.not_eq_false', Bool.not_eq_true, Bool.not_eq_false, Option.isNone_none, Option.isNone_some, Option.isSome_none, Option.isSome_some, ne_eq, Decidable.not_not] at hc1
           refine WC.skip ?_
           refine WX.next ?_
           refine WC.seq ?_
           refine WC.region ?_
           refine WL.cons (SO.call (SNew_ok) rfl body_10 trivial rfl rfl rfl rfl ?_)
           rintro v w5 ⟨t, rfl, hs, hu5⟩
           have hs5 := hu5.size
           replace hU := hU.trans hu5 (by first | exact (fun _ _ h => h) | exact (fun _ _ h => h.elim) | (intro k hl hk; (try simp only [At, New, Grow, From, No] at hk ⊢); omega) | (intro k hl hk; first | (have := hRw k hk; omega) | (simp only [At, New, Grow, From, No] at *; omega)))
           refine WL.val rfl rfl rfl rfl (r_assign rfl (ev_t rfl)) ?_
           refine WL.nil ?_
           refine WX.keep [(0, _), (1, _), (5, _)] ⟨rfl, rfl, rfl, trivial⟩ ?_
           refine WX.next ?_
           refine WC.seq ?_
           refine WC.region ?_
           refine WL.val rfl rfl rfl rfl (r_assign rfl ev_c) ?_
           refine WL.nil ?_
           refine WX.keep [(0, _), (1, _), (5, _), (6, _)] ⟨rfl, rfl, rfl, rfl, trivial⟩ ?_
           refine WX.next ?_
           refine WC.seq ?_
           refine WC.seq ?_
           refine WC.region ?_
           refine WL.val rfl rfl rfl rfl (r_assign rfl ev_c) ?_
           refine WL.nil ?_
           refine WX.keep [(0, _), (1, _), (5, _), (6, _), (7, _)] ⟨rfl, rfl, rfl, rfl, rfl, trivial⟩ ?_
           refine WX.next ?_
           refine WC.block ?_
           -- loop 1: live [0, 1, 5, 6, 7]
           refine WC.keep [(0, _), (1, _), (5, _), (6, _), (7, _)] ⟨rfl, rfl, rfl, rfl, rfl, trivial⟩ ?_
           refine WC.loop (fun q E w' => ∃ (i top : Nat) (d : List UInt8) (R : Nat → Prop), i ≤ l.length ∧ q = l.length - i ∧ Upd No w w' ∧ top < 18446744073709551616 ∧ d.length ≤ 1048576 ∧ IsT w' R t (lR id top d) ∧ (∀ k, R k → w.heap.size ≤ k) ∧ (∀ k, R k → k < w'.heap.size) ∧   E = [(0, .int .u64 (id : Int)), (1, .slice Al l.length cl), (5, .pointer (some ⟨t, 0, none⟩)), (6, .int .u64 (top : Int)), (7, .int .i64 (i : Int))]) (l.length) ?_ ?_
           · exact ⟨0, 0, [], _, by omega, by omega, hU, by omega, by simp, hs, (fun k hk => by simp only [New] at hk; omega), (fun k hk => by simp only [New] at hk; omega), rfl⟩
           · clear hU hs
             rintro q E w' ⟨i, top, d, R, hi, rfl, hU, htop, hdl, hs, hRw, hRl, rfl⟩
             have hw0 := hU.size
             refine WC.seq ?_
             refine WC.seq ?_
             refine WC.region ?_
             refine WL.val rfl rfl rfl rfl (r_move rfl (ev_t rfl)) ?_
             refine WL.val rfl rfl rfl rfl (r_move rfl (ev_t rfl)) ?_
             refine WL.val rfl rfl rfl rfl (r_lenSlice (ts := #[]) rfl (ev_t rfl) elem_22) ?_
             refine WL.val rfl rfl rfl rfl (r_lss rfl (ev_t rfl) (ev_t rfl)) ?_
             refine WL.nil ?_
             refine WX.keep [(0, _), (1, _), (5, _), (6, _), (7, _), (28, _)] ⟨rfl, rfl, rfl, rfl, rfl, rfl, trivial⟩ ?_
             refine WX.next ?_
             refine WC.cond rfl (ev_t rfl) (fun hc6 => ?_) (fun hc6 => ?_)
             · try (exfalso; first | (simp at hc6; done) | (simp only [decide_eq_true_eq, decide_eq_false_iff_not, Bool.not_eq_true', Bool.not_eq_false', Bool.not_eq_true, Bool.not_eq_false] at hc6; omega) | omega)
               all_goals
                try simp only [decide_eq_true_eq, decide_eq_false_iff_not, Bool.not_eq_true', Bool.not_eq_false', Bool.not_eq_true, Bool.not_eq_false, Option.isNone_none, Option.isNone_some, Option.isSome_none, Option.isSome_some, ne_eq, Decidable.not_not] at hc6
                have hi' : i < l.length := by omega
                obtain ⟨bl, ol, rfl, _⟩ := hl0.open (by omega)
                have hg := List.getElem?_eq_getElem hi'
                have hzi := hz _ (List.getElem_mem hi')
                generalize l[i] = z at *
                simp only [inK] at hzi
                obtain ⟨m, rfl⟩ : ∃ m : Nat, z = m := ⟨z.toNat, by omega⟩
                refine WC.skip ?_
                refine WX.next ?_
                refine WC.seq ?_
                refine WC.block ?_
                refine WC.seq ?_
                refine WC.region ?_
                refine WL.val rfl rfl rfl rfl (r_move rfl (ev_t rfl)) ?_
                refine WL.val rfl rfl rfl rfl (r_move rfl (ev_t rfl)) ?_
                refine WL.val rfl rfl rfl rfl (r_indexAddr rfl (ev_t rfl) (ev_t rfl) elem_22 size_27 (by omega) (by omega)) ?_
                refine WL.val rfl rfl rfl rfl (r_load rfl (ev_t rfl) flat_27 (Rd.cell (hl0.upd hU (fun _ _ _ h => h)) (j := i) (u := .int .u64 (m : Int)) (by omega) (by rw [List.getElem?_map, hg]; rfl))) ?_
                refine WL.val rfl rfl rfl rfl (r_assign rfl (ev_t rfl)) ?_
                refine WL.nil ?_
                refine WX.keep [(0, _), (1, _), (5, _), (6, _), (7, _), (8, _)] ⟨rfl, rfl, rfl, rfl, rfl, rfl, trivial⟩ ?_
                refine WX.next ?_
                refine WC.seq ?_
                obtain ⟨c, hc, hc0⟩ := lR_put (id := id) (top := top) (n := m) (by omega) d [UInt8.ofNat i]
                refine WC.region ?_
                refine WL.val rfl rfl rfl rfl (r_move rfl (ev_t rfl)) ?_
                refine WL.val rfl rfl rfl rfl (r_move rfl (ev_t rfl)) ?_
                refine WL.val rfl rfl rfl rfl (r_move rfl (ev_t rfl)) ?_
                refine WL.val rfl rfl rfl rfl (r_move rfl (ev_t rfl)) ?_
                first | refine WL.val rfl rfl rfl rfl (r_convN rfl (ev_t rfl) some_3 int_5 (by simp only [inK]; omega)) ?_ | refine WL.val rfl rfl rfl rfl (r_conv rfl (ev_t rfl) some_3 int_5) ?_
                refine WL.cons (SO.alloc rfl rfl rfl rfl (r_buildSlice1 (vs := [_]) rfl ⟨(ev_t rfl), trivial⟩ rfl row_23 rfl rfl) ?_)
                intro w6 hu6 hB6 hz6
                have hs6 := hu6.size
                replace hU := hU.trans hu6 (by first | exact (fun _ _ h => h) | exact (fun _ _ h => h.elim) | (intro k hl hk; (try simp only [At, New, Grow, From, No] at hk ⊢); omega) | (intro k hl hk; first | (have := hRw k hk; omega) | (simp only [At, New, Grow, From, No] at *; omega)))
                replace hs := hs.upd hu6 (by first | exact (fun _ _ _ h => h) | (intro k hk hl hS; simp only [At] at hS; subst hS; have := hRl _ hk; omega))
                have hu8 : (Value.int .u8 (i : Int)) = U8 (UInt8.ofNat i) := by simp only [U8, UInt8.toNat_ofNat']; congr 1; omega
                rw [hu8] at hB6
                refine WL.cons (SO.call (Put_ok (data := [UInt8.ofNat i]) (n := 1) hs (tok_lR (by omega) hid htop hdl) hid (by omega) (Rd.of_blk (F := At _) (n := 1) (sz := 1) hB6 rfl rfl (by omega)) (lR_end _ _ _)) rfl body_11 ⟨(ev_t rfl), (ev_t rfl), (ev_t rfl), (ev_t rfl), trivial⟩ rfl rfl rfl rfl ?_)
                rw [hc]
                clear hs
                rintro v w7 ⟨rfl, hs, hu7⟩
                have hs7 := hu7.size
                replace hU := hU.trans hu7 (by first | exact (fun _ _ h => h) | exact (fun _ _ h => h.elim) | (intro k hl hk; (try simp only [At, New, Grow, From, No] at hk ⊢); omega) | (intro k hl hk; first | (have := hRw k hk; omega) | (simp only [At, New, Grow, From, No] at *; omega)))
                replace hRw : ∀ k, Grow R w6 w7 k → w.heap.size ≤ k := fun k hk => hk.elim (hRw k) (fun h => by omega)
                replace hRl : ∀ k, Grow R w6 w7 k → k < w7.heap.size := fun k hk => hk.elim (fun h => by have := hRl k h; omega) (fun h => h.2)
                refine WL.val rfl rfl rfl rfl (r_assign rfl (ev_t rfl)) ?_
                refine WL.nil ?_
                refine WX.keep [(0, _), (1, _), (5, _), (6, _), (7, _), (8, _), (9, _)] ⟨rfl, rfl, rfl, rfl, rfl, rfl, rfl, trivial⟩ ?_
                refine WX.next ?_
                refine WC.seq ?_
                refine WC.seq ?_
                refine WC.region ?_
                refine WL.val rfl rfl rfl rfl (r_move rfl (ev_t rfl)) ?_
                refine WL.val rfl rfl rfl rfl (r_eql rfl (ev_t rfl) ev_c) ?_
                refine WL.val rfl rfl rfl rfl (r_move rfl (ev_t rfl)) ?_
                refine WL.val rfl rfl rfl rfl (r_move rfl (ev_t rfl)) ?_
                refine WL.val rfl rfl rfl rfl (r_gtr rfl (ev_t rfl) (ev_t rfl)) ?_
                refine WL.val rfl rfl rfl rfl (r_neqBool rfl (ev_t rfl) (ev_t rfl) bool_4) ?_
                refine WL.nil ?_
                refine WX.keep [(0, _), (1, _), (5, _), (6, _), (7, _), (8, _), (9, _), (47, _)] ⟨rfl, rfl, rfl, rfl, rfl, rfl, rfl, rfl, trivial⟩ ?_
                refine WX.next ?_
                refine WC.cond rfl (ev_t rfl) (fun hc10 => ?_) (fun hc10 => ?_)
                · try simp only [decide_eq_true_eq, decide_eq_false_iff_not, Bool.not_eq_true', Bool.not_eq_false', Bool.not_eq_true, Bool.not_eq_false, Option.isNone_none, Option.isNone_some, Option.isSome_none, Option.isSome_some, ne_eq, Decidable.not_not] at hc10
                  exfalso
                  rw [beq_eq_false_iff_ne, ne_eq, decide_eq_decide] at hc10; omega
                · try (exfalso; first | (simp at hc10; done) | (simp only [decide_eq_true_eq, decide_eq_false_iff_not, Bool.not_eq_true', Bool.not_eq_false', Bool.not_eq_true, Bool.not_eq_false] at hc10; omega) | omega)
                  all_goals
                   try simp only [decide_eq_true_eq, decide_eq_false_iff_not, Bool.not_eq_true', Bool.not_eq_false', Bool.not_eq_true, Bool.not_eq_false, Option.isNone_none, Option.isNone_some, Option.isSome_none, Option.isSome_some, ne_eq, Decidable.not_not] at hc10
                   refine WC.skip ?_
                   refine WX.next ?_
                   refine WC.seq ?_
                   refine WC.seq ?_
                   refine WC.region ?_
                   refine WL.val rfl rfl rfl rfl (r_move rfl (ev_t rfl)) ?_
                   refine WL.val rfl rfl rfl rfl (r_eql rfl (ev_t rfl) ev_c) ?_
                   refine WL.nil ?_
                   refine WX.keep [(0, _), (1, _), (5, _), (6, _), (7, _), (8, _), (9, _), (49, _)] ⟨rfl, rfl, rfl, rfl, rfl, rfl, rfl, rfl, trivial⟩ ?_
                   refine WX.next ?_
                   refine WC.cond rfl (ev_t rfl) (fun hc12 => ?_) (fun hc12 => ?_)
                   · try (exfalso; first | (simp at hc12; done) | (simp only [decide_eq_true_eq, decide_eq_false_iff_not, Bool.not_eq_true', Bool.not_eq_false', Bool.not_eq_true, Bool.not_eq_false] at hc12; omega) | omega)
                     all_goals
                      try simp only [decide_eq_true_eq, decide_eq_false_iff_not, Bool.not_eq_true', Bool.not_eq_false', Bool.not_eq_true, Bool.not_eq_false, Option.isNone_none, Option.isNone_some, Option.isSome_none, Option.isSome_some, ne_eq, Decidable.not_not] at hc12
                      have htn : top < m := hc0.1 (by omega)
                      rw [if_pos htn] at hs
                      refine WC.region ?_
                      refine WL.val rfl rfl rfl rfl (r_move rfl (ev_t rfl)) ?_
                      refine WL.val rfl rfl rfl rfl (r_assign rfl (ev_t rfl)) ?_
                      refine WL.nil ?_
                      refine WX.keep [(0, _), (1, _), (5, _), (6, _), (7, _), (9, _)] ⟨rfl, rfl, rfl, rfl, rfl, rfl, trivial⟩ ?_
                      refine WX.next ?_
                      refine WC.seq ?_
                      refine WC.seq ?_
                      refine WC.region ?_
                      refine WL.val rfl rfl rfl rfl (r_move rfl (ev_t rfl)) ?_
                      refine WL.val rfl rfl rfl rfl (r_eql rfl (ev_t rfl) ev_c) ?_
                      refine WL.nil ?_
                      refine WX.keep [(0, _), (1, _), (5, _), (6, _), (7, _), (9, _), (52, _)] ⟨rfl, rfl, rfl, rfl, rfl, rfl, rfl, trivial⟩ ?_
                      refine WX.next ?_
                      refine WC.cond rfl (ev_t rfl) (fun hc14 => ?_) (fun hc14 => ?_)
                      · try (exfalso; first | (simp at hc14; done) | (simp only [decide_eq_true_eq, decide_eq_false_iff_not, Bool.not_eq_true', Bool.not_eq_false', Bool.not_eq_true, Bool.not_eq_false] at hc14; omega) | omega)
                        all_goals
                         try simp only [decide_eq_true_eq, decide_eq_false_iff_not, Bool.not_eq_true', Bool.not_eq_false', Bool.not_eq_true, Bool.not_eq_false, Option.isNone_none, Option.isNone_some, Option.isSome_none, Option.isSome_some, ne_eq, Decidable.not_not] at hc14
                         refine WC.exit ?_
                         refine WX.thenExit ?_
                         refine WX.blockHere ?_
                         refine WX.next ?_
                         refine WC.region ?_
                         refine WL.val rfl rfl rfl rfl (r_move rfl (ev_t rfl)) ?_
                         first | refine WL.val rfl rfl rfl rfl (r_addN rfl (ev_t rfl) ev_c (by simp only [inK]; omega)) ?_ | refine WL.val rfl rfl rfl rfl (r_add rfl (ev_t rfl) ev_c) ?_
                         refine WL.val rfl rfl rfl rfl (r_assign rfl (ev_t rfl)) ?_
                         refine WL.nil ?_
                         refine WX.keep [(0, _), (1, _), (5, _), (6, _), (7, _)] ⟨rfl, rfl, rfl, rfl, rfl, trivial⟩ ?_
                         refine WX.meet [(0, _), (1, _), (5, _), (6, _), (7, _)] ⟨rfl, rfl, rfl, rfl, rfl, trivial⟩ ?_
                         first | exact ⟨l.length - (i + 1), by omega, i + 1, m, _, _, by omega, rfl, hU, by omega, by first | exact hdl | simp, hs, hRw, (fun k hk => by have := hRl k hk; omega), rfl⟩ | exact ⟨l.length - (i + 1), by omega, i + 1, top, d, _, by omega, rfl, hU, htop, hdl, hs, hRw, (fun k hk => by have := hRl k hk; omega), rfl⟩
                      · try (exfalso; first | (simp at hc14; done) | (simp only [decide_eq_true_eq, decide_eq_false_iff_not, Bool.not_eq_true', Bool.not_eq_false', Bool.not_eq_true, Bool.not_eq_false] at hc14; omega) | omega)
                        all_goals
                         try simp only [decide_eq_true_eq, decide_eq_false_iff_not, Bool.not_eq_true', Bool.not_eq_false', Bool.not_eq_true, Bool.not_eq_false, Option.isNone_none, Option.isNone_some, Option.isSome_none, Option.isSome_some, ne_eq, Decidable.not_not] at hc14
                         refine WC.skip ?_
                         refine WX.next ?_
                         refine WC.seq ?_
                         refine WC.region ?_
                         refine WL.val rfl rfl rfl rfl (r_move rfl (ev_t rfl)) ?_
                         refine WL.val rfl rfl rfl rfl (r_move rfl (ev_t rfl)) ?_
                         refine WL.val rfl rfl rfl rfl (r_move rfl (ev_t rfl)) ?_
                         refine WL.cons (SO.call (Ask_ok hs (tok_lR (by omega) hid (by omega) (by first | exact hdl | simp)) hid (by omega)) rfl body_12 ⟨(ev_t rfl), (ev_t rfl), (ev_t rfl), trivial⟩ rfl rfl rfl rfl ?_)
                         rw [lR_ask (by omega), if_neg (by omega), if_neg (by omega), if_neg (by omega)]
                         rintro v w8 ⟨v10, rfl, hcl, hu8⟩
                         dsimp only at hcl
                         obtain ⟨A0, c0, rfl, hc00⟩ := Own.form hcl
                         have hs8 := hu8.size
                         replace hU := hU.trans hu8 (by first | exact (fun _ _ h => h) | exact (fun _ _ h => h.elim) | (intro k hl hk; (try simp only [At, New, Grow, From, No] at hk ⊢); omega) | (intro k hl hk; first | (have := hRw k hk; omega) | (simp only [At, New, Grow, From, No] at *; omega)))
                         replace hs := hs.upd hu8 (by first | exact (fun _ _ _ h => h) | (intro k hk hl hS; simp only [At] at hS; subst hS; have := hRl _ hk; omega))
                         refine WL.val rfl rfl rfl rfl (r_move rfl (ev_t rfl)) ?_
                         refine WL.val rfl rfl rfl rfl (r_extract rfl (ev_t rfl) rfl) ?_
                         refine WL.val rfl rfl rfl rfl (r_extract rfl (ev_t rfl) rfl) ?_
                         refine WL.val rfl rfl rfl rfl (r_assign rfl (ev_t rfl)) ?_
                         refine WL.val rfl rfl rfl rfl (r_assign rfl (ev_t rfl)) ?_
                         refine WL.nil ?_
                         refine WX.keep [(0, _), (1, _), (5, _), (6, _), (7, _), (9, _), (10, _), (11, _)] ⟨rfl, rfl, rfl, rfl, rfl, rfl, rfl, rfl, trivial⟩ ?_
                         refine WX.next ?_
                         refine WC.seq ?_
                         refine WC.region ?_
                         refine WL.val rfl rfl rfl rfl (r_move rfl (ev_t rfl)) ?_
                         refine WL.val rfl rfl rfl rfl (r_neq rfl (ev_t rfl) ev_c) ?_
                         refine WL.val rfl rfl rfl rfl (r_move rfl (ev_t rfl)) ?_
                         refine WL.cases 62 rfl (fun hb16_2 => ?_) (fun hb16_2 => ?_)
                         · try (exfalso; first | (simp at hb16_2; done) | (simp only [decide_eq_true_eq, decide_eq_false_iff_not, Bool.not_eq_true', Bool.not_eq_false', Bool.not_eq_true, Bool.not_eq_false] at hb16_2; omega) | omega)
                           all_goals
                            try simp only [decide_eq_true_eq, decide_eq_false_iff_not, Bool.not_eq_true', Bool.not_eq_false', Bool.not_eq_true, Bool.not_eq_false, Option.isNone_none, Option.isNone_some, Option.isSome_none, Option.isSome_some, ne_eq, Decidable.not_not] at hb16_2
                            refine WL.skip rfl rfl rfl ?_
                            refine WL.skip rfl rfl rfl ?_
                            refine WL.skip rfl rfl rfl ?_
                            refine WL.skip rfl rfl rfl ?_
                            refine WL.skip rfl rfl rfl ?_
                            refine WL.skip rfl rfl rfl ?_
                            refine WL.skip rfl rfl rfl ?_
                            refine WL.skip rfl rfl rfl ?_
                            refine WL.skip rfl rfl rfl ?_
                            refine WL.skip rfl rfl rfl ?_
                            refine WL.skip rfl rfl rfl ?_
                            refine WL.val rfl rfl rfl rfl (r_pickT rfl (ev_t rfl) ev_c) ?_
                            refine WL.nil ?_
                            refine WX.keep [(0, _), (1, _), (5, _), (6, _), (7, _), (74, _)] ⟨rfl, rfl, rfl, rfl, rfl, rfl, trivial⟩ ?_
                            refine WX.next ?_
                            refine WC.cond_true rfl (ev_t rfl) ?_
                            refine WC.seq ?_
                            refine WC.region ?_
                            refine WL.val rfl rfl rfl rfl (r_assign rfl ev_c) ?_
                            refine WL.nil ?_
                            refine WX.keep [(4, _)] ⟨rfl, trivial⟩ ?_
                            refine WX.next ?_
                            refine WC.ret ?_
                            refine WX.blockRet ?_
                            refine WX.thenRet ?_
                            refine WX.thenRet ?_
                            refine WX.blockRet ?_
                            refine WX.thenRet ?_
                            refine WX.retE1 rfl rfl ?_
                            first
                              | exact ⟨rfl, hU⟩
                              | exact ⟨by simp, hU⟩
                         · try (exfalso; first | (simp at hb16_2; done) | (simp only [decide_eq_true_eq, decide_eq_false_iff_not, Bool.not_eq_true', Bool.not_eq_false', Bool.not_eq_true, Bool.not_eq_false] at hb16_2; omega) | omega)
                           all_goals
                            try simp only [decide_eq_true_eq, decide_eq_false_iff_not, Bool.not_eq_true', Bool.not_eq_false', Bool.not_eq_true, Bool.not_eq_false, Option.isNone_none, Option.isNone_some, Option.isSome_none, Option.isSome_some, ne_eq, Decidable.not_not] at hb16_2
                            refine WL.val rfl rfl rfl rfl (r_move rfl (ev_t rfl)) ?_
                            refine WL.val rfl rfl rfl rfl (r_eql rfl (ev_t rfl) ev_c) ?_
                            refine WL.val rfl rfl rfl rfl (r_move rfl (ev_t rfl)) ?_
                            refine WL.cases 65 rfl (fun hb16_5 => ?_) (fun hb16_5 => ?_)
                            · try (exfalso; first | (simp at hb16_5; done) | (simp only [decide_eq_true_eq, decide_eq_false_iff_not, Bool.not_eq_true', Bool.not_eq_false', Bool.not_eq_true, Bool.not_eq_false] at hb16_5; omega) | omega)
                              all_goals
                               try simp only [decide_eq_true_eq, decide_eq_false_iff_not, Bool.not_eq_true', Bool.not_eq_false', Bool.not_eq_true, Bool.not_eq_false, Option.isNone_none, Option.isNone_some, Option.isSome_none, Option.isSome_some, ne_eq, Decidable.not_not] at hb16_5
                               refine WL.val rfl rfl rfl rfl (r_move rfl (ev_t rfl)) ?_
                               refine WL.val rfl rfl rfl rfl (r_toStr rfl (ev_t rfl) (hcl.rd (by first | omega | simp)) elem_23 int_5 str_9) ?_
                               refine WL.val rfl rfl rfl rfl (r_move rfl (ev_t rfl)) ?_
                               first | refine WL.val rfl rfl rfl rfl (r_convN rfl (ev_t rfl) some_3 int_5 (by simp only [inK]; omega)) ?_ | refine WL.val rfl rfl rfl rfl (r_conv rfl (ev_t rfl) some_3 int_5) ?_
                               refine WL.cons (SO.alloc rfl rfl rfl rfl (r_buildSlice1 (vs := [_]) rfl ⟨(ev_t rfl), trivial⟩ rfl row_23 rfl rfl) ?_)
                               intro w9 hu9 hB9 hz9
                               have hs9 := hu9.size
                               replace hU := hU.trans hu9 (by first | exact (fun _ _ h => h) | exact (fun _ _ h => h.elim) | (intro k hl hk; (try simp only [At, New, Grow, From, No] at hk ⊢); omega) | (intro k hl hk; first | (have := hRw k hk; omega) | (simp only [At, New, Grow, From, No] at *; omega)))
                               replace hs := hs.upd hu9 (by first | exact (fun _ _ _ h => h) | (intro k hk hl hS; simp only [At] at hS; subst hS; have := hRl _ hk; omega))
                               replace hcl := hcl.upd hu9 (by first | exact (fun _ _ _ h => h) | (intro k hk hl hS; simp only [At, New, Grow, From, No] at *; omega))
                               have hu9 : (Value.int .u8 (i : Int)) = U8 (UInt8.ofNat i) := by simp only [U8, UInt8.toNat_ofNat']; congr 1; omega
                               rw [hu9] at hB9
                               refine WL.val rfl rfl rfl rfl (r_toStr rfl (ev_t rfl) (show Rd _ (At _) _ 1 1 ([UInt8.ofNat i].map U8) from Rd.of_blk (F := At _) (n := 1) (sz := 1) hB9 rfl rfl (by omega)) elem_23 int_5 str_9) ?_
                               refine WL.val rfl rfl rfl rfl (r_neqStrL rfl (ev_t rfl) (ev_t rfl)) ?_
                               refine WL.val rfl rfl rfl rfl (r_pickT rfl (ev_t rfl) (ev_t rfl)) ?_
                               refine WL.val rfl rfl rfl rfl (r_pickF rfl (ev_t rfl) (ev_t rfl)) ?_
                               refine WL.nil ?_
                               refine WX.keep [(0, _), (1, _), (5, _), (6, _), (7, _), (74, _)] ⟨rfl, rfl, rfl, rfl, rfl, rfl, trivial⟩ ?_
                               refine WX.next ?_
                               refine WC.cond rfl (ev_t rfl) (fun hc16 => ?_) (fun hc16 => ?_)
                               · try (exfalso; first | (simp at hc16; done) | (simp only [decide_eq_true_eq, decide_eq_false_iff_not, Bool.not_eq_true', Bool.not_eq_false', Bool.not_eq_true, Bool.not_eq_false] at hc16; omega) | omega)
                                 all_goals
                                  try simp only [decide_eq_true_eq, decide_eq_false_iff_not, Bool.not_eq_true', Bool.not_eq_false', Bool.not_eq_true, Bool.not_eq_false, Option.isNone_none, Option.isNone_some, Option.isSome_none, Option.isSome_some, ne_eq, Decidable.not_not] at hc16
                                  refine WC.seq ?_
                                  refine WC.region ?_
                                  refine WL.val rfl rfl rfl rfl (r_assign rfl ev_c) ?_
                                  refine WL.nil ?_
                                  refine WX.keep [(4, _)] ⟨rfl, trivial⟩ ?_
                                  refine WX.next ?_
                                  refine WC.ret ?_
                                  refine WX.blockRet ?_
                                  refine WX.thenRet ?_
                                  refine WX.thenRet ?_
                                  refine WX.blockRet ?_
                                  refine WX.thenRet ?_
                                  refine WX.retE1 rfl rfl ?_
                                  first
                                    | exact ⟨rfl, hU⟩
                                    | exact ⟨by simp, hU⟩
                               · try (exfalso; first | (simp at hc16; done) | (simp only [decide_eq_true_eq, decide_eq_false_iff_not, Bool.not_eq_true', Bool.not_eq_false', Bool.not_eq_true, Bool.not_eq_false] at hc16; omega) | omega)
                                 all_goals
                                  try simp only [decide_eq_true_eq, decide_eq_false_iff_not, Bool.not_eq_true', Bool.not_eq_false', Bool.not_eq_true, Bool.not_eq_false, Option.isNone_none, Option.isNone_some, Option.isSome_none, Option.isSome_some, ne_eq, Decidable.not_not] at hc16
                                  refine WC.skip ?_
                                  refine WX.blockNormal ?_
                                  refine WX.next ?_
                                  refine WC.region ?_
                                  refine WL.val rfl rfl rfl rfl (r_move rfl (ev_t rfl)) ?_
                                  first | refine WL.val rfl rfl rfl rfl (r_addN rfl (ev_t rfl) ev_c (by simp only [inK]; omega)) ?_ | refine WL.val rfl rfl rfl rfl (r_add rfl (ev_t rfl) ev_c) ?_
                                  refine WL.val rfl rfl rfl rfl (r_assign rfl (ev_t rfl)) ?_
                                  refine WL.nil ?_
                                  refine WX.keep [(0, _), (1, _), (5, _), (6, _), (7, _)] ⟨rfl, rfl, rfl, rfl, rfl, trivial⟩ ?_
                                  refine WX.meet [(0, _), (1, _), (5, _), (6, _), (7, _)] ⟨rfl, rfl, rfl, rfl, rfl, trivial⟩ ?_
                                  first | exact ⟨l.length - (i + 1), by omega, i + 1, m, _, _, by omega, rfl, hU, by omega, by first | exact hdl | simp, hs, hRw, (fun k hk => by have := hRl k hk; omega), rfl⟩ | exact ⟨l.length - (i + 1), by omega, i + 1, top, d, _, by omega, rfl, hU, htop, hdl, hs, hRw, (fun k hk => by have := hRl k hk; omega), rfl⟩
                            · try (exfalso; first | (simp at hb16_5; done) | (simp only [decide_eq_true_eq, decide_eq_false_iff_not, Bool.not_eq_true', Bool.not_eq_false', Bool.not_eq_true, Bool.not_eq_false] at hb16_5; omega) | omega)
                              all_goals
                               try simp only [decide_eq_true_eq, decide_eq_false_iff_not, Bool.not_eq_true', Bool.not_eq_false', Bool.not_eq_true, Bool.not_eq_false, Option.isNone_none, Option.isNone_some, Option.isSome_none, Option.isSome_some, ne_eq, Decidable.not_not] at hb16_5
                               refine WL.skip rfl rfl rfl ?_
                               refine WL.skip rfl rfl rfl ?_
                               refine WL.skip rfl rfl rfl ?_
                               refine WL.skip rfl rfl rfl ?_
                               refine WL.skip rfl rfl rfl ?_
                               refine WL.skip rfl rfl rfl ?_
                               refine WL.skip rfl rfl rfl ?_
                               refine WL.val rfl rfl rfl rfl (r_pickF rfl (ev_t rfl) ev_c) ?_
                               refine WL.val rfl rfl rfl rfl (r_pickF rfl (ev_t rfl) (ev_t rfl)) ?_
                               refine WL.nil ?_
                               refine WX.keep [(0, _), (1, _), (5, _), (6, _), (7, _), (74, _)] ⟨rfl, rfl, rfl, rfl, rfl, rfl, trivial⟩ ?_
                               refine WX.next ?_
                               refine WC.cond_false rfl (ev_t rfl) ?_
                               refine WC.skip ?_
                               refine WX.blockNormal ?_
                               refine WX.next ?_
                               refine WC.region ?_
                               refine WL.val rfl rfl rfl rfl (r_move rfl (ev_t rfl)) ?_
                               first | refine WL.val rfl rfl rfl rfl (r_addN rfl (ev_t rfl) ev_c (by simp only [inK]; omega)) ?_ | refine WL.val rfl rfl rfl rfl (r_add rfl (ev_t rfl) ev_c) ?_
                               refine WL.val rfl rfl rfl rfl (r_assign rfl (ev_t rfl)) ?_
                               refine WL.nil ?_
                               refine WX.keep [(0, _), (1, _), (5, _), (6, _), (7, _)] ⟨rfl, rfl, rfl, rfl, rfl, trivial⟩ ?_
                               refine WX.meet [(0, _), (1, _), (5, _), (6, _), (7, _)] ⟨rfl, rfl, rfl, rfl, rfl, trivial⟩ ?_
                               first | exact ⟨l.length - (i + 1), by omega, i + 1, m, _, _, by omega, rfl, hU, by omega, by first | exact hdl | simp, hs, hRw, (fun k hk => by have := hRl k hk; omega), rfl⟩ | exact ⟨l.length - (i + 1), by omega, i + 1, top, d, _, by omega, rfl, hU, htop, hdl, hs, hRw, (fun k hk => by have := hRl k hk; omega), rfl⟩
                   · try (exfalso; first | (simp at hc12; done) | (simp only [decide_eq_true_eq, decide_eq_false_iff_not, Bool.not_eq_true', Bool.not_eq_false', Bool.not_eq_true, Bool.not_eq_false] at hc12; omega) | omega)
                     all_goals
                      try simp only [decide_eq_true_eq, decide_eq_false_iff_not, Bool.not_eq_true', Bool.not_eq_false', Bool.not_eq_true, Bool.not_eq_false, Option.isNone_none, Option.isNone_some, Option.isSome_none, Option.isSome_some, ne_eq, Decidable.not_not] at hc12
                      have htn : ¬ top < m := fun h => by have := hc0.2 h; omega
                      rw [if_neg htn] at hs
                      refine WC.skip ?_
                      refine WX.next ?_
                      refine WC.seq ?_
                      refine WC.seq ?_
                      refine WC.region ?_
                      refine WL.val rfl rfl rfl rfl (r_move rfl (ev_t rfl)) ?_
                      refine WL.val rfl rfl rfl rfl (r_eql rfl (ev_t rfl) ev_c) ?_
                      refine WL.nil ?_
                      refine WX.keep [(0, _), (1, _), (5, _), (6, _), (7, _), (9, _), (52, _)] ⟨rfl, rfl, rfl, rfl, rfl, rfl, rfl, trivial⟩ ?_
                      refine WX.next ?_
                      refine WC.cond rfl (ev_t rfl) (fun hc14 => ?_) (fun hc14 => ?_)
                      · try (exfalso; first | (simp at hc14; done) | (simp only [decide_eq_true_eq, decide_eq_false_iff_not, Bool.not_eq_true', Bool.not_eq_false', Bool.not_eq_true, Bool.not_eq_false] at hc14; omega) | omega)
                        all_goals
                         try simp only [decide_eq_true_eq, decide_eq_false_iff_not, Bool.not_eq_true', Bool.not_eq_false', Bool.not_eq_true, Bool.not_eq_false, Option.isNone_none, Option.isNone_some, Option.isSome_none, Option.isSome_some, ne_eq, Decidable.not_not] at hc14
                         refine WC.exit ?_
                         refine WX.thenExit ?_
                         refine WX.blockHere ?_
                         refine WX.next ?_
                         refine WC.region ?_
                         refine WL.val rfl rfl rfl rfl (r_move rfl (ev_t rfl)) ?_
                         first | refine WL.val rfl rfl rfl rfl (r_addN rfl (ev_t rfl) ev_c (by simp only [inK]; omega)) ?_ | refine WL.val rfl rfl rfl rfl (r_add rfl (ev_t rfl) ev_c) ?_
                         refine WL.val rfl rfl rfl rfl (r_assign rfl (ev_t rfl)) ?_
                         refine WL.nil ?_
                         refine WX.keep [(0, _), (1, _), (5, _), (6, _), (7, _)] ⟨rfl, rfl, rfl, rfl, rfl, trivial⟩ ?_
                         refine WX.meet [(0, _), (1, _), (5, _), (6, _), (7, _)] ⟨rfl, rfl, rfl, rfl, rfl, trivial⟩ ?_
                         first | exact ⟨l.length - (i + 1), by omega, i + 1, m, _, _, by omega, rfl, hU, by omega, by first | exact hdl | simp, hs, hRw, (fun k hk => by have := hRl k hk; omega), rfl⟩ | exact ⟨l.length - (i + 1), by omega, i + 1, top, d, _, by omega, rfl, hU, htop, hdl, hs, hRw, (fun k hk => by have := hRl k hk; omega), rfl⟩
                      · try (exfalso; first | (simp at hc14; done) | (simp only [decide_eq_true_eq, decide_eq_false_iff_not, Bool.not_eq_true', Bool.not_eq_false', Bool.not_eq_true, Bool.not_eq_false] at hc14; omega) | omega)
                        all_goals
                         try simp only [decide_eq_true_eq, decide_eq_false_iff_not, Bool.not_eq_true', Bool.not_eq_false', Bool.not_eq_true, Bool.not_eq_false, Option.isNone_none, Option.isNone_some, Option.isSome_none, Option.isSome_some, ne_eq, Decidable.not_not] at hc14
                         refine WC.skip ?_
                         refine WX.next ?_
                         refine WC.seq ?_
                         refine WC.region ?_
                         refine WL.val rfl rfl rfl rfl (r_move rfl (ev_t rfl)) ?_
                         refine WL.val rfl rfl rfl rfl (r_move rfl (ev_t rfl)) ?_
                         refine WL.val rfl rfl rfl rfl (r_move rfl (ev_t rfl)) ?_
                         refine WL.cons (SO.call (Ask_ok hs (tok_lR (by omega) hid (by omega) (by first | exact hdl | simp)) hid (by omega)) rfl body_12 ⟨(ev_t rfl), (ev_t rfl), (ev_t rfl), trivial⟩ rfl rfl rfl rfl ?_)
                         rw [lR_ask (by omega), if_neg (by omega), if_neg (by omega), if_neg (by omega)]
                         rintro v w10 ⟨v10, rfl, hcl, hu10⟩
                         dsimp only at hcl
                         obtain ⟨A0, c0, rfl, hc00⟩ := Own.form hcl
                         have hs10 := hu10.size
                         replace hU := hU.trans hu10 (by first | exact (fun _ _ h => h) | exact (fun _ _ h => h.elim) | (intro k hl hk; (try simp only [At, New, Grow, From, No] at hk ⊢); omega) | (intro k hl hk; first | (have := hRw k hk; omega) | (simp only [At, New, Grow, From, No] at *; omega)))
                         replace hs := hs.upd hu10 (by first | exact (fun _ _ _ h => h) | (intro k hk hl hS; simp only [At] at hS; subst hS; have := hRl _ hk; omega))
                         refine WL.val rfl rfl rfl rfl (r_move rfl (ev_t rfl)) ?_
                         refine WL.val rfl rfl rfl rfl (r_extract rfl (ev_t rfl) rfl) ?_
                         refine WL.val rfl rfl rfl rfl (r_extract rfl (ev_t rfl) rfl) ?_
                         refine WL.val rfl rfl rfl rfl (r_assign rfl (ev_t rfl)) ?_
                         refine WL.val rfl rfl rfl rfl (r_assign rfl (ev_t rfl)) ?_
                         refine WL.nil ?_
                         refine WX.keep [(0, _), (1, _), (5, _), (6, _), (7, _), (9, _), (10, _), (11, _)] ⟨rfl, rfl, rfl, rfl, rfl, rfl, rfl, rfl, trivial⟩ ?_
                         refine WX.next ?_
                         refine WC.seq ?_
                         refine WC.region ?_
                         refine WL.val rfl rfl rfl rfl (r_move rfl (ev_t rfl)) ?_
                         refine WL.val rfl rfl rfl rfl (r_neq rfl (ev_t rfl) ev_c) ?_
                         refine WL.val rfl rfl rfl rfl (r_move rfl (ev_t rfl)) ?_
                         refine WL.cases 62 rfl (fun hb16_2 => ?_) (fun hb16_2 => ?_)
                         · try (exfalso; first | (simp at hb16_2; done) | (simp only [decide_eq_true_eq, decide_eq_false_iff_not, Bool.not_eq_true', Bool.not_eq_false', Bool.not_eq_true, Bool.not_eq_false] at hb16_2; omega) | omega)
                           all_goals
                            try simp only [decide_eq_true_eq, decide_eq_false_iff_not, Bool.not_eq_true', Bool.not_eq_false', Bool.not_eq_true, Bool.not_eq_false, Option.isNone_none, Option.isNone_some, Option.isSome_none, Option.isSome_some, ne_eq, Decidable.not_not] at hb16_2
                            refine WL.skip rfl rfl rfl ?_
                            refine WL.skip rfl rfl rfl ?_
                            refine WL.skip rfl rfl rfl ?_
                            refine WL.skip rfl rfl rfl ?_
                            refine WL.skip rfl rfl rfl ?_
                            refine WL.skip rfl rfl rfl ?_
                            refine WL.skip rfl rfl rfl ?_
                            refine WL.skip rfl rfl rfl ?_
                            refine WL.skip rfl rfl rfl ?_
                            refine WL.skip rfl rfl rfl ?_
                            refine WL.skip rfl rfl rfl ?_
                            refine WL.val rfl rfl rfl rfl (r_pickT rfl (ev_t rfl) ev_c) ?_
                            refine WL.nil ?_
                            refine WX.keep [(0, _), (1, _), (5, _), (6, _), (7, _), (74, _)] ⟨rfl, rfl, rfl, rfl, rfl, rfl, trivial⟩ ?_
                            refine WX.next ?_
                            refine WC.cond_true rfl (ev_t rfl) ?_
                            refine WC.seq ?_
                            refine WC.region ?_
                            refine WL.val rfl rfl rfl rfl (r_assign rfl ev_c) ?_
                            refine WL.nil ?_
                            refine WX.keep [(4, _)] ⟨rfl, trivial⟩ ?_
                            refine WX.next ?_
                            refine WC.ret ?_
                            refine WX.blockRet ?_
                            refine WX.thenRet ?_
                            refine WX.thenRet ?_
                            refine WX.blockRet ?_
                            refine WX.thenRet ?_
                            refine WX.retE1 rfl rfl ?_
                            first
                              | exact ⟨rfl, hU⟩
                              | exact ⟨by simp, hU⟩
                         · try (exfalso; first | (simp at hb16_2; done) | (simp only [decide_eq_true_eq, decide_eq_false_iff_not, Bool.not_eq_true', Bool.not_eq_false', Bool.not_eq_true, Bool.not_eq_false] at hb16_2; omega) | omega)
                           all_goals
                            try simp only [decide_eq_true_eq, decide_eq_false_iff_not, Bool.not_eq_true', Bool.not_eq_false', Bool.not_eq_true, Bool.not_eq_false, Option.isNone_none, Option.isNone_some, Option.isSome_none, Option.isSome_some, ne_eq, Decidable.not_not] at hb16_2
                            refine WL.val rfl rfl rfl rfl (r_move rfl (ev_t rfl)) ?_
                            refine WL.val rfl rfl rfl rfl (r_eql rfl (ev_t rfl) ev_c) ?_
                            refine WL.val rfl rfl rfl rfl (r_move rfl (ev_t rfl)) ?_
                            refine WL.cases 65 rfl (fun hb16_5 => ?_) (fun hb16_5 => ?_)
                            · try (exfalso; first | (simp at hb16_5; done) | (simp only [decide_eq_true_eq, decide_eq_false_iff_not, Bool.not_eq_true', Bool.not_eq_false', Bool.not_eq_true, Bool.not_eq_false] at hb16_5; omega) | omega)
                              all_goals
                               try simp only [decide_eq_true_eq, decide_eq_false_iff_not, Bool.not_eq_true', Bool.not_eq_false', Bool.not_eq_true, Bool.not_eq_false, Option.isNone_none, Option.isNone_some, Option.isSome_none, Option.isSome_some, ne_eq, Decidable.not_not] at hb16_5
                               refine WL.val rfl rfl rfl rfl (r_move rfl (ev_t rfl)) ?_
                               refine WL.val rfl rfl rfl rfl (r_toStr rfl (ev_t rfl) (hcl.rd (by first | omega | simp)) elem_23 int_5 str_9) ?_
                               refine WL.val rfl rfl rfl rfl (r_move rfl (ev_t rfl)) ?_
                               first | refine WL.val rfl rfl rfl rfl (r_convN rfl (ev_t rfl) some_3 int_5 (by simp only [inK]; omega)) ?_ | refine WL.val rfl rfl rfl rfl (r_conv rfl (ev_t rfl) some_3 int_5) ?_
                               refine WL.cons (SO.alloc rfl rfl rfl rfl (r_buildSlice1 (vs := [_]) rfl ⟨(ev_t rfl), trivial⟩ rfl row_23 rfl rfl) ?_)
                               intro w11 hu11 hB11 hz11
                               have hs11 := hu11.size
                               replace hU := hU.trans hu11 (by first | exact (fun _ _ h => h) | exact (fun _ _ h => h.elim) | (intro k hl hk; (try simp only [At, New, Grow, From, No] at hk ⊢); omega) | (intro k hl hk; first | (have := hRw k hk; omega) | (simp only [At, New, Grow, From, No] at *; omega)))
                               replace hs := hs.upd hu11 (by first | exact (fun _ _ _ h => h) | (intro k hk hl hS; simp only [At] at hS; subst hS; have := hRl _ hk; omega))
                               replace hcl := hcl.upd hu11 (by first | exact (fun _ _ _ h => h) | (intro k hk hl hS; simp only [At, New, Grow, From, No] at *; omega))
                               have hu9 : (Value.int .u8 (i : Int)) = U8 (UInt8.ofNat i) := by simp only [U8, UInt8.toNat_ofNat']; congr 1; omega
                               rw [hu9] at hB11
                               refine WL.val rfl rfl rfl rfl (r_toStr rfl (ev_t rfl) (show Rd _ (At _) _ 1 1 ([UInt8.ofNat i].map U8) from Rd.of_blk (F := At _) (n := 1) (sz := 1) hB11 rfl rfl (by omega)) elem_23 int_5 str_9) ?_
                               refine WL.val rfl rfl rfl rfl (r_neqStrL rfl (ev_t rfl) (ev_t rfl)) ?_
                               refine WL.val rfl rfl rfl rfl (r_pickT rfl (ev_t rfl) (ev_t rfl)) ?_
                               refine WL.val rfl rfl rfl rfl (r_pickF rfl (ev_t rfl) (ev_t rfl)) ?_
                               refine WL.nil ?_
                               refine WX.keep [(0, _), (1, _), (5, _), (6, _), (7, _), (74, _)] ⟨rfl, rfl, rfl, rfl, rfl, rfl, trivial⟩ ?_
                               refine WX.next ?_
                               refine WC.cond rfl (ev_t rfl) (fun hc16 => ?_) (fun hc16 => ?_)
                               · try (exfalso; first | (simp at hc16; done) | (simp only [decide_eq_true_eq, decide_eq_false_iff_not, Bool.not_eq_true', Bool.not_eq_false', Bool.not_eq_true, Bool.not_eq_false] at hc16; omega) | omega)
                                 all_goals
                                  try simp only [decide_eq_true_eq, decide_eq_false_iff_not, Bool.not_eq_true', Bool.not_eq_false', Bool.not_eq_true, Bool.not_eq_false, Option.isNone_none, Option.isNone_some, Option.isSome_none, Option.isSome_some, ne_eq, Decidable.not_not] at hc16
                                  refine WC.seq ?_
                                  refine WC.region ?_
                                  refine WL.val rfl rfl rfl rfl (r_assign rfl ev_c) ?_
                                  refine WL.nil ?_
                                  refine WX.keep [(4, _)] ⟨rfl, trivial⟩ ?_
                                  refine WX.next ?_
                                  refine WC.ret ?_
                                  refine WX.blockRet ?_
                                  refine WX.thenRet ?_
                                  refine WX.thenRet ?_
                                  refine WX.blockRet ?_
                                  refine WX.thenRet ?_
                                  refine WX.retE1 rfl rfl ?_
                                  first
                                    | exact ⟨rfl, hU⟩
                                    | exact ⟨by simp, hU⟩
                               · try (exfalso; first | (simp at hc16; done) | (simp only [decide_eq_true_eq, decide_eq_false_iff_not, Bool.not_eq_true', Bool.not_eq_false', Bool.not_eq_true, Bool.not_eq_false] at hc16; omega) | omega)
                                 all_goals
                                  try simp only [decide_eq_true_eq, decide_eq_false_iff_not, Bool.not_eq_true', Bool.not_eq_false', Bool.not_eq_true, Bool.not_eq_false, Option.isNone_none, Option.isNone_some, Option.isSome_none, Option.isSome_some, ne_eq, Decidable.not_not] at hc16
                                  refine WC.skip ?_
                                  refine WX.blockNormal ?_
                                  refine WX.next ?_
                                  refine WC.region ?_
                                  refine WL.val rfl rfl rfl rfl (r_move rfl (ev_t rfl)) ?_
                                  first | refine WL.val rfl rfl rfl rfl (r_addN rfl (ev_t rfl) ev_c (by simp only [inK]; omega)) ?_ | refine WL.val rfl rfl rfl rfl (r_add rfl (ev_t rfl) ev_c) ?_
                                  refine WL.val rfl rfl rfl rfl (r_assign rfl (ev_t rfl)) ?_
                                  refine WL.nil ?_
                                  refine WX.keep [(0, _), (1, _), (5, _), (6, _), (7, _)] ⟨rfl, rfl, rfl, rfl, rfl, trivial⟩ ?_
                                  refine WX.meet [(0, _), (1, _), (5, _), (6, _), (7, _)] ⟨rfl, rfl, rfl, rfl, rfl, trivial⟩ ?_
                                  first | exact ⟨l.length - (i + 1), by omega, i + 1, m, _, _, by omega, rfl, hU, by omega, by first | exact hdl | simp, hs, hRw, (fun k hk => by have := hRl k hk; omega), rfl⟩ | exact ⟨l.length - (i + 1), by omega, i + 1, top, d, _, by omega, rfl, hU, htop, hdl, hs, hRw, (fun k hk => by have := hRl k hk; omega), rfl⟩
                            · try (exfalso; first | (simp at hb16_5; done) | (simp only [decide_eq_true_eq, decide_eq_false_iff_not, Bool.not_eq_true', Bool.not_eq_false', Bool.not_eq_true, Bool.not_eq_false] at hb16_5; omega) | omega)
                              all_goals
                               try simp only [decide_eq_true_eq, decide_eq_false_iff_not, Bool.not_eq_true', Bool.not_eq_false', Bool.not_eq_true, Bool.not_eq_false, Option.isNone_none, Option.isNone_some, Option.isSome_none, Option.isSome_some, ne_eq, Decidable.not_not] at hb16_5
                               refine WL.skip rfl rfl rfl ?_
                               refine WL.skip rfl rfl rfl ?_
                               refine WL.skip rfl rfl rfl ?_
                               refine WL.skip rfl rfl rfl ?_
                               refine WL.skip rfl rfl rfl ?_
                               refine WL.skip rfl rfl rfl ?_
                               refine WL.skip rfl rfl rfl ?_
                               refine WL.val rfl rfl rfl rfl (r_pickF rfl (ev_t rfl) ev_c) ?_
                               refine WL.val rfl rfl rfl rfl (r_pickF rfl (ev_t rfl) (ev_t rfl)) ?_
                               refine WL.nil ?_
                               refine WX.keep [(0, _), (1, _), (5, _), (6, _), (7, _), (74, _)] ⟨rfl, rfl, rfl, rfl, rfl, rfl, trivial⟩ ?_
                               refine WX.next ?_
                               refine WC.cond_false rfl (ev_t rfl) ?_
                               refine WC.skip ?_
                               refine WX.blockNormal ?_
                               refine WX.next ?_
                               refine WC.region ?_
                               refine WL.val rfl rfl rfl rfl (r_move rfl (ev_t rfl)) ?_
                               first | refine WL.val rfl rfl rfl rfl (r_addN rfl (ev_t rfl) ev_c (by simp only [inK]; omega)) ?_ | refine WL.val rfl rfl rfl rfl (r_add rfl (ev_t rfl) ev_c) ?_
                               refine WL.val rfl rfl rfl rfl (r_assign rfl (ev_t rfl)) ?_
                               refine WL.nil ?_
                               refine WX.keep [(0, _), (1, _), (5, _), (6, _), (7, _)] ⟨rfl, rfl, rfl, rfl, rfl, trivial⟩ ?_
                               refine WX.meet [(0, _), (1, _), (5, _), (6, _), (7, _)] ⟨rfl, rfl, rfl, rfl, rfl, trivial⟩ ?_
                               first | exact ⟨l.length - (i + 1), by omega, i + 1, m, _, _, by omega, rfl, hU, by omega, by first | exact hdl | simp, hs, hRw, (fun k hk => by have := hRl k hk; omega), rfl⟩ | exact ⟨l.length - (i + 1), by omega, i + 1, top, d, _, by omega, rfl, hU, htop, hdl, hs, hRw, (fun k hk => by have := hRl k hk; omega), rfl⟩
             · try (exfalso; first | (simp at hc6; done) | (simp only [decide_eq_true_eq, decide_eq_false_iff_not, Bool.not_eq_true', Bool.not_eq_false', Bool.not_eq_true, Bool.not_eq_false] at hc6; omega) | omega)
               all_goals
                try simp only [decide_eq_true_eq, decide_eq_false_iff_not, Bool.not_eq_true', Bool.not_eq_false', Bool.not_eq_true, Bool.not_eq_false, Option.isNone_none, Option.isNone_some, Option.isSome_none, Option.isSome_some, ne_eq, Decidable.not_not] at hc6
                refine WC.exit ?_
                refine WX.thenExit ?_
                refine WX.thenExit ?_
                refine WX.blockHere ?_
                refine WX.next ?_
                refine WC.seq ?_
                refine WC.region ?_
                refine WL.val rfl rfl rfl rfl (r_assign rfl ev_c) ?_
                refine WL.nil ?_
                refine WX.keep [(4, _)] ⟨rfl, trivial⟩ ?_
                refine WX.next ?_
                refine WC.ret ?_
                refine WX.retE1 rfl rfl ?_
                first
                  | exact ⟨rfl, hU⟩
                  | exact ⟨by simp, hU⟩
end Go.Proofs.Ytipabhbnljadfaa
