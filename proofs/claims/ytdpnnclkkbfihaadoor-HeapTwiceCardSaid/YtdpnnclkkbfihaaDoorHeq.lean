/-
  heap: Collect.
-/
import Derived.Test.YtdpnnclkkbfihaaDoorHeW
namespace Go.Proofs.YtdpnnclkkbfihaaDoor
open Go
set_option linter.unusedSimpArgs false
set_option linter.unusedVariables false

set_option maxHeartbeats 4000000 in
theorem collect_ok {w : World} {G R : Nat → Prop} {p : Nat} {A : Option Addr} {c : Nat} {mem st xs : List Nat} {q n : Nat} {vR : Value} {rl : List (Nat × Nat)} (hH : HS w G p A c mem q n) (hn : n + 1 ≤ 1000000000) (hv : Vd mem st)
    (hR : Rd w R vR rl.length 1 (rl.map ptrV)) (hnd : rl.Nodup) (h0 : Roots w w rl xs) (hb0 : ∀ e ∈ rl, ∃ cs, Blk w e.1 cs tWord) (hpG : ∀ e ∈ rl, ¬ G e.1) (hRa : ∀ k, R k → ∀ o, (k, o) ∉ rl) (hRl : ∀ k, R k → k < w.heap.size) (hRp : ¬ R p)
    (hx : ∀ x ∈ xs, x < 18446744073709551616 ∧ (x % 2 = 1 ∨ x / 2 ∈ st)) (hrl : rl.length ≤ 1000000) :
    Ret Tryd.prog 14 #[.pointer (some ⟨p, 0, none⟩), vR] w fun _ w' => ∃ (fin to mv : List Nat) (bt : Nat), Bfs mem 0 (xs.foldl come []) fin ∧ (∃ r, fin = xs.foldl come [] ++ r) ∧ PI mem st fin to mv to.length ∧ HS w' (At bt) p (some ⟨bt, 0, none⟩) mem.length to q (n + 1) ∧ w.heap.size ≤ bt ∧ Roots w w' rl (xs.map (there mem fin)) ∧ Upd (fun k => k = p ∨ ∃ o, (k, o) ∈ rl) w w' := by
  have hlp := hH.hd.lt
  have hle := hH.le
  have hhd := hH.hd
  have hlG := hH.lt
  have hnG := hH.ne
  have hro := hH.ow.rd (by omega)
  have hxl := h0.len
  obtain ⟨AR, cR, rfl, hcR⟩ := hR.slice_form
  have hrb : ∀ k, (∃ o, (k, o) ∈ rl) → k < w.heap.size ∧ k ≠ p ∧ ¬ G k := fun k ⟨o, ho⟩ => by
    obtain ⟨cs, h1⟩ := hb0 _ ho
    exact ⟨h1.lt, fun e => (h1.ne hhd (by decide)) e, hpG _ ho⟩
  generalize hB : w.heap.size = B at *
  refine enterRet (vs := [_, _]) (N := 79) Tryd.func14 rfl rfl rfl ?_
  have hU := Upd.refl (fun k => k = p ∨ ∃ o, (k, o) ∈ rl) w
  refine WC.keep [(0, _), (1, _)] ⟨rfl, rfl, trivial⟩ ?_
  refine WC.seq ?_
  refine WC.seq ?_
  refine WC.region ?_
  refine WL.val rfl rfl rfl rfl (r_move rfl (ev_t rfl)) ?_
  refine WL.val rfl rfl rfl rfl (r_eqlPtrNil rfl (ev_t rfl) ev_c ptr_26) ?_
  refine WL.nil ?_
  refine WX.keep [(0, _), (1, _), (13, _)] ⟨rfl, rfl, rfl, trivial⟩ ?_
  refine WX.next ?_
  refine WC.cond rfl (ev_t rfl) (fun hc0 => ?_) (fun hc0 => ?_)
  · try (exfalso; first | (simp at hc0; done) | (simp only [decide_eq_true_eq, decide_eq_false_iff_not, Bool.not_eq_true', Bool.not_eq_false', Bool.not_eq_true, Bool.not_eq_false] at hc0; omega) | omega)
    all_goals
     try simp only [decide_eq_true_eq, decide_eq_false_iff_not, Bool.not_eq_true', Bool.not_eq_false', Bool.not_eq_true, Bool.not_eq_false, Option.isNone_none, Option.isNone_some, Option.isSome_none, Option.isSome_some, ne_eq, Decidable.not_not] at hc0
     refine WC.ret ?_
     refine WX.thenRet ?_
     refine WX.retE (l := []) (vs := []) rfl trivial ?_
     fail
  · try (exfalso; first | (simp at hc0; done) | (simp only [decide_eq_true_eq, decide_eq_false_iff_not, Bool.not_eq_true', Bool.not_eq_false', Bool.not_eq_true, Bool.not_eq_false] at hc0; omega) | omega)
    all_goals
     try simp only [decide_eq_true_eq, decide_eq_false_iff_not, Bool.not_eq_true', Bool.not_eq_false', Bool.not_eq_true, Bool.not_eq_false, Option.isNone_none, Option.isNone_some, Option.isSome_none, Option.isSome_some, ne_eq, Decidable.not_not] at hc0
     refine WC.skip ?_
     refine WX.next ?_
     refine WC.seq ?_
     refine WC.region ?_
     refine WL.val rfl rfl rfl rfl (r_move rfl (ev_t rfl)) ?_
     refine WL.val rfl rfl rfl rfl (r_nilCheck rfl (ev_t rfl)) ?_
     first | refine WL.val rfl rfl rfl rfl (r_field0 rfl (ev_t rfl) fld_79_0) ?_ | refine WL.val rfl rfl rfl rfl (r_fieldAt rfl (ev_t rfl) fld_79_0) ?_
     refine WL.val rfl rfl rfl rfl (r_load rfl (ev_t rfl) flat_30 (Blk.cell hhd rfl)) ?_
     refine WL.cons (SO.alloc rfl rfl rfl rfl (r_alloc rfl zero_30) ?_)
     intro w1 hu1 hB1 hz1
     have hs1 := hu1.size
     replace hU := hU.trans hu1 (by first | exact (fun _ _ h => h) | exact (fun _ _ h => h.elim) | (intro k hl hk; (try simp only [At, New, Grow, From, No] at hk ⊢); omega) | (intro k hl hk; first | exact (show False from hk).elim | (simp only [At] at hk; first | exact .inl hk | (exfalso; omega)) | exact hSS k hl hk))
     replace hhd := hhd.upd hu1 (fun hS => by first | exact (show False from hS) | (simp only [At] at hS; omega) | (change p = ct ∨ p = bm ∨ p = bt ∨ p = b at hS; omega) | (change p = ct ∨ p = bm ∨ p = bt ∨ p = bt at hS; omega))
     replace hro := hro.upd hu1 (fun k hk hl hS => by first | exact (show False from hS).elim | (simp only [At] at hS; have := hlG k hk; omega))
     replace hR := hR.upd hu1 (fun k hk hl hS => by first | exact (show False from hS).elim | (simp only [At] at hS; have := hRl k hk; omega) | (simp only [At] at hS; subst hS; exact hRp hk) | (change k = ct ∨ k = bm ∨ k = bt ∨ k = b at hS; have h8 := hRl k hk; have h9 : k = b := (by omega); exact hRa k hk o (by rw [h9]; exact List.mem_of_getElem? hej)))
     replace h0 := h0.upd hu1 (fun k hk hl hS => by have h8 := hrb k hk; first | exact (show False from hS).elim | (simp only [At] at hS; omega) | (change k = ct ∨ k = bm ∨ k = bt ∨ k = bt at hS; omega))
     refine WL.cons (SO.store rfl (ev_t rfl) (ev_t rfl) size_30 hB1 rfl rfl rfl rfl rfl ?_)
     intro w2 hu2 hB1 hz2
     have hs2 := hu2.size
     replace hU := hU.trans hu2 (by first | exact (fun _ _ h => h) | exact (fun _ _ h => h.elim) | (intro k hl hk; (try simp only [At, New, Grow, From, No] at hk ⊢); omega) | (intro k hl hk; first | exact (show False from hk).elim | (simp only [At] at hk; first | exact .inl hk | (exfalso; omega)) | exact hSS k hl hk))
     replace hhd := hhd.upd hu2 (fun hS => by first | exact (show False from hS) | (simp only [At] at hS; omega) | (change p = ct ∨ p = bm ∨ p = bt ∨ p = b at hS; omega) | (change p = ct ∨ p = bm ∨ p = bt ∨ p = bt at hS; omega))
     replace hro := hro.upd hu2 (fun k hk hl hS => by first | exact (show False from hS).elim | (simp only [At] at hS; have := hlG k hk; omega))
     replace hR := hR.upd hu2 (fun k hk hl hS => by first | exact (show False from hS).elim | (simp only [At] at hS; have := hRl k hk; omega) | (simp only [At] at hS; subst hS; exact hRp hk) | (change k = ct ∨ k = bm ∨ k = bt ∨ k = b at hS; have h8 := hRl k hk; have h9 : k = b := (by omega); exact hRa k hk o (by rw [h9]; exact List.mem_of_getElem? hej)))
     replace h0 := h0.upd hu2 (fun k hk hl hS => by have h8 := hrb k hk; first | exact (show False from hS).elim | (simp only [At] at hS; omega) | (change k = ct ∨ k = bm ∨ k = bt ∨ k = bt at hS; omega))
     refine WL.nil ?_
     refine WX.keep [(0, _), (1, _), (4, _)] ⟨rfl, rfl, rfl, trivial⟩ ?_
     have hb4 := hB1
     refine WX.next ?_
     refine WC.seq ?_
     refine WC.region ?_
     refine WL.val rfl rfl rfl rfl (r_load rfl (ev_t rfl) flat_30 (Blk.cell hb4 rfl)) ?_
     refine WL.val rfl rfl rfl rfl (r_lenSlice (ts := #[]) rfl (ev_t rfl) elem_30) ?_
     refine WL.cons (SO.alloc rfl rfl rfl rfl (r_makeSliceC (l := 0) (n := mem.length) rfl ev_c (ev_t rfl) (Nat.zero_le _) row_30 (by omega) (by omega)) ?_)
     intro w3 hu3 hq hzm
     obtain ⟨bt, hbt⟩ : ∃ g, g = w2.heap.size := ⟨_, rfl⟩
     rw [← hbt] at hq ⊢
     have hs3 := hu3.size
     replace hU := hU.trans hu3 (by first | exact (fun _ _ h => h) | exact (fun _ _ h => h.elim) | (intro k hl hk; (try simp only [At, New, Grow, From, No] at hk ⊢); omega) | (intro k hl hk; first | exact (show False from hk).elim | (simp only [At] at hk; first | exact .inl hk | (exfalso; omega)) | exact hSS k hl hk))
     replace hhd := hhd.upd hu3 (fun hS => by first | exact (show False from hS) | (simp only [At] at hS; omega) | (change p = ct ∨ p = bm ∨ p = bt ∨ p = b at hS; omega) | (change p = ct ∨ p = bm ∨ p = bt ∨ p = bt at hS; omega))
     replace hro := hro.upd hu3 (fun k hk hl hS => by first | exact (show False from hS).elim | (simp only [At] at hS; have := hlG k hk; omega))
     replace hR := hR.upd hu3 (fun k hk hl hS => by first | exact (show False from hS).elim | (simp only [At] at hS; have := hRl k hk; omega) | (simp only [At] at hS; subst hS; exact hRp hk) | (change k = ct ∨ k = bm ∨ k = bt ∨ k = b at hS; have h8 := hRl k hk; have h9 : k = b := (by omega); exact hRa k hk o (by rw [h9]; exact List.mem_of_getElem? hej)))
     replace h0 := h0.upd hu3 (fun k hk hl hS => by have h8 := hrb k hk; first | exact (show False from hS).elim | (simp only [At] at hS; omega) | (change k = ct ∨ k = bm ∨ k = bt ∨ k = bt at hS; omega))
     replace hb4 := hb4.upd hu3 (fun hS => by first | exact (show False from hS) | (simp only [At] at hS; omega))
     refine WL.cons (SO.alloc rfl rfl rfl rfl (r_alloc rfl zero_30) ?_)
     intro w4 hu4 hB4 hz4
     have hs4 := hu4.size
     replace hU := hU.trans hu4 (by first | exact (fun _ _ h => h) | exact (fun _ _ h => h.elim) | (intro k hl hk; (try simp only [At, New, Grow, From, No] at hk ⊢); omega) | (intro k hl hk; first | exact (show False from hk).elim | (simp only [At] at hk; first | exact .inl hk | (exfalso; omega)) | exact hSS k hl hk))
     replace hhd := hhd.upd hu4 (fun hS => by first | exact (show False from hS) | (simp only [At] at hS; omega) | (change p = ct ∨ p = bm ∨ p = bt ∨ p = b at hS; omega) | (change p = ct ∨ p = bm ∨ p = bt ∨ p = bt at hS; omega))
     replace hro := hro.upd hu4 (fun k hk hl hS => by first | exact (show False from hS).elim | (simp only [At] at hS; have := hlG k hk; omega))
     replace hR := hR.upd hu4 (fun k hk hl hS => by first | exact (show False from hS).elim | (simp only [At] at hS; have := hRl k hk; omega) | (simp only [At] at hS; subst hS; exact hRp hk) | (change k = ct ∨ k = bm ∨ k = bt ∨ k = b at hS; have h8 := hRl k hk; have h9 : k = b := (by omega); exact hRa k hk o (by rw [h9]; exact List.mem_of_getElem? hej)))
     replace h0 := h0.upd hu4 (fun k hk hl hS => by have h8 := hrb k hk; first | exact (show False from hS).elim | (simp only [At] at hS; omega) | (change k = ct ∨ k = bm ∨ k = bt ∨ k = bt at hS; omega))
     replace hb4 := hb4.upd hu4 (fun hS => by first | exact (show False from hS) | (simp only [At] at hS; omega))
     replace hq := hq.upd hu4 (fun hS => by first | exact (show False from hS).elim | (simp only [At] at *; omega))
     refine WL.cons (SO.store rfl (ev_t rfl) (ev_t rfl) size_30 hB4 rfl rfl rfl rfl rfl ?_)
     intro w5 hu5 hB4 hz5
     have hs5 := hu5.size
     replace hU := hU.trans hu5 (by first | exact (fun _ _ h => h) | exact (fun _ _ h => h.elim) | (intro k hl hk; (try simp only [At, New, Grow, From, No] at hk ⊢); omega) | (intro k hl hk; first | exact (show False from hk).elim | (simp only [At] at hk; first | exact .inl hk | (exfalso; omega)) | exact hSS k hl hk))
     replace hhd := hhd.upd hu5 (fun hS => by first | exact (show False from hS) | (simp only [At] at hS; omega) | (change p = ct ∨ p = bm ∨ p = bt ∨ p = b at hS; omega) | (change p = ct ∨ p = bm ∨ p = bt ∨ p = bt at hS; omega))
     replace hro := hro.upd hu5 (fun k hk hl hS => by first | exact (show False from hS).elim | (simp only [At] at hS; have := hlG k hk; omega))
     replace hR := hR.upd hu5 (fun k hk hl hS => by first | exact (show False from hS).elim | (simp only [At] at hS; have := hRl k hk; omega) | (simp only [At] at hS; subst hS; exact hRp hk) | (change k = ct ∨ k = bm ∨ k = bt ∨ k = b at hS; have h8 := hRl k hk; have h9 : k = b := (by omega); exact hRa k hk o (by rw [h9]; exact List.mem_of_getElem? hej)))
     replace h0 := h0.upd hu5 (fun k hk hl hS => by have h8 := hrb k hk; first | exact (show False from hS).elim | (simp only [At] at hS; omega) | (change k = ct ∨ k = bm ∨ k = bt ∨ k = bt at hS; omega))
     replace hb4 := hb4.upd hu5 (fun hS => by first | exact (show False from hS) | (simp only [At] at hS; omega))
     replace hq := hq.upd hu5 (fun hS => by first | exact (show False from hS).elim | (simp only [At] at *; omega))
     refine WL.nil ?_
     refine WX.keep [(0, _), (1, _), (4, _), (5, _)] ⟨rfl, rfl, rfl, rfl, trivial⟩ ?_
     have hb5 := hB4
     refine WX.next ?_
     refine WC.seq ?_
     refine WC.region ?_
     refine WL.val rfl rfl rfl rfl (r_load rfl (ev_t rfl) flat_30 (Blk.cell hb4 rfl)) ?_
     refine WL.val rfl rfl rfl rfl (r_lenSlice (ts := #[]) rfl (ev_t rfl) elem_30) ?_
     refine WL.cons (SO.alloc rfl rfl rfl rfl (r_makeSlice (n := mem.length) rfl (ev_t rfl) (ev_t rfl) row_30 (by omega) (by omega)) ?_)
     intro w6 hu6 hq2 hzn
     obtain ⟨bm, hbm⟩ : ∃ g, g = w5.heap.size := ⟨_, rfl⟩
     rw [← hbm] at hq2 ⊢
     have hs6 := hu6.size
     replace hU := hU.trans hu6 (by first | exact (fun _ _ h => h) | exact (fun _ _ h => h.elim) | (intro k hl hk; (try simp only [At, New, Grow, From, No] at hk ⊢); omega) | (intro k hl hk; first | exact (show False from hk).elim | (simp only [At] at hk; first | exact .inl hk | (exfalso; omega)) | exact hSS k hl hk))
     replace hhd := hhd.upd hu6 (fun hS => by first | exact (show False from hS) | (simp only [At] at hS; omega) | (change p = ct ∨ p = bm ∨ p = bt ∨ p = b at hS; omega) | (change p = ct ∨ p = bm ∨ p = bt ∨ p = bt at hS; omega))
     replace hro := hro.upd hu6 (fun k hk hl hS => by first | exact (show False from hS).elim | (simp only [At] at hS; have := hlG k hk; omega))
     replace hR := hR.upd hu6 (fun k hk hl hS => by first | exact (show False from hS).elim | (simp only [At] at hS; have := hRl k hk; omega) | (simp only [At] at hS; subst hS; exact hRp hk) | (change k = ct ∨ k = bm ∨ k = bt ∨ k = b at hS; have h8 := hRl k hk; have h9 : k = b := (by omega); exact hRa k hk o (by rw [h9]; exact List.mem_of_getElem? hej)))
     replace h0 := h0.upd hu6 (fun k hk hl hS => by have h8 := hrb k hk; first | exact (show False from hS).elim | (simp only [At] at hS; omega) | (change k = ct ∨ k = bm ∨ k = bt ∨ k = bt at hS; omega))
     replace hb4 := hb4.upd hu6 (fun hS => by first | exact (show False from hS) | (simp only [At] at hS; omega))
     replace hq := hq.upd hu6 (fun hS => by first | exact (show False from hS).elim | (simp only [At] at *; omega))
     replace hb5 := hb5.upd hu6 (fun hS => by first | exact (show False from hS) | (simp only [At] at hS; omega))
     refine WL.cons (SO.alloc rfl rfl rfl rfl (r_alloc rfl zero_30) ?_)
     intro w7 hu7 hB7 hz7
     have hs7 := hu7.size
     replace hU := hU.trans hu7 (by first | exact (fun _ _ h => h) | exact (fun _ _ h => h.elim) | (intro k hl hk; (try simp only [At, New, Grow, From, No] at hk ⊢); omega) | (intro k hl hk; first | exact (show False from hk).elim | (simp only [At] at hk; first | exact .inl hk | (exfalso; omega)) | exact hSS k hl hk))
     replace hhd := hhd.upd hu7 (fun hS => by first | exact (show False from hS) | (simp only [At] at hS; omega) | (change p = ct ∨ p = bm ∨ p = bt ∨ p = b at hS; omega) | (change p = ct ∨ p = bm ∨ p = bt ∨ p = bt at hS; omega))
     replace hro := hro.upd hu7 (fun k hk hl hS => by first | exact (show False from hS).elim | (simp only [At] at hS; have := hlG k hk; omega))
     replace hR := hR.upd hu7 (fun k hk hl hS => by first | exact (show False from hS).elim | (simp only [At] at hS; have := hRl k hk; omega) | (simp only [At] at hS; subst hS; exact hRp hk) | (change k = ct ∨ k = bm ∨ k = bt ∨ k = b at hS; have h8 := hRl k hk; have h9 : k = b := (by omega); exact hRa k hk o (by rw [h9]; exact List.mem_of_getElem? hej)))
     replace h0 := h0.upd hu7 (fun k hk hl hS => by have h8 := hrb k hk; first | exact (show False from hS).elim | (simp only [At] at hS; omega) | (change k = ct ∨ k = bm ∨ k = bt ∨ k = bt at hS; omega))
     replace hb4 := hb4.upd hu7 (fun hS => by first | exact (show False from hS) | (simp only [At] at hS; omega))
     replace hq := hq.upd hu7 (fun hS => by first | exact (show False from hS).elim | (simp only [At] at *; omega))
     replace hb5 := hb5.upd hu7 (fun hS => by first | exact (show False from hS) | (simp only [At] at hS; omega))
     replace hq2 := hq2.upd hu7 (fun hS => by first | exact (show False from hS).elim | (simp only [At] at *; omega))
     refine WL.cons (SO.store rfl (ev_t rfl) (ev_t rfl) size_30 hB7 rfl rfl rfl rfl rfl ?_)
     intro w8 hu8 hB7 hz8
     have hs8 := hu8.size
     replace hU := hU.trans hu8 (by first | exact (fun _ _ h => h) | exact (fun _ _ h => h.elim) | (intro k hl hk; (try simp only [At, New, Grow, From, No] at hk ⊢); omega) | (intro k hl hk; first | exact (show False from hk).elim | (simp only [At] at hk; first | exact .inl hk | (exfalso; omega)) | exact hSS k hl hk))
     replace hhd := hhd.upd hu8 (fun hS => by first | exact (show False from hS) | (simp only [At] at hS; omega) | (change p = ct ∨ p = bm ∨ p = bt ∨ p = b at hS; omega) | (change p = ct ∨ p = bm ∨ p = bt ∨ p = bt at hS; omega))
     replace hro := hro.upd hu8 (fun k hk hl hS => by first | exact (show False from hS).elim | (simp only [At] at hS; have := hlG k hk; omega))
     replace hR := hR.upd hu8 (fun k hk hl hS => by first | exact (show False from hS).elim | (simp only [At] at hS; have := hRl k hk; omega) | (simp only [At] at hS; subst hS; exact hRp hk) | (change k = ct ∨ k = bm ∨ k = bt ∨ k = b at hS; have h8 := hRl k hk; have h9 : k = b := (by omega); exact hRa k hk o (by rw [h9]; exact List.mem_of_getElem? hej)))
     replace h0 := h0.upd hu8 (fun k hk hl hS => by have h8 := hrb k hk; first | exact (show False from hS).elim | (simp only [At] at hS; omega) | (change k = ct ∨ k = bm ∨ k = bt ∨ k = bt at hS; omega))
     replace hb4 := hb4.upd hu8 (fun hS => by first | exact (show False from hS) | (simp only [At] at hS; omega))
     replace hq := hq.upd hu8 (fun hS => by first | exact (show False from hS).elim | (simp only [At] at *; omega))
     replace hb5 := hb5.upd hu8 (fun hS => by first | exact (show False from hS) | (simp only [At] at hS; omega))
     replace hq2 := hq2.upd hu8 (fun hS => by first | exact (show False from hS).elim | (simp only [At] at *; omega))
     refine WL.nil ?_
     refine WX.keep [(0, _), (1, _), (4, _), (5, _), (6, _)] ⟨rfl, rfl, rfl, rfl, rfl, trivial⟩ ?_
     have hb6 := hB7
     have hC : CS w8 G w.heap.size w6.heap.size w3.heap.size bm bt (.slice A mem.length c) mem [] (List.replicate mem.length 0) := ⟨hb4, hb6, hb5, hro, by rw [← zeroWd, Array.toArray_toList]; exact hq2, ⟨_, hq, by rw [rowCells_sz, Nat.mul_one], by simp⟩, ⟨by omega, by omega, by omega⟩, ⟨fun h => by have := hlG _ h; omega, fun h => by have := hlG _ h; omega, fun h => by have := hlG _ h; omega⟩, by simp, ⟨by simp, by omega⟩⟩
     have hPI := PI.start (old := mem) (st := st)
     clear hb4 hb5 hb6 hq hq2 hro
     generalize hco : w.heap.size = co at hC ⊢
     generalize hcm : w6.heap.size = cm at hC ⊢
     generalize hct : w3.heap.size = ct at hC ⊢
     have hcs : B ≤ co ∧ B ≤ cm ∧ B ≤ ct ∧ B ≤ bm ∧ B ≤ bt ∧ co ≠ bt ∧ cm ≠ bt ∧ ct ≠ bt ∧ bm ≠ bt := by omega
     clear hco hcm hct hbt hbm
     obtain ⟨ord0, hord0⟩ : ∃ o, o = xs.foldl come [] := ⟨_, rfl⟩
     refine WX.next ?_
     refine WC.seq ?_
     refine WC.region ?_
     refine WL.val rfl rfl rfl rfl (r_makeFunc (vs := []) (us := [_, _, _]) rfl trivial ⟨(ev_t rfl), (ev_t rfl), (ev_t rfl), trivial⟩) ?_
     refine WL.val rfl rfl rfl rfl (r_assign rfl (ev_t rfl)) ?_
     refine WL.nil ?_
     refine WX.keep [(0, _), (1, _), (5, _), (7, _)] ⟨rfl, rfl, rfl, rfl, trivial⟩ ?_
     refine WX.next ?_
     refine WC.seq ?_
     refine WC.seq ?_
     refine WC.region ?_
     refine WL.val rfl rfl rfl rfl (r_move rfl (ev_t rfl)) ?_
     refine WL.val rfl rfl rfl rfl (r_lenSlice (ts := #[]) rfl (ev_t rfl) elem_35) ?_
     refine WL.val rfl rfl rfl rfl (r_move rfl ev_c) ?_
     refine WL.nil ?_
     refine WX.keep [(0, _), (5, _), (7, _), (25, _), (26, _), (27, _)] ⟨rfl, rfl, rfl, rfl, rfl, rfl, trivial⟩ ?_
     refine WX.next ?_
     refine WC.block ?_
     -- loop 1: live [0, 5, 7, 25, 26, 27]
     refine WC.keep [(0, _), (5, _), (7, _), (25, _), (26, _), (27, _)] ⟨rfl, rfl, rfl, rfl, rfl, rfl, trivial⟩ ?_
     refine WC.loop (fun qq E wA => ∃ (j : Nat) (to mv : List Nat), j ≤ rl.length ∧ qq = rl.length - j ∧ Upd (fun k => k = p ∨ ∃ o, (k, o) ∈ rl) w wA ∧ Blk wA p #[.slice A mem.length c, .int .i64 (q : Int), .int .i64 (n : Int)] 79 ∧ CS wA G co cm ct bm bt (.slice A mem.length c) mem to mv ∧ PI mem st ((xs.take j).foldl come []) to mv 0 ∧ Rd wA R (.slice AR rl.length cR) rl.length 1 (rl.map ptrV) ∧ Roots w wA rl (mixR mem xs j) ∧ E = [(0, .pointer (some ⟨p, 0, none⟩)), (5, .pointer (some ⟨ct, 0, none⟩)), (7, mvF co cm ct), (25, .slice AR rl.length cR), (26, .int .i64 (rl.length : Int)), (27, .int .i64 (j : Int))]) (rl.length) ?_ ?_
     · exact ⟨0, [], _, by omega, by omega, hU, hhd, hC, by simpa using hPI, hR, by rw [mixR_zero]; exact h0, rfl⟩
     · clear hU hhd hC hPI hR h0
       rintro qq E wA ⟨j, to, mv, hj, rfl, hU, hhd, hC, hPI, hR, h0, rfl⟩
       have hUs := hU.size
       refine WC.seq ?_
       refine WC.region ?_
       refine WL.val rfl rfl rfl rfl (r_lss rfl (ev_t rfl) (ev_t rfl)) ?_
       refine WL.nil ?_
       refine WX.keep [(0, _), (5, _), (7, _), (25, _), (26, _), (27, _), (28, _)] ⟨rfl, rfl, rfl, rfl, rfl, rfl, rfl, trivial⟩ ?_
       refine WX.next ?_
       refine WC.seq ?_
       refine WC.cond rfl (ev_t rfl) (fun hc6 => ?_) (fun hc6 => ?_)
       · try (exfalso; first | (simp at hc6; done) | (simp only [decide_eq_true_eq, decide_eq_false_iff_not, Bool.not_eq_true', Bool.not_eq_false', Bool.not_eq_true, Bool.not_eq_false] at hc6; omega) | omega)
         all_goals
          try simp only [decide_eq_true_eq, decide_eq_false_iff_not, Bool.not_eq_true', Bool.not_eq_false', Bool.not_eq_true, Bool.not_eq_false, Option.isNone_none, Option.isNone_some, Option.isSome_none, Option.isSome_some, ne_eq, Decidable.not_not] at hc6
          have hjl : j < rl.length := by simpa using hc6
          obtain ⟨bR, oR, rfl, _⟩ := hR.open (by omega)
          obtain ⟨e, hej⟩ : ∃ e, rl[j]? = some e := ⟨_, List.getElem?_eq_getElem hjl⟩
          obtain ⟨b, o⟩ := e
          obtain ⟨x, hxj⟩ : ∃ x, xs[j]? = some x := ⟨_, List.getElem?_eq_getElem (by omega)⟩
          obtain ⟨cs0, hbl0⟩ : ∃ cs, Blk w b cs tWord := hb0 _ (List.mem_of_getElem? hej)
          obtain ⟨hxb, hxs⟩ := hx x (List.mem_of_getElem? hxj)
          have hbb := hrb b ⟨o, List.mem_of_getElem? hej⟩
          refine WC.skip ?_
          refine WX.next ?_
          refine WC.seq ?_
          refine WC.block ?_
          refine WC.seq ?_
          refine WC.region ?_
          refine WL.val rfl rfl rfl rfl (r_indexAddr rfl (ev_t rfl) (ev_t rfl) elem_35 size_82 (by omega) (by omega)) ?_
          refine WL.val rfl rfl rfl rfl (r_load rfl (ev_t rfl) flat_82 (hR.cell (j := j) (u := ptrV (b, o)) (show oR + (j : Int).toNat * 1 = oR + j by omega) (by rw [List.getElem?_map, hej]; rfl))) ?_
          refine WL.val rfl rfl rfl rfl (r_assign rfl (ev_t rfl)) ?_
          refine WL.nil ?_
          refine WX.keep [(0, _), (5, _), (7, _), (9, _), (25, _), (26, _), (27, _)] ⟨rfl, rfl, rfl, rfl, rfl, rfl, rfl, trivial⟩ ?_
          refine WX.next ?_
          obtain ⟨cs, hbl, hcsz, _, hcv⟩ := h0.blk b cs0 ⟨o, List.mem_of_getElem? hej⟩ hbl0
          obtain ⟨y, hy1, hy2⟩ := hcv j o hej
          rw [mixR_get hxj] at hy1
          injection hy1 with hy1
          subst hy1
          refine WC.region ?_
          refine WL.val rfl rfl rfl rfl (r_move rfl (ev_t rfl)) ?_
          refine WL.val rfl rfl rfl rfl (r_move rfl (ev_t rfl)) ?_
          refine WL.cons (SO.callV (vs := [_]) rfl (ev_t rfl) body_43 ⟨(ev_t rfl), trivial⟩ rfl (move_ok (b := b) hC hbl hy2 hxb (by omega) hbb.2.2 (fun h => by omega) (hPI.go hv hxs (by omega)) hv.w64) rfl rfl rfl rfl ?_)
          rintro v w9 ⟨to2, hC2, hne, -, hu9⟩
          obtain ⟨rfl, hbl2⟩ := hne (by omega)
          obtain ⟨hPI2, hyy⟩ := hPI.move hv hxs
          have h02 := h0.set hnd hej hu9 (fun k hk hl hkb hS => by have h9 := hrb k hk; omega) hbl0 hbl hbl2
          rw [hyy, mixR_step hxj] at h02
          have hSS : ∀ k, k < w.heap.size → (k = ct ∨ k = bm ∨ k = bt ∨ k = b) → k = p ∨ ∃ o, (k, o) ∈ rl := fun k hl hk => by
            have h9 : k = b := by omega
            exact .inr ⟨o, by rw [h9]; exact List.mem_of_getElem? hej⟩
          have hs9 := hu9.size
          replace hU := hU.trans hu9 (by first | exact (fun _ _ h => h) | exact (fun _ _ h => h.elim) | (intro k hl hk; (try simp only [At, New, Grow, From, No] at hk ⊢); omega) | (intro k hl hk; first | exact (show False from hk).elim | (simp only [At] at hk; first | exact .inl hk | (exfalso; omega)) | exact hSS k hl hk))
          replace hhd := hhd.upd hu9 (fun hS => by first | exact (show False from hS) | (simp only [At] at hS; omega) | (change p = ct ∨ p = bm ∨ p = bt ∨ p = b at hS; omega) | (change p = ct ∨ p = bm ∨ p = bt ∨ p = bt at hS; omega))
          replace hR := hR.upd hu9 (fun k hk hl hS => by first | exact (show False from hS).elim | (simp only [At] at hS; have := hRl k hk; omega) | (simp only [At] at hS; subst hS; exact hRp hk) | (change k = ct ∨ k = bm ∨ k = bt ∨ k = b at hS; have h8 := hRl k hk; have h9 : k = b := (by omega); exact hRa k hk o (by rw [h9]; exact List.mem_of_getElem? hej)))
          clear hC h0
          have hC := hC2
          have h0 := h02
          refine WL.nil ?_
          refine WX.keep [(0, _), (5, _), (7, _), (25, _), (26, _), (27, _)] ⟨rfl, rfl, rfl, rfl, rfl, rfl, trivial⟩ ?_
          refine WX.blockNormal ?_
          refine WX.next ?_
          refine WC.region ?_
          first | refine WL.val rfl rfl rfl rfl (r_addN rfl (ev_t rfl) ev_c (by simp only [inK]; omega)) ?_ | refine WL.val rfl rfl rfl rfl (r_add rfl (ev_t rfl) ev_c) ?_
          refine WL.val rfl rfl rfl rfl (r_move rfl (ev_t rfl)) ?_
          refine WL.nil ?_
          refine WX.keep [(0, _), (5, _), (7, _), (25, _), (26, _), (27, _)] ⟨rfl, rfl, rfl, rfl, rfl, rfl, trivial⟩ ?_
          refine WX.meet [(0, _), (5, _), (7, _), (25, _), (26, _), (27, _)] ⟨rfl, rfl, rfl, rfl, rfl, rfl, trivial⟩ ?_
          refine ⟨rl.length - (j + 1), by omega, j + 1, _, _, by omega, rfl, hU, hhd, hC, ?_, hR, h0, rfl⟩
          rw [take_get hxj, List.foldl_append, List.foldl_cons, List.foldl_nil]
          exact hPI2
       · try (exfalso; first | (simp at hc6; done) | (simp only [decide_eq_true_eq, decide_eq_false_iff_not, Bool.not_eq_true', Bool.not_eq_false', Bool.not_eq_true, Bool.not_eq_false] at hc6; omega) | omega)
         all_goals
          try simp only [decide_eq_true_eq, decide_eq_false_iff_not, Bool.not_eq_true', Bool.not_eq_false', Bool.not_eq_true, Bool.not_eq_false, Option.isNone_none, Option.isNone_some, Option.isSome_none, Option.isSome_some, ne_eq, Decidable.not_not] at hc6
          refine WC.exit ?_
          refine WX.thenExit ?_
          refine WX.thenExit ?_
          refine WX.blockHere ?_
          refine WX.next ?_
          refine WC.seq ?_
          refine WC.seq ?_
          obtain rfl : j = rl.length := by
            have : ¬ j < rl.length := by simpa using hc6
            omega
          rw [hxl, mixR_all] at h0
          rw [hxl, List.take_length, ← hord0] at hPI
          rw [← hord0] at h0
          refine WC.region ?_
          refine WL.val rfl rfl rfl rfl (r_assign rfl ev_c) ?_
          refine WL.nil ?_
          refine WX.keep [(0, _), (5, _), (7, _), (10, _)] ⟨rfl, rfl, rfl, rfl, trivial⟩ ?_
          refine WX.next ?_
          refine WC.block ?_
          -- loop 2: live [0, 5, 7, 10]
          refine WC.keep [(0, _), (5, _), (7, _), (10, _)] ⟨rfl, rfl, rfl, rfl, trivial⟩ ?_
          refine WC.loop (fun qq E wA => ∃ (k : Nat) (ord to mv : List Nat), k ≤ ord.length ∧ qq = mem.length - tot (szAt mem) (ord.take k) ∧ (∀ fin, Bfs mem k ord fin → Bfs mem 0 ord0 fin) ∧ (∃ r, ord = ord0 ++ r) ∧ PI mem st ord to mv (tot (szAt mem) (ord.take k)) ∧ Upd (fun k => k = p ∨ ∃ o, (k, o) ∈ rl) w wA ∧ Blk wA p #[.slice A mem.length c, .int .i64 (q : Int), .int .i64 (n : Int)] 79 ∧ CS wA G co cm ct bm bt (.slice A mem.length c) mem to mv ∧ Roots w wA rl (xs.map (there mem ord0)) ∧ E = [(0, .pointer (some ⟨p, 0, none⟩)), (5, .pointer (some ⟨ct, 0, none⟩)), (7, mvF co cm ct), (10, .int .i64 ((tot (szAt mem) (ord.take k) : Nat) : Int))]) (mem.length) ?_ ?_
          · exact ⟨0, ord0, to, mv, by omega, by simp [tot], fun _ h => h, ⟨[], by simp⟩, by simpa [tot] using hPI, hU, hhd, hC, h0, rfl⟩
          · clear hU hhd hC hPI h0 hR
            rintro qq E wA ⟨k, ord, to, mv, hk, rfl, hbf, ⟨r0, hr0⟩, hPI, hU, hhd, hC, h0, rfl⟩
            have hUs := hU.size
            have htl := hPI.le hv
            have hlt0 := hPI.ltot
            refine WC.seq ?_
            refine WC.seq ?_
            refine WC.region ?_
            refine WL.val rfl rfl rfl rfl (r_move rfl (ev_t rfl)) ?_
            refine WL.val rfl rfl rfl rfl (r_load rfl (ev_t rfl) flat_30 (Blk.cell hC.ht rfl)) ?_
            refine WL.val rfl rfl rfl rfl (r_lenSlice (ts := #[]) rfl (ev_t rfl) elem_30) ?_
            refine WL.val rfl rfl rfl rfl (r_lss rfl (ev_t rfl) (ev_t rfl)) ?_
            refine WL.nil ?_
            refine WX.keep [(0, _), (5, _), (7, _), (10, _), (38, _)] ⟨rfl, rfl, rfl, rfl, rfl, trivial⟩ ?_
            refine WX.next ?_
            refine WC.cond rfl (ev_t rfl) (fun hc11 => ?_) (fun hc11 => ?_)
            · try (exfalso; first | (simp at hc11; done) | (simp only [decide_eq_true_eq, decide_eq_false_iff_not, Bool.not_eq_true', Bool.not_eq_false', Bool.not_eq_true, Bool.not_eq_false] at hc11; omega) | omega)
              all_goals
               try simp only [decide_eq_true_eq, decide_eq_false_iff_not, Bool.not_eq_true', Bool.not_eq_false', Bool.not_eq_true, Bool.not_eq_false, Option.isNone_none, Option.isNone_some, Option.isSome_none, Option.isSome_some, ne_eq, Decidable.not_not] at hc11
               have hMl : tot (szAt mem) (ord.take k) < to.length := by simpa using hc11
               have hkl : k < ord.length := by
                 rcases Nat.lt_or_ge k ord.length with h | h
                 · exact h
                 · rw [List.take_of_length_le h] at hMl; omega
               obtain ⟨a, hak⟩ : ∃ a, ord[k]? = some a := ⟨_, List.getElem?_eq_getElem hkl⟩
               have ha : a ∈ ord := List.mem_of_getElem? hak
               have hpa := plc_take (sz := szAt mem) hPI.nd hak
               have htk : tot (szAt mem) (ord.take (k + 1)) = tot (szAt mem) (ord.take k) + szAt mem a := by rw [take_get hak, tot_app, tot_cons, tot_nil]; rfl
               generalize hM : tot (szAt mem) (ord.take k) = M at *
               have hhd0 : to[M]? = some (mem.getD a 0) := by
                 rw [getD_lt hMl, ← hpa, show plc (szAt mem) ord a = plc (szAt mem) ord a + 0 from rfl, hPI.old_ a ha 0 (szAt_pos _ _) (fun h => by have := h.2.1; omega)]
                 rfl
               have hain := hv.in (hPI.sub a ha)
               have hh64 := hv.w64 _ (List.mem_of_getElem? (getD_lt hain.1))
               have hplt := plc_lt (sz := szAt mem) ha
               refine WC.skip ?_
               refine WX.next ?_
               -- cut 13: live [0, 5, 7, 10]
               refine WC.cut (fun E wA => ∃ (ord2 to2 mv2 : List Nat), ord2 = (parts mem a).foldl come ord ∧ PI mem st ord2 to2 mv2 (M + szAt mem a) ∧ Upd (fun k => k = p ∨ ∃ o, (k, o) ∈ rl) w wA ∧ Blk wA p #[.slice A mem.length c, .int .i64 (q : Int), .int .i64 (n : Int)] 79 ∧ CS wA G co cm ct bm bt (.slice A mem.length c) mem to2 mv2 ∧ Roots w wA rl (xs.map (there mem ord0)) ∧ E = [(0, .pointer (some ⟨p, 0, none⟩)), (5, .pointer (some ⟨ct, 0, none⟩)), (7, mvF co cm ct), (10, .int .i64 (M : Int))]) ?_ ?_
               · refine WC.block ?_
                 refine WC.seq ?_
                 refine WC.seq ?_
                 refine WC.region ?_
                 refine WL.val rfl rfl rfl rfl (r_load rfl (ev_t rfl) flat_30 (Blk.cell hC.ht rfl)) ?_
                 refine WL.val rfl rfl rfl rfl (r_move rfl (ev_t rfl)) ?_
                 refine WL.val rfl rfl rfl rfl (r_indexAddr rfl (ev_t rfl) (ev_t rfl) elem_30 size_32 (by omega) (by omega)) ?_
                 refine WL.val rfl rfl rfl rfl (r_load rfl (ev_t rfl) flat_32 (hC.cell (i := M) (show 0 + (M : Int).toNat * 1 = M by omega) hhd0)) ?_
                 first | refine WL.val rfl rfl rfl rfl (r_convN rfl (ev_t rfl) some_32 int_5 (by simp only [inK]; omega)) ?_ | refine WL.val rfl rfl rfl rfl (r_conv rfl (ev_t rfl) some_32 int_5) ?_
                 rw [hd_k]
                 refine WL.val rfl rfl rfl rfl (r_eql rfl (ev_t rfl) ev_c) ?_
                 refine WL.nil ?_
                 refine WX.keep [(0, _), (5, _), (7, _), (10, _), (49, _)] ⟨rfl, rfl, rfl, rfl, rfl, trivial⟩ ?_
                 refine WX.next ?_
                 refine WC.cond rfl (ev_t rfl) (fun hc13 => ?_) (fun hc13 => ?_)
                 · try (exfalso; first | (simp at hc13; done) | (simp only [decide_eq_true_eq, decide_eq_false_iff_not, Bool.not_eq_true', Bool.not_eq_false', Bool.not_eq_true, Bool.not_eq_false] at hc13; omega) | omega)
                   all_goals
                    try simp only [decide_eq_true_eq, decide_eq_false_iff_not, Bool.not_eq_true', Bool.not_eq_false', Bool.not_eq_true, Bool.not_eq_false, Option.isNone_none, Option.isNone_some, Option.isSome_none, Option.isSome_some, ne_eq, Decidable.not_not] at hc13
                    refine WC.exit ?_
                    refine WX.thenExit ?_
                    refine WX.blockHere ?_
                    refine WX.meet [(0, _), (5, _), (7, _), (10, _)] ⟨rfl, rfl, rfl, rfl, trivial⟩ ?_
                    first
                      | (have hk3 : mem.getD a 0 % 256 = 3 := by omega
                         have e1 : parts mem a = [] := by unfold parts; rw [if_pos hk3]
                         exact ⟨ord, to, mv, by rw [e1]; rfl, hPI.skipText ha hpa hk3, hU, hhd, hC, h0, rfl⟩)
                      | (have hin : i = mem.getD a 0 / 256 := by omega
                         subst hin
                         rw [List.take_of_length_le (by rw [parts_len hk3 hain.2]; exact Nat.le_refl _)] at ho2
                         rw [show M + 1 + mem.getD a 0 / 256 = M + szAt mem a by omega] at hPI2
                         exact ⟨ord2, to2, mv2, ho2, hPI2, hU, hhd, hC, h0, rfl⟩)
                 · try (exfalso; first | (simp at hc13; done) | (simp only [decide_eq_true_eq, decide_eq_false_iff_not, Bool.not_eq_true', Bool.not_eq_false', Bool.not_eq_true, Bool.not_eq_false] at hc13; omega) | omega)
                   all_goals
                    try simp only [decide_eq_true_eq, decide_eq_false_iff_not, Bool.not_eq_true', Bool.not_eq_false', Bool.not_eq_true, Bool.not_eq_false, Option.isNone_none, Option.isNone_some, Option.isSome_none, Option.isSome_some, ne_eq, Decidable.not_not] at hc13
                    have hk3 : mem.getD a 0 % 256 ≠ 3 := by omega
                    have hsz3 : szAt mem a = 1 + mem.getD a 0 / 256 := by unfold szAt szO; rw [if_neg hk3]
                    refine WC.skip ?_
                    refine WX.next ?_
                    refine WC.seq ?_
                    refine WC.region ?_
                    refine WL.val rfl rfl rfl rfl (r_load rfl (ev_t rfl) flat_30 (Blk.cell hC.ht rfl)) ?_
                    refine WL.val rfl rfl rfl rfl (r_move rfl (ev_t rfl)) ?_
                    refine WL.val rfl rfl rfl rfl (r_indexAddr rfl (ev_t rfl) (ev_t rfl) elem_30 size_32 (by omega) (by omega)) ?_
                    refine WL.val rfl rfl rfl rfl (r_load rfl (ev_t rfl) flat_32 (hC.cell (i := M) (show 0 + (M : Int).toNat * 1 = M by omega) hhd0)) ?_
                    refine WL.val rfl rfl rfl rfl (r_shr rfl (ev_t rfl) ev_c (by omega) (by simp only [IntKind.bits]; omega)) ?_
                    first | refine WL.val rfl rfl rfl rfl (r_convN rfl (ev_t rfl) some_32 int_3 (by simp only [inK]; omega)) ?_ | refine WL.val rfl rfl rfl rfl (r_conv rfl (ev_t rfl) some_32 int_3) ?_
                    rw [hd_n hh64]
                    refine WL.val rfl rfl rfl rfl (r_move rfl ev_c) ?_
                    refine WL.nil ?_
                    refine WX.keep [(0, _), (5, _), (7, _), (10, _), (55, _), (56, _)] ⟨rfl, rfl, rfl, rfl, rfl, rfl, trivial⟩ ?_
                    refine WX.next ?_
                    refine WC.block ?_
                    -- loop 3: live [0, 5, 7, 10, 55, 56]
                    refine WC.keep [(0, _), (5, _), (7, _), (10, _), (55, _), (56, _)] ⟨rfl, rfl, rfl, rfl, rfl, rfl, trivial⟩ ?_
                    refine WC.loop (fun qq E wA => ∃ (i : Nat) (ord2 to2 mv2 : List Nat), i ≤ mem.getD a 0 / 256 ∧ qq = mem.getD a 0 / 256 - i ∧ ord2 = ((parts mem a).take i).foldl come ord ∧ PI mem st ord2 to2 mv2 (M + 1 + i) ∧ Upd (fun k => k = p ∨ ∃ o, (k, o) ∈ rl) w wA ∧ Blk wA p #[.slice A mem.length c, .int .i64 (q : Int), .int .i64 (n : Int)] 79 ∧ CS wA G co cm ct bm bt (.slice A mem.length c) mem to2 mv2 ∧ Roots w wA rl (xs.map (there mem ord0)) ∧ E = [(0, .pointer (some ⟨p, 0, none⟩)), (5, .pointer (some ⟨ct, 0, none⟩)), (7, mvF co cm ct), (10, .int .i64 (M : Int)), (55, .int .i64 ((mem.getD a 0 / 256 : Nat) : Int)), (56, .int .i64 (i : Int))]) (mem.getD a 0 / 256) ?_ ?_
                    · exact ⟨0, ord, to, mv, by omega, by omega, rfl, hPI.skipHead ha hpa, hU, hhd, hC, h0, rfl⟩
                    · clear hU hhd hC h0
                      rintro qq E wA ⟨i, ord2, to2, mv2, hi, rfl, ho2, hPI2, hU, hhd, hC, h0, rfl⟩
                      have hUs2 := hU.size
                      refine WC.seq ?_
                      refine WC.region ?_
                      refine WL.val rfl rfl rfl rfl (r_lss rfl (ev_t rfl) (ev_t rfl)) ?_
                      refine WL.nil ?_
                      refine WX.keep [(0, _), (5, _), (7, _), (10, _), (55, _), (56, _), (57, _)] ⟨rfl, rfl, rfl, rfl, rfl, rfl, rfl, trivial⟩ ?_
                      refine WX.next ?_
                      refine WC.seq ?_
                      refine WC.cond rfl (ev_t rfl) (fun hc15 => ?_) (fun hc15 => ?_)
                      · try (exfalso; first | (simp at hc15; done) | (simp only [decide_eq_true_eq, decide_eq_false_iff_not, Bool.not_eq_true', Bool.not_eq_false', Bool.not_eq_true, Bool.not_eq_false] at hc15; omega) | omega)
                        all_goals
                         try simp only [decide_eq_true_eq, decide_eq_false_iff_not, Bool.not_eq_true', Bool.not_eq_false', Bool.not_eq_true, Bool.not_eq_false, Option.isNone_none, Option.isNone_some, Option.isSome_none, Option.isSome_some, ne_eq, Decidable.not_not] at hc15
                         have hil : i < mem.getD a 0 / 256 := by omega
                         obtain ⟨hpi, hpi2⟩ := parts_get hk3 hil hain.2
                         obtain ⟨r2, hr2⟩ := come_fold_pre ((parts mem a).take i) ord
                         rw [← ho2] at hr2
                         have ha2 : a ∈ ord2 := by rw [hr2]; exact List.mem_append_left _ ha
                         have hpa2 : plc (szAt mem) ord2 a = M := by rw [hr2, plc_app _ ha]; exact hpa
                         have hxs := hv.refs a (hPI.sub a ha) _ (List.mem_of_getElem? hpi)
                         have hsc := hPI2.scan hv ha2 (d := 1 + i) hpi2 ⟨by omega, hk3⟩ (by omega) (by rw [show a + (1 + i) = a + 1 + i by omega]; exact hxs)
                         rw [show a + (1 + i) = a + 1 + i by omega] at hsc
                         obtain ⟨hto, hPI3⟩ := hsc
                         have hxb := hv.w64 _ (List.mem_of_getElem? (getD_lt (l := mem) (i := a + 1 + i) (by omega)))
                         have hplt2 := plc_lt (sz := szAt mem) ha2
                         have hlt2 := hPI2.ltot
                         have hgo := hPI2.go hv hxs (by omega)
                         generalize hxx : mem.getD (a + 1 + i) 0 = x at *
                         refine WC.skip ?_
                         refine WX.next ?_
                         refine WC.seq ?_
                         refine WC.block ?_
                         refine WC.seq ?_
                         refine WC.region ?_
                         refine WL.val rfl rfl rfl rfl (r_move rfl (ev_t rfl)) ?_
                         refine WL.val rfl rfl rfl rfl (r_assign rfl (ev_t rfl)) ?_
                         refine WL.nil ?_
                         refine WX.keep [(0, _), (5, _), (7, _), (10, _), (11, _), (55, _), (56, _)] ⟨rfl, rfl, rfl, rfl, rfl, rfl, rfl, trivial⟩ ?_
                         refine WX.next ?_
                         refine WC.region ?_
                         refine WL.val rfl rfl rfl rfl (r_move rfl (ev_t rfl)) ?_
                         refine WL.val rfl rfl rfl rfl (r_load rfl (ev_t rfl) flat_30 (Blk.cell hC.ht rfl)) ?_
                         refine WL.val rfl rfl rfl rfl (r_move rfl (ev_t rfl)) ?_
                         first | refine WL.val rfl rfl rfl rfl (r_addN rfl (ev_t rfl) ev_c (by simp only [inK]; omega)) ?_ | refine WL.val rfl rfl rfl rfl (r_add rfl (ev_t rfl) ev_c) ?_
                         refine WL.val rfl rfl rfl rfl (r_move rfl (ev_t rfl)) ?_
                         first | refine WL.val rfl rfl rfl rfl (r_addN rfl (ev_t rfl) (ev_t rfl) (by simp only [inK]; omega)) ?_ | refine WL.val rfl rfl rfl rfl (r_add rfl (ev_t rfl) (ev_t rfl)) ?_
                         refine WL.val rfl rfl rfl rfl (r_indexAddr rfl (ev_t rfl) (ev_t rfl) elem_30 size_32 (by omega) (by omega)) ?_
                         obtain ⟨cur, hcu1, hcu2, hcu3⟩ := hC.rt
                         have hcx : cur[M + 1 + i]? = some (Wd x) := by
                           have h4 : (to2.map Wd)[M + 1 + i]? = some (Wd x) := by rw [List.getElem?_map, getD_lt (l := to2) (i := M + 1 + i) (by omega), hto]; rfl
                           rw [← hcu3, List.getElem?_take_of_lt (by omega), Array.getElem?_toList] at h4
                           exact h4
                         have eo : 0 + ((M : Int) + 1 + (i : Int)).toNat * 1 = M + 1 + i := by omega
                         rw [eo]
                         refine WL.cons (SO.callV (vs := [_]) rfl (ev_t rfl) body_43 ⟨(ev_t rfl), trivial⟩ rfl (move_ok (b := bt) (o := M + 1 + i) hC hcu1 hcx hxb (by omega) (fun h => by have := hlG _ h; omega) (fun h => by omega) hgo hv.w64) rfl rfl rfl rfl ?_)
                         rintro v w10 ⟨to3, hC2, -, heq, hu10⟩
                         rw [← heq rfl] at hPI3
                         have hSS : ∀ k, k < w.heap.size → (k = ct ∨ k = bm ∨ k = bt ∨ k = bt) → k = p ∨ ∃ o, (k, o) ∈ rl := fun k hl hk => by exfalso; omega
                         have hs10 := hu10.size
                         replace hU := hU.trans hu10 (by first | exact (fun _ _ h => h) | exact (fun _ _ h => h.elim) | (intro k hl hk; (try simp only [At, New, Grow, From, No] at hk ⊢); omega) | (intro k hl hk; first | exact (show False from hk).elim | (simp only [At] at hk; first | exact .inl hk | (exfalso; omega)) | exact hSS k hl hk))
                         replace hhd := hhd.upd hu10 (fun hS => by first | exact (show False from hS) | (simp only [At] at hS; omega) | (change p = ct ∨ p = bm ∨ p = bt ∨ p = b at hS; omega) | (change p = ct ∨ p = bm ∨ p = bt ∨ p = bt at hS; omega))
                         replace h0 := h0.upd hu10 (fun k hk hl hS => by have h8 := hrb k hk; first | exact (show False from hS).elim | (simp only [At] at hS; omega) | (change k = ct ∨ k = bm ∨ k = bt ∨ k = bt at hS; omega))
                         clear hC
                         have hC := hC2
                         refine WL.nil ?_
                         refine WX.keep [(0, _), (5, _), (7, _), (10, _), (55, _), (56, _)] ⟨rfl, rfl, rfl, rfl, rfl, rfl, trivial⟩ ?_
                         refine WX.blockNormal ?_
                         refine WX.next ?_
                         refine WC.region ?_
                         first | refine WL.val rfl rfl rfl rfl (r_addN rfl (ev_t rfl) ev_c (by simp only [inK]; omega)) ?_ | refine WL.val rfl rfl rfl rfl (r_add rfl (ev_t rfl) ev_c) ?_
                         refine WL.val rfl rfl rfl rfl (r_move rfl (ev_t rfl)) ?_
                         refine WL.nil ?_
                         refine WX.keep [(0, _), (5, _), (7, _), (10, _), (55, _), (56, _)] ⟨rfl, rfl, rfl, rfl, rfl, rfl, trivial⟩ ?_
                         refine WX.meet [(0, _), (5, _), (7, _), (10, _), (55, _), (56, _)] ⟨rfl, rfl, rfl, rfl, rfl, rfl, trivial⟩ ?_
                         refine ⟨mem.getD a 0 / 256 - (i + 1), by omega, i + 1, _, to3, _, by omega, rfl, rfl, ?_, hU, hhd, hC, h0, rfl⟩
                         rw [take_get hpi, List.foldl_append, List.foldl_cons, List.foldl_nil, ← ho2]
                         exact hPI3
                      · try (exfalso; first | (simp at hc15; done) | (simp only [decide_eq_true_eq, decide_eq_false_iff_not, Bool.not_eq_true', Bool.not_eq_false', Bool.not_eq_true, Bool.not_eq_false] at hc15; omega) | omega)
                        all_goals
                         try simp only [decide_eq_true_eq, decide_eq_false_iff_not, Bool.not_eq_true', Bool.not_eq_false', Bool.not_eq_true, Bool.not_eq_false, Option.isNone_none, Option.isNone_some, Option.isSome_none, Option.isSome_some, ne_eq, Decidable.not_not] at hc15
                         refine WC.exit ?_
                         refine WX.thenExit ?_
                         refine WX.thenExit ?_
                         refine WX.blockHere ?_
                         refine WX.blockNormal ?_
                         refine WX.meet [(0, _), (5, _), (7, _), (10, _)] ⟨rfl, rfl, rfl, rfl, trivial⟩ ?_
                         first
                           | (have hk3 : mem.getD a 0 % 256 = 3 := by omega
                              have e1 : parts mem a = [] := by unfold parts; rw [if_pos hk3]
                              exact ⟨ord, to, mv, by rw [e1]; rfl, hPI.skipText ha hpa hk3, hU, hhd, hC, h0, rfl⟩)
                           | (have hin : i = mem.getD a 0 / 256 := by omega
                              subst hin
                              rw [List.take_of_length_le (by rw [parts_len hk3 hain.2]; exact Nat.le_refl _)] at ho2
                              rw [show M + 1 + mem.getD a 0 / 256 = M + szAt mem a by omega] at hPI2
                              exact ⟨ord2, to2, mv2, ho2, hPI2, hU, hhd, hC, h0, rfl⟩)
               · clear hU hhd hC h0
                 rintro E wB ⟨ord2, to2, mv2, hord2, hPI2, hU, hhd, hC, h0, rfl⟩
                 have hUs2 := hU.size
                 obtain ⟨r2, hr2⟩ := come_fold_pre (parts mem a) ord
                 rw [← hord2] at hr2
                 have ha2 : a ∈ ord2 := by rw [hr2]; exact List.mem_append_left _ ha
                 have hpa2 : plc (szAt mem) ord2 a = M := by rw [hr2, plc_app _ ha]; exact hpa
                 have hplt2 := plc_lt (sz := szAt mem) ha2
                 have hlt2 := hPI2.ltot
                 have hlc2 := hPI2.le hv
                 have hsp := szAt_pos mem a
                 have hhd2 : to2[M]? = some (mem.getD a 0) := by
                   rw [getD_lt (l := to2) (i := M) (by omega), ← hpa2, show plc (szAt mem) ord2 a = plc (szAt mem) ord2 a + 0 from rfl, hPI2.old_ a ha2 0 hsp (fun h => by have := h.2.1; omega)]
                   rfl
                 refine WC.region ?_
                 refine WL.val rfl rfl rfl rfl (r_move rfl (ev_t rfl)) ?_
                 refine WL.val rfl rfl rfl rfl (r_load rfl (ev_t rfl) flat_30 (Blk.cell hC.ht rfl)) ?_
                 refine WL.val rfl rfl rfl rfl (r_move rfl (ev_t rfl)) ?_
                 refine WL.cons (SO.call (size_ok (hC.own.rd (by omega)) hhd2 hh64) rfl body_44 ⟨(ev_t rfl), (ev_t rfl), trivial⟩ rfl rfl rfl rfl ?_)
                 rintro v w11 ⟨rfl, hu11⟩
                 have hs11 := hu11.size
                 replace hU := hU.trans hu11 (by first | exact (fun _ _ h => h) | exact (fun _ _ h => h.elim) | (intro k hl hk; (try simp only [At, New, Grow, From, No] at hk ⊢); omega) | (intro k hl hk; first | exact (show False from hk).elim | (simp only [At] at hk; first | exact .inl hk | (exfalso; omega)) | exact hSS k hl hk))
                 replace hhd := hhd.upd hu11 (fun hS => by first | exact (show False from hS) | (simp only [At] at hS; omega) | (change p = ct ∨ p = bm ∨ p = bt ∨ p = b at hS; omega) | (change p = ct ∨ p = bm ∨ p = bt ∨ p = bt at hS; omega))
                 replace hC := hC.upd hu11 (fun k hk hl hS => by first | exact (show False from hS).elim | (simp only [At] at hS; by_cases hg : G k; (rw [hS] at hg; exact hnG hg); simp only [hg, or_false] at hk; omega))
                 replace h0 := h0.upd hu11 (fun k hk hl hS => by have h8 := hrb k hk; first | exact (show False from hS).elim | (simp only [At] at hS; omega) | (change k = ct ∨ k = bm ∨ k = bt ∨ k = bt at hS; omega))
                 first | refine WL.val rfl rfl rfl rfl (r_addN rfl (ev_t rfl) (ev_t rfl) (by simp only [inK]; omega)) ?_ | refine WL.val rfl rfl rfl rfl (r_add rfl (ev_t rfl) (ev_t rfl)) ?_
                 refine WL.val rfl rfl rfl rfl (r_assign rfl (ev_t rfl)) ?_
                 refine WL.nil ?_
                 refine WX.keep [(0, _), (5, _), (7, _), (10, _)] ⟨rfl, rfl, rfl, rfl, trivial⟩ ?_
                 refine WX.meet [(0, _), (5, _), (7, _), (10, _)] ⟨rfl, rfl, rfl, rfl, trivial⟩ ?_
                 have htk2 : tot (szAt mem) (ord2.take (k + 1)) = M + szAt mem a := by rw [hr2, List.take_append_of_le_length (by omega)]; exact htk
                 refine ⟨mem.length - tot (szAt mem) (ord2.take (k + 1)), by rw [htk2]; omega, k + 1, ord2, to2, mv2, by rw [hr2, List.length_append]; omega, rfl, fun fin hf => hbf fin (Bfs.step hak (hord2 ▸ hf)), ⟨r0 ++ r2, by rw [hr2, hr0, List.append_assoc]⟩, by rw [htk2]; exact hPI2, hU, hhd, hC, h0, ?_⟩
                 have esz : szAt mem a = szO (mem.getD a 0) := rfl
                 have ew : IntKind.i64.wrap ((M : Int) + ((szO (mem.getD a 0) : Nat) : Int)) = ((M + szAt mem a : Nat) : Int) := by rw [wrap_i64_in (by omega) (by omega)]; omega
                 rw [htk2, ew]
            · try (exfalso; first | (simp at hc11; done) | (simp only [decide_eq_true_eq, decide_eq_false_iff_not, Bool.not_eq_true', Bool.not_eq_false', Bool.not_eq_true, Bool.not_eq_false] at hc11; omega) | omega)
              all_goals
               try simp only [decide_eq_true_eq, decide_eq_false_iff_not, Bool.not_eq_true', Bool.not_eq_false', Bool.not_eq_true, Bool.not_eq_false, Option.isNone_none, Option.isNone_some, Option.isSome_none, Option.isSome_some, ne_eq, Decidable.not_not] at hc11
               refine WC.exit ?_
               refine WX.thenExit ?_
               refine WX.thenExit ?_
               refine WX.blockHere ?_
               refine WX.next ?_
               refine WC.seq ?_
               have hMf : ¬ tot (szAt mem) (ord.take k) < to.length := by simpa using hc11
               have hkk : ord.length ≤ k := by
                 rcases Nat.lt_or_ge k ord.length with h | h
                 · have h1 := plc_take (sz := szAt mem) hPI.nd (List.getElem?_eq_getElem h)
                   have h2 := plc_lt (sz := szAt mem) (List.getElem_mem h)
                   have h3 := szAt_pos mem ord[k]
                   omega
                 · exact h
               have hfin := hbf ord (Bfs.done hkk)
               rw [List.take_of_length_le hkk, ← hlt0] at hPI
               have hto := hC.own
               have hbtl := hC.rt
               obtain ⟨cur, hcu, _⟩ := hbtl
               have hbl := hcu.lt
               refine WC.region ?_
               refine WL.val rfl rfl rfl rfl (r_move rfl (ev_t rfl)) ?_
               refine WL.val rfl rfl rfl rfl (r_load rfl (ev_t rfl) flat_30 (Blk.cell hC.ht rfl)) ?_
               refine WL.val rfl rfl rfl rfl (r_nilCheck rfl (ev_t rfl)) ?_
               first | refine WL.val rfl rfl rfl rfl (r_field0 rfl (ev_t rfl) fld_79_0) ?_ | refine WL.val rfl rfl rfl rfl (r_fieldAt rfl (ev_t rfl) fld_79_0) ?_
               refine WL.cons (SO.store rfl (ev_t rfl) (ev_t rfl) size_30 hhd rfl rfl rfl rfl rfl ?_)
               intro w12 hu12 hhd hz12
               have hs12 := hu12.size
               replace hU := hU.trans hu12 (by first | exact (fun _ _ h => h) | exact (fun _ _ h => h.elim) | (intro k hl hk; (try simp only [At, New, Grow, From, No] at hk ⊢); omega) | (intro k hl hk; first | exact (show False from hk).elim | (simp only [At] at hk; first | exact .inl hk | (exfalso; omega)) | exact hSS k hl hk))
               replace hC := hC.upd hu12 (fun k hk hl hS => by first | exact (show False from hS).elim | (simp only [At] at hS; by_cases hg : G k; (rw [hS] at hg; exact hnG hg); simp only [hg, or_false] at hk; omega))
               replace h0 := h0.upd hu12 (fun k hk hl hS => by have h8 := hrb k hk; first | exact (show False from hS).elim | (simp only [At] at hS; omega) | (change k = ct ∨ k = bm ∨ k = bt ∨ k = bt at hS; omega))
               refine WL.nil ?_
               refine WX.keep [(0, _)] ⟨rfl, trivial⟩ ?_
               refine WX.next ?_
               refine WC.region ?_
               refine WL.val rfl rfl rfl rfl (r_move rfl (ev_t rfl)) ?_
               refine WL.val rfl rfl rfl rfl (r_nilCheck rfl (ev_t rfl)) ?_
               first | refine WL.val rfl rfl rfl rfl (r_field0 rfl (ev_t rfl) fld_79_2) ?_ | refine WL.val rfl rfl rfl rfl (r_fieldAt rfl (ev_t rfl) fld_79_2) ?_
               refine WL.val rfl rfl rfl rfl (r_load rfl (ev_t rfl) flat_3 (Blk.cell hhd rfl)) ?_
               first | refine WL.val rfl rfl rfl rfl (r_addN rfl (ev_t rfl) ev_c (by simp only [inK]; omega)) ?_ | refine WL.val rfl rfl rfl rfl (r_add rfl (ev_t rfl) ev_c) ?_
               refine WL.val rfl rfl rfl rfl (r_nilCheck rfl (ev_t rfl)) ?_
               first | refine WL.val rfl rfl rfl rfl (r_field0 rfl (ev_t rfl) fld_79_2) ?_ | refine WL.val rfl rfl rfl rfl (r_fieldAt rfl (ev_t rfl) fld_79_2) ?_
               refine WL.cons (SO.store rfl (ev_t rfl) (ev_t rfl) size_3 hhd rfl rfl rfl rfl rfl ?_)
               intro w13 hu13 hhd hz13
               have hs13 := hu13.size
               replace hU := hU.trans hu13 (by first | exact (fun _ _ h => h) | exact (fun _ _ h => h.elim) | (intro k hl hk; (try simp only [At, New, Grow, From, No] at hk ⊢); omega) | (intro k hl hk; first | exact (show False from hk).elim | (simp only [At] at hk; first | exact .inl hk | (exfalso; omega)) | exact hSS k hl hk))
               replace hC := hC.upd hu13 (fun k hk hl hS => by first | exact (show False from hS).elim | (simp only [At] at hS; by_cases hg : G k; (rw [hS] at hg; exact hnG hg); simp only [hg, or_false] at hk; omega))
               replace h0 := h0.upd hu13 (fun k hk hl hS => by have h8 := hrb k hk; first | exact (show False from hS).elim | (simp only [At] at hS; omega) | (change k = ct ∨ k = bm ∨ k = bt ∨ k = bt at hS; omega))
               refine WL.nil ?_
               refine WX.keep [] trivial ?_
               refine WX.endE (l := []) (vs := []) rfl trivial ?_
               subst hord0
               rw [there_fin ⟨r0, hr0⟩ rfl] at h0
               exact ⟨ord, to, mv, bt, hfin, ⟨r0, hr0⟩, hPI, ⟨hhd, hC.own, by simp only [At]; omega, fun k hk => by simp only [At] at hk; omega, ⟨by omega, hle.2⟩, hn⟩, by omega, h0, hU⟩
end Go.Proofs.YtdpnnclkkbfihaaDoor
