/-
  types: the reference's Close; law 06: alike.
-/
import Derived.Test.YtncakfcafkfmfaaTys
namespace Go.Proofs.Ytncakfcafkfmfaa
open Go
set_option linter.unusedSimpArgs false
set_option linter.unusedVariables false

def lv (x : Int) : C3 := (.string ⟨#[]⟩, .int .i64 x, .slice none 0 0)
theorem tvs_lv (w : World) (F : Nat → Prop) (l : List Int) : TVs w F (l.map lv) (l.map Ty.v) := by
  refine ⟨by simp, fun i c t hc ht => ?_⟩
  rw [List.getElem?_map] at hc ht
  cases hx : l[i]? with
  | none => rw [hx] at hc; cases hc
  | some x =>
    rw [hx] at hc ht
    injection hc with hc
    injection ht with ht
    subst hc ht
    exact TV.nil x
theorem lv_snoc (n : Nat) : ((onesL (n + 1)).map lv).flatMap c3 = ((onesL n).map lv).flatMap c3 ++ [.string ⟨#[]⟩, .int .i64 ((n : Int) + 1), .slice none 0 0] := by
  rw [onesL_succ, List.map_append, List.flatMap_append]
  rfl

set_option maxHeartbeats 2000000 in
theorem rclose_ok {w : World} {F : Nat → Prop} {a b c : Value} {t : Ty} (ht : TV w F (a, b, c) t) (hlen : (vars t).length ≤ 1000000) :
    Ret Try.prog 29 #[.agg #[a, b, c]] w fun v w' => ∃ a' b' c' A k, v = .tuple #[.agg #[.int .i64 ((varsOf t).length : Int), a', b', c'], .slice A (varsOf t).length k] ∧ TV w' (fun _ => True) (a', b', c') (canon t) ∧ Own w' (New w w') 3 1 (.slice A (varsOf t).length k) (varsOf t).length ((varsOf t).map I6) ∧ Upd No w w' := by
  replace ht := ht.bound
  have hnl := (nubA_len (vars t) []).2
  have hnl' : (varsOf t).length ≤ 1000000 := by unfold varsOf; simp only [List.length_nil] at hnl; omega
  obtain ⟨m0, A9, k9, xk9, rfl, rfl, rfl, _⟩ := ht.open
  refine enterRet (vs := [_]) (N := 29) Try.func29 rfl rfl rfl ?_
  have hU := Upd.refl No w
  refine WC.keep [(0, _)] ⟨rfl, trivial⟩ ?_
  refine WC.seq ?_
  refine WC.region ?_
  refine WL.cons (SO.alloc rfl rfl rfl rfl (r_boxAgg rfl (ev_t rfl)) ?_)
  intro w1 hu1 hB1 hz1
  have hs1 := hu1.size
  replace hU := hU.trans hu1 (by first | exact (fun _ _ h => h) | exact (fun _ _ h => h.elim) | (intro k hl hk; (try simp only [At, New, Grow, From, No] at hk ⊢); omega) | (intro k hl hk; first | exact hk.elim | (have := hG k hk; omega)))
  replace ht := ht.upd hu1 (fun k hk hl hS => by first | exact (show False from hS).elim | (simp only [At, New] at hk hS; omega) | (have := hG k hS; simp only [New] at hk; omega) | (have := hG k hS; omega))
  refine WL.cons (SO.alloc rfl rfl rfl rfl (r_alloc rfl zero_49) ?_)
  intro w2 hu2 hB2 hz2
  have hs2 := hu2.size
  replace hU := hU.trans hu2 (by first | exact (fun _ _ h => h) | exact (fun _ _ h => h.elim) | (intro k hl hk; (try simp only [At, New, Grow, From, No] at hk ⊢); omega) | (intro k hl hk; first | exact hk.elim | (have := hG k hk; omega)))
  replace ht := ht.upd hu2 (fun k hk hl hS => by first | exact (show False from hS).elim | (simp only [At, New] at hk hS; omega) | (have := hG k hS; simp only [New] at hk; omega) | (have := hG k hS; omega))
  replace hB1 := hB1.upd hu2 (by first | exact (fun h => h) | (simp only [At]; omega) | (intro hS; have := hG _ hS; omega) | (intro hS; exact (show False from hS)))
  refine WL.val rfl rfl rfl rfl (r_assign rfl ev_c) ?_
  refine WL.nil ?_
  refine WX.keep [(1, _), (2, _)] ⟨rfl, rfl, trivial⟩ ?_
  refine WX.next ?_
  refine WC.seq ?_
  refine WC.region ?_
  refine WL.val rfl rfl rfl rfl (r_loadAgg (vs := [_, _, _]) rfl (ev_t rfl) agg_28 size_28 (Blk.cellsL hB1)) ?_
  refine WL.cons (SO.call (rvars_ok _ _ (fun _ => False) _ [] none 0 _ _ _ t (Nat.le_refl _) (Own.nil _ _ _ _) ht (fun k _ h => h) (by simp only [List.length_nil]; omega)) rfl body_45 ⟨ev_c, (ev_t rfl), trivial⟩ rfl rfl rfl rfl ?_)
  rintro v w3 ⟨A, k, rfl, hv, hu3⟩
  replace hv := hv.mono (F' := New w2 w3) (fun k hk => hk.elim (fun h => h.elim) (fun h => h))
  have hvo : nubA [] (vars t) = varsOf t := rfl
  rw [hvo] at hv ⊢
  have hs3 := hu3.size
  replace hU := hU.trans hu3 (by first | exact (fun _ _ h => h) | exact (fun _ _ h => h.elim) | (intro k hl hk; (try simp only [At, New, Grow, From, No] at hk ⊢); omega) | (intro k hl hk; first | exact hk.elim | (have := hG k hk; omega)))
  replace ht := ht.upd hu3 (fun k hk hl hS => by first | exact (show False from hS).elim | (simp only [At, New] at hk hS; omega) | (have := hG k hS; simp only [New] at hk; omega) | (have := hG k hS; omega))
  replace hB1 := hB1.upd hu3 (by first | exact (fun h => h) | (simp only [At]; omega) | (intro hS; have := hG _ hS; omega) | (intro hS; exact (show False from hS)))
  replace hB2 := hB2.upd hu3 (by first | exact (fun h => h) | (simp only [At]; omega) | (intro hS; have := hG _ hS; omega) | (intro hS; exact (show False from hS)))
  refine WL.val rfl rfl rfl rfl (r_assign rfl (ev_t rfl)) ?_
  refine WL.nil ?_
  refine WX.keep [(1, _), (2, _), (4, _)] ⟨rfl, rfl, rfl, trivial⟩ ?_
  refine WX.next ?_
  refine WC.seq ?_
  refine WC.region ?_
  refine WL.val rfl rfl rfl rfl (r_assign rfl ev_c) ?_
  refine WL.nil ?_
  refine WX.keep [(1, _), (2, _), (4, _), (5, _)] ⟨rfl, rfl, rfl, rfl, trivial⟩ ?_
  refine WX.next ?_
  refine WC.seq ?_
  refine WC.seq ?_
  refine WC.region ?_
  refine WL.val rfl rfl rfl rfl (r_assign rfl ev_c) ?_
  refine WL.nil ?_
  refine WX.keep [(1, _), (2, _), (4, _), (5, _), (6, _)] ⟨rfl, rfl, rfl, rfl, rfl, trivial⟩ ?_
  refine WX.next ?_
  refine WC.block ?_
  -- loop 1: live [1, 2, 4, 5, 6]
  refine WC.keep [(1, _), (2, _), (4, _), (5, _), (6, _)] ⟨rfl, rfl, rfl, rfl, rfl, trivial⟩ ?_
  refine WC.loop (fun q E wA => ∃ (i : Nat) (Al : Option Addr) (cl : Nat) (G : Nat → Prop), i ≤ (varsOf t).length ∧ q = (varsOf t).length - i ∧ Upd No w wA ∧ w3.heap.size ≤ wA.heap.size ∧ TV wA (fun k => F k ∧ k < w.heap.size) (.string ⟨t.nm.toArray⟩, .int .i64 m0, .slice A9 t.kids.length k9) t ∧ Own wA (New w2 w3) 3 1 (.slice A (varsOf t).length k) (varsOf t).length ((varsOf t).map I6) ∧ Own wA G typ 3 (.slice Al i cl) i (((onesL i).map lv).flatMap c3) ∧ (∀ k, G k → w3.heap.size ≤ k ∧ k < wA.heap.size) ∧   Blk wA w.heap.size #[.string ⟨t.nm.toArray⟩, .int .i64 m0, .slice A9 t.kids.length k9] typ ∧ Blk wA w1.heap.size #[.int .i64 0, .string ⟨#[]⟩, .int .i64 0, .slice none 0 0] 49 ∧   E = [(1, .pointer (some ⟨w.heap.size, 0, none⟩)), (2, .pointer (some ⟨w1.heap.size, 0, none⟩)), (4, .slice A (varsOf t).length k), (5, .slice Al i cl), (6, .int .i64 (i : Int))]) ((varsOf t).length) ?_ ?_
  · exact ⟨0, none, 0, fun _ => False, by omega, by omega, hU, by omega, ht, hv, Own.nil _ _ _ _, fun k h => h.elim, hB1, hB2, rfl⟩
  · clear hU ht hv hB1 hB2
    rintro q E wA ⟨i, Al, cl, G, hi, rfl, hU, hws, ht, hv, hl, hG, hB1, hB2, rfl⟩
    have hs0 := hU.size
    refine WC.seq ?_
    refine WC.seq ?_
    refine WC.region ?_
    refine WL.val rfl rfl rfl rfl (r_move rfl (ev_t rfl)) ?_
    refine WL.val rfl rfl rfl rfl (r_move rfl (ev_t rfl)) ?_
    refine WL.val rfl rfl rfl rfl (r_lenSlice (ts := #[]) rfl (ev_t rfl) elem_33) ?_
    refine WL.val rfl rfl rfl rfl (r_lss rfl (ev_t rfl) (ev_t rfl)) ?_
    refine WL.nil ?_
    refine WX.keep [(1, _), (2, _), (4, _), (5, _), (6, _), (12, _)] ⟨rfl, rfl, rfl, rfl, rfl, rfl, trivial⟩ ?_
    refine WX.next ?_
    refine WC.cond rfl (ev_t rfl) (fun hc4 => ?_) (fun hc4 => ?_)
    · try (exfalso; first | (simp at hc4; done) | (simp only [decide_eq_true_eq, decide_eq_false_iff_not, Bool.not_eq_true', Bool.not_eq_false', Bool.not_eq_true, Bool.not_eq_false] at hc4; omega) | omega)
      all_goals
       try simp only [decide_eq_true_eq, decide_eq_false_iff_not, Bool.not_eq_true', Bool.not_eq_false', Bool.not_eq_true, Bool.not_eq_false, Option.isNone_none, Option.isNone_some, Option.isSome_none, Option.isSome_some, ne_eq, Decidable.not_not] at hc4
       refine WC.skip ?_
       refine WX.next ?_
       refine WC.seq ?_
       refine WC.block ?_
       refine WC.region ?_
       refine WL.val rfl rfl rfl rfl (r_move rfl (ev_t rfl)) ?_
       refine WL.val rfl rfl rfl rfl (r_move rfl (ev_t rfl)) ?_
       first | refine WL.val rfl rfl rfl rfl (r_addN rfl (ev_t rfl) ev_c (by simp only [inK]; omega)) ?_ | refine WL.val rfl rfl rfl rfl (r_add rfl (ev_t rfl) ev_c) ?_
       refine WL.val rfl rfl rfl rfl (r_build (cs := #[_, _, _]) (vs := [(1, _)]) rfl ⟨⟨rfl, (ev_t rfl)⟩, trivial⟩ plc_28 zero_28 rfl) ?_
       refine WL.cons (SO.alloc rfl rfl rfl rfl (r_buildSlice (cs := #[_, _, _]) (vs := [(0, _)]) rfl ⟨⟨rfl, (ev_t rfl)⟩, trivial⟩ row_26 rfl rfl) ?_)
       intro w4 hu4 hB4 hz4
       have hs4 := hu4.size
       replace hU := hU.trans hu4 (by first | exact (fun _ _ h => h) | exact (fun _ _ h => h.elim) | (intro k hl hk; (try simp only [At, New, Grow, From, No] at hk ⊢); omega) | (intro k hl hk; first | exact hk.elim | (have := hG k hk; omega)))
       replace ht := ht.upd hu4 (fun k hk hl hS => by first | exact (show False from hS).elim | (simp only [At, New] at hk hS; omega) | (have := hG k hS; simp only [New] at hk; omega) | (have := hG k hS; omega))
       replace hv := hv.upd hu4 (fun k hk hl hS => by first | exact (show False from hS).elim | (simp only [At, New] at hk hS; omega) | (have := hG k hS; simp only [New] at hk; omega) | (have := hG k hS; omega))
       replace hl := hl.upd hu4 (fun k hk hl hS => by first | exact (show False from hS).elim | (simp only [At] at hS; have := hG k hk; omega))
       replace hB1 := hB1.upd hu4 (by first | exact (fun h => h) | (simp only [At]; omega) | (intro hS; have := hG _ hS; omega) | (intro hS; exact (show False from hS)))
       replace hB2 := hB2.upd hu4 (by first | exact (fun h => h) | (simp only [At]; omega) | (intro hS; have := hG _ hS; omega) | (intro hS; exact (show False from hS)))
       refine WL.cons (SO.append hl (show Rd _ _ _ 1 3 [Value.string ⟨#[]⟩, .int .i64 ((i : Int) + 1), .slice none 0 0] from rd_one hB4) row_26 one_c3 (le_maxLen (by omega)) (by omega) rfl (ev_t rfl) (ev_t rfl) rfl rfl rfl rfl ?_)
       intro v5 w5 hl hu5
       have hs5 := hu5.size
       replace hU := hU.trans hu5 (by first | exact (fun _ _ h => h) | exact (fun _ _ h => h.elim) | (intro k hl hk; (try simp only [At, New, Grow, From, No] at hk ⊢); omega) | (intro k hl hk; first | exact hk.elim | (have := hG k hk; omega)))
       replace ht := ht.upd hu5 (fun k hk hl hS => by first | exact (show False from hS).elim | (simp only [At, New] at hk hS; omega) | (have := hG k hS; simp only [New] at hk; omega) | (have := hG k hS; omega))
       replace hv := hv.upd hu5 (fun k hk hl hS => by first | exact (show False from hS).elim | (simp only [At, New] at hk hS; omega) | (have := hG k hS; simp only [New] at hk; omega) | (have := hG k hS; omega))
       replace hB1 := hB1.upd hu5 (by first | exact (fun h => h) | (simp only [At]; omega) | (intro hS; have := hG _ hS; omega) | (intro hS; exact (show False from hS)))
       replace hB2 := hB2.upd hu5 (by first | exact (fun h => h) | (simp only [At]; omega) | (intro hS; have := hG _ hS; omega) | (intro hS; exact (show False from hS)))
       obtain ⟨A5, c5, rfl, hc5⟩ := Own.form hl
       rw [← lv_snoc] at hl
       refine WL.val rfl rfl rfl rfl (r_assign rfl (ev_t rfl)) ?_
       refine WL.nil ?_
       refine WX.keep [(1, _), (2, _), (4, _), (5, _), (6, _)] ⟨rfl, rfl, rfl, rfl, rfl, trivial⟩ ?_
       refine WX.blockNormal ?_
       refine WX.next ?_
       refine WC.region ?_
       refine WL.val rfl rfl rfl rfl (r_move rfl (ev_t rfl)) ?_
       first | refine WL.val rfl rfl rfl rfl (r_addN rfl (ev_t rfl) ev_c (by simp only [inK]; omega)) ?_ | refine WL.val rfl rfl rfl rfl (r_add rfl (ev_t rfl) ev_c) ?_
       refine WL.val rfl rfl rfl rfl (r_assign rfl (ev_t rfl)) ?_
       refine WL.nil ?_
       refine WX.keep [(1, _), (2, _), (4, _), (5, _), (6, _)] ⟨rfl, rfl, rfl, rfl, rfl, trivial⟩ ?_
       refine WX.meet [(1, _), (2, _), (4, _), (5, _), (6, _)] ⟨rfl, rfl, rfl, rfl, rfl, trivial⟩ ?_
       refine ⟨(varsOf t).length - (i + 1), by omega, i + 1, _, _, _, by omega, rfl, hU, by omega, ht, hv, hl, fun k hk => ?_, hB1, hB2, by simp⟩
       rcases hk with hk | hk
       · have := hG k hk; omega
       · omega
    · try (exfalso; first | (simp at hc4; done) | (simp only [decide_eq_true_eq, decide_eq_false_iff_not, Bool.not_eq_true', Bool.not_eq_false', Bool.not_eq_true, Bool.not_eq_false] at hc4; omega) | omega)
      all_goals
       try simp only [decide_eq_true_eq, decide_eq_false_iff_not, Bool.not_eq_true', Bool.not_eq_false', Bool.not_eq_true, Bool.not_eq_false, Option.isNone_none, Option.isNone_some, Option.isSome_none, Option.isSome_some, ne_eq, Decidable.not_not] at hc4
       obtain rfl : i = (varsOf t).length := by omega
       have hon : ((onesL (varsOf t).length).map Ty.v).length = (varsOf t).length := by simp [onesL_len]
       have hrl : Rd wA (fun k => k ≠ w1.heap.size) (.slice Al (varsOf t).length cl) ((onesL (varsOf t).length).map Ty.v).length 3 (((onesL (varsOf t).length).map lv).flatMap c3) := by rw [hon]; exact (hl.rd (by omega)).mono fun k hk => by have := hG k hk; omega
       refine WC.exit ?_
       refine WX.thenExit ?_
       refine WX.thenExit ?_
       refine WX.blockHere ?_
       refine WX.next ?_
       refine WC.seq ?_
       refine WC.region ?_
       refine WL.val rfl rfl rfl rfl (r_move rfl (ev_t rfl)) ?_
       refine WL.val rfl rfl rfl rfl (r_lenSlice (ts := #[]) rfl (ev_t rfl) elem_33) ?_
       refine WL.val rfl rfl rfl rfl (r_loadAgg (vs := [_, _, _]) rfl (ev_t rfl) agg_28 size_28 (Blk.cellsL hB1)) ?_
       refine WL.val rfl rfl rfl rfl (r_move rfl (ev_t rfl)) ?_
       refine WL.val rfl rfl rfl rfl (r_move rfl (ev_t rfl)) ?_
       refine WL.cons (SO.call (put_ok (vs := varsOf t) (ls := (onesL (varsOf t).length).map Ty.v) (by rw [hon]; exact Nat.le_refl _) _ (fun k => k ≠ w1.heap.size) _ _ _ _ _ t (Nat.le_refl _) (ht.mono fun k hk => by have := hk.2; omega) ((hv.rd (by omega)).mono fun k hk => by simp only [New] at hk; omega) hrl (tvs_lv _ _ _)) rfl body_17 ⟨(ev_t rfl), (ev_t rfl), (ev_t rfl), trivial⟩ rfl rfl rfl rfl ?_)
       rintro v w6 ⟨e1, e2, e3, rfl, hq, hu6⟩
       replace hq := hq.mono (F' := fun k => k ≠ w1.heap.size) (fun k hk => by rcases hk with hk | hk; exact hk; simp only [New] at hk; omega)
       obtain ⟨mq, Aq, kq, xkq, rfl, rfl, rfl, _⟩ := hq.open
       have hs6 := hu6.size
       replace hU := hU.trans hu6 (by first | exact (fun _ _ h => h) | exact (fun _ _ h => h.elim) | (intro k hl hk; (try simp only [At, New, Grow, From, No] at hk ⊢); omega) | (intro k hl hk; first | exact hk.elim | (have := hG k hk; omega)))
       replace hv := hv.upd hu6 (fun k hk hl hS => by first | exact (show False from hS).elim | (simp only [At, New] at hk hS; omega) | (have := hG k hS; simp only [New] at hk; omega) | (have := hG k hS; omega))
       replace hB1 := hB1.upd hu6 (by first | exact (fun h => h) | (simp only [At]; omega) | (intro hS; have := hG _ hS; omega) | (intro hS; exact (show False from hS)))
       replace hB2 := hB2.upd hu6 (by first | exact (fun h => h) | (simp only [At]; omega) | (intro hS; have := hG _ hS; omega) | (intro hS; exact (show False from hS)))
       refine WL.val rfl rfl rfl rfl (r_build (cs := #[_, _, _, _]) (vs := [(0, _), (1, _)]) rfl ⟨⟨rfl, (ev_t rfl)⟩, ⟨rfl, (ev_t rfl)⟩, trivial⟩ plc_49 zero_49 rfl) ?_
       refine WL.val rfl rfl rfl rfl (r_move rfl (ev_t rfl)) ?_
       refine WL.cons (SO.storeAll (us := [_, _, _, _]) rfl (ev_t rfl) (ev_t rfl) size_49 hB2 rfl rfl rfl rfl rfl ?_)
       intro w7 hu7 hB2 hz7
       have hs7 := hu7.size
       replace hU := hU.trans hu7 (by first | exact (fun _ _ h => h) | exact (fun _ _ h => h.elim) | (intro k hl hk; (try simp only [At, New, Grow, From, No] at hk ⊢); omega) | (intro k hl hk; first | exact hk.elim | (have := hG k hk; omega)))
       replace hv := hv.upd hu7 (fun k hk hl hS => by first | exact (show False from hS).elim | (simp only [At, New] at hk hS; omega) | (have := hG k hS; simp only [New] at hk; omega) | (have := hG k hS; omega))
       replace hB1 := hB1.upd hu7 (by first | exact (fun h => h) | (simp only [At]; omega) | (intro hS; have := hG _ hS; omega) | (intro hS; exact (show False from hS)))
       replace hq := hq.upd hu7 (fun k hk hl hS => by first | exact (show False from hS).elim | exact hk hS)
       refine WL.val rfl rfl rfl rfl (r_assign rfl (ev_t rfl)) ?_
       refine WL.nil ?_
       refine WX.keep [(2, _), (3, _)] ⟨rfl, rfl, trivial⟩ ?_
       refine WX.next ?_
       refine WC.ret ?_
       refine WX.retM (l := [.cell 2 49, .tmp 3]) (vs := [_, _]) rfl ⟨⟨_, [_, _, _, _], rfl, agg_49, size_49, (Blk.cellsL hB2), rfl⟩, ⟨rfl, trivial⟩⟩ ?_
       exact ⟨_, _, _, _, _, rfl, hq.mono fun _ _ => trivial, hv.mono fun k hk => by simp only [New] at *; omega, hU⟩

theorem cells_tl {w : World} {g : Nat} {n a b c : Value} {T : TypeId} (h : Blk w g #[n, a, b, c] T) : CellsAt w ⟨g, 1, none⟩ [a, b, c] := Blk.cellsP h fun j v hj => by
  match j, hj with
  | 0, hj => simpa using hj
  | 1, hj => simpa using hj
  | 2, hj => simpa using hj
  | j + 3, hj => simp at hj
theorem tv_star {w : World} {F : Nat → Prop} {v : Value} {xs : List C3} {ts : List Ty} (hr : Rd w F v ts.length 3 (xs.flatMap c3)) (hk : TVs w F xs ts) (hl : ts.length ≤ 1000000) : TV w F (.string ⟨#[42]⟩, .int .i64 0, v) (.c nStar ts) :=
  TV.kids (t := .c nStar ts) (fun y e => by cases e) hr hl hk
theorem alike_ok {w : World} {F : Nat → Prop} {av bv : Value} {xa xb : List C3} {la lb : List Ty} (hra : Rd w F av la.length 3 (xa.flatMap c3)) (hka : TVs w F xa la) (hrb : Rd w F bv lb.length 3 (xb.flatMap c3)) (hkb : TVs w F xb lb) (hla : la.length ≤ 1000) (hlb : lb.length ≤ 1000) (hva : (vars (.c nStar la)).length ≤ 1000000) (hvb : (vars (.c nStar lb)).length ≤ 1000000) :
    Ret Try.prog 20 #[av, bv] w fun v w' => ∃ bb, v = .bool bb ∧ (bb = true ↔ canon (.c nStar la) = canon (.c nStar lb)) ∧ Upd No w w' := by
  replace hra := hra.bound
  replace hrb := hrb.bound
  replace hka := hka.bound
  replace hkb := hkb.bound
  obtain ⟨Aa, ca, rfl, _⟩ := hra.slice_form
  obtain ⟨Ab, cb, rfl, _⟩ := hrb.slice_form
  have hta := tv_star hra hka (by omega)
  have htb := tv_star hrb hkb (by omega)
  refine enterRet (vs := [_, _]) (N := 26) Try.func20 rfl rfl rfl ?_
  have hU := Upd.refl No w
  refine WC.keep [(0, _), (1, _)] ⟨rfl, rfl, trivial⟩ ?_
  refine WC.seq ?_
  refine WC.region ?_
  refine WL.val rfl rfl rfl rfl (r_assign rfl ev_c) ?_
  refine WL.nil ?_
  refine WX.keep [(0, _), (1, _)] ⟨rfl, rfl, trivial⟩ ?_
  refine WX.next ?_
  refine WC.seq ?_
  refine WC.region ?_
  refine WL.val rfl rfl rfl rfl (r_move rfl (ev_t rfl)) ?_
  refine WL.val rfl rfl rfl rfl (r_build (cs := #[_, _, _]) (vs := [(0, _), (2, _)]) rfl ⟨⟨rfl, ev_c⟩, ⟨rfl, (ev_t rfl)⟩, trivial⟩ plc_28 zero_28 rfl) ?_
  refine WL.cons (SO.call (rclose_ok hta hva) rfl body_29 ⟨(ev_t rfl), trivial⟩ rfl rfl rfl rfl ?_)
  rintro v w1 ⟨a1, a2, a3, Av, kv, rfl, hqa, _, hu1⟩
  obtain ⟨m1, A1, k1, xk1, rfl, rfl, rfl, _⟩ := hqa.open
  replace hqa := hqa.bound
  have hs1 := hu1.size
  replace hU := hU.transA hu1
  replace htb := htb.upd hu1 (fun k hk hl hS => by first | exact (show False from hS).elim | (simp only [At] at hS; omega))
  refine WL.val rfl rfl rfl rfl (r_move rfl (ev_t rfl)) ?_
  refine WL.val rfl rfl rfl rfl (r_extract rfl (ev_t rfl) rfl) ?_
  refine WL.val rfl rfl rfl rfl (r_extract rfl (ev_t rfl) rfl) ?_
  refine WL.cons (SO.alloc rfl rfl rfl rfl (r_alloc rfl zero_49) ?_)
  intro w2 hu2 hB2 hz2
  have hs2 := hu2.size
  replace hU := hU.transA hu2
  replace htb := htb.upd hu2 (fun k hk hl hS => by first | exact (show False from hS).elim | (simp only [At] at hS; omega))
  replace hqa := hqa.upd hu2 (fun k hk hl hS => by first | exact (show False from hS).elim | (simp only [At] at hS; have := hk.2; omega))
  refine WL.cons (SO.storeAll (us := [_, _, _, _]) rfl (ev_t rfl) (ev_t rfl) size_49 hB2 rfl rfl rfl rfl rfl ?_)
  intro w3 hu3 hB2 hz3
  have hs3 := hu3.size
  replace hU := hU.transA hu3
  replace htb := htb.upd hu3 (fun k hk hl hS => by first | exact (show False from hS).elim | (simp only [At] at hS; omega))
  replace hqa := hqa.upd hu3 (fun k hk hl hS => by first | exact (show False from hS).elim | (simp only [At] at hS; have := hk.2; omega))
  refine WL.val rfl rfl rfl rfl (r_assign rfl (ev_t rfl)) ?_
  refine WL.nil ?_
  refine WX.keep [(1, _), (5, _)] ⟨rfl, rfl, trivial⟩ ?_
  refine WX.next ?_
  refine WC.seq ?_
  have hb5 := hB2
  refine WC.region ?_
  refine WL.val rfl rfl rfl rfl (r_move rfl (ev_t rfl)) ?_
  refine WL.val rfl rfl rfl rfl (r_build (cs := #[_, _, _]) (vs := [(0, _), (2, _)]) rfl ⟨⟨rfl, ev_c⟩, ⟨rfl, (ev_t rfl)⟩, trivial⟩ plc_28 zero_28 rfl) ?_
  refine WL.cons (SO.call (rclose_ok htb hvb) rfl body_29 ⟨(ev_t rfl), trivial⟩ rfl rfl rfl rfl ?_)
  rintro v w4 ⟨b1, b2, b3, Bv, lv', rfl, hqb, _, hu4⟩
  obtain ⟨m2, A2, k2, xk2, rfl, rfl, rfl, _⟩ := hqb.open
  replace hqb := hqb.bound
  have hs4 := hu4.size
  replace hU := hU.transA hu4
  replace htb := htb.upd hu4 (fun k hk hl hS => by first | exact (show False from hS).elim | (simp only [At] at hS; omega))
  replace hqa := hqa.upd hu4 (fun k hk hl hS => by first | exact (show False from hS).elim | (simp only [At] at hS; have := hk.2; omega))
  replace hb5 := hb5.updA hu4
  refine WL.val rfl rfl rfl rfl (r_move rfl (ev_t rfl)) ?_
  refine WL.val rfl rfl rfl rfl (r_extract rfl (ev_t rfl) rfl) ?_
  refine WL.val rfl rfl rfl rfl (r_extract rfl (ev_t rfl) rfl) ?_
  refine WL.cons (SO.alloc rfl rfl rfl rfl (r_alloc rfl zero_49) ?_)
  intro w5 hu5 hB5 hz5
  have hs5 := hu5.size
  replace hU := hU.transA hu5
  replace hqa := hqa.upd hu5 (fun k hk hl hS => by first | exact (show False from hS).elim | (simp only [At] at hS; have := hk.2; omega))
  replace hb5 := hb5.updA hu5
  replace hqb := hqb.upd hu5 (fun k hk hl hS => by first | exact (show False from hS).elim | (simp only [At] at hS; have := hk.2; omega))
  refine WL.cons (SO.storeAll (us := [_, _, _, _]) rfl (ev_t rfl) (ev_t rfl) size_49 hB5 rfl rfl rfl rfl rfl ?_)
  intro w6 hu6 hB5 hz6
  have hs6 := hu6.size
  replace hU := hU.transA hu6
  replace hqa := hqa.upd hu6 (fun k hk hl hS => by first | exact (show False from hS).elim | (simp only [At] at hS; have := hk.2; omega))
  replace hb5 := hb5.updA hu6
  replace hqb := hqb.upd hu6 (fun k hk hl hS => by first | exact (show False from hS).elim | (simp only [At] at hS; have := hk.2; omega))
  refine WL.val rfl rfl rfl rfl (r_assign rfl (ev_t rfl)) ?_
  refine WL.nil ?_
  refine WX.keep [(5, _), (7, _)] ⟨rfl, rfl, trivial⟩ ?_
  refine WX.next ?_
  refine WC.seq ?_
  refine WC.region ?_
  first | refine WL.val rfl rfl rfl rfl (r_field0 rfl (ev_t rfl) fld_49_1) ?_ | refine WL.val rfl rfl rfl rfl (r_fieldAt rfl (ev_t rfl) fld_49_1) ?_
  refine WL.val rfl rfl rfl rfl (r_loadAgg (vs := [_, _, _]) rfl (ev_t rfl) agg_28 size_28 (cells_tl hb5)) ?_
  first | refine WL.val rfl rfl rfl rfl (r_field0 rfl (ev_t rfl) fld_49_1) ?_ | refine WL.val rfl rfl rfl rfl (r_fieldAt rfl (ev_t rfl) fld_49_1) ?_
  refine WL.val rfl rfl rfl rfl (r_loadAgg (vs := [_, _, _]) rfl (ev_t rfl) agg_28 size_28 (cells_tl hB5)) ?_
  refine WL.cons (SO.call (rsame_ok _ (fun _ => True) _ _ _ _ _ _ _ _ _ (Nat.le_refl _) (hqa.mono fun _ _ => trivial) (hqb.mono fun _ _ => trivial)) rfl body_16 ⟨(ev_t rfl), (ev_t rfl), trivial⟩ rfl rfl rfl rfl ?_)
  rintro v w7 ⟨bb, rfl, hbb, hu7⟩
  clear hqa hqb
  have hs7 := hu7.size
  replace hU := hU.transA hu7
  replace hb5 := hb5.updA hu7
  replace hB5 := hB5.updA hu7
  refine WL.val rfl rfl rfl rfl (r_assign rfl (ev_t rfl)) ?_
  refine WL.nil ?_
  refine WX.keep [(4, _)] ⟨rfl, trivial⟩ ?_
  refine WX.next ?_
  refine WC.ret ?_
  refine WX.retE1 rfl rfl ?_
  exact ⟨bb, rfl, hbb, hU⟩
end Go.Proofs.Ytncakfcafkfmfaa
