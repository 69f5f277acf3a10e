/-
  types: Apply.
-/
import Derived.Test.YtncakfcafkfmfaaTyb
namespace Go.Proofs.Ytncakfcafkfmfaa
open Go
set_option linter.unusedSimpArgs false
set_option linter.unusedVariables false

/-- a slice of one type that was just built -/
theorem rd_one {w : World} {g : Nat} {a b c : Value} (h : Blk w g #[a, b, c] typ) : Rd w (At g) (.slice (some ⟨g, 0, none⟩) 1 1) 1 3 [a, b, c] := Rd.of_blk (n := 1) h rfl rfl (by omega)
theorem one_c3 {s : ByteArray} {m : Int} {A : Option Addr} {n k : Nat} : ∀ u ∈ [Value.string s, .int .i64 m, .slice A n k], u.oneCell' = true := fun u hu => by
  simp at hu
  rcases hu with rfl | rfl | rfl <;> rfl
theorem flat_snoc (ys : List C3) (a b c : Value) : (ys ++ [(a, b, c)]).flatMap c3 = ys.flatMap c3 ++ [a, b, c] := by simp [c3]
theorem take_map_snoc {l : List Ty} {f : Ty → Ty} {i : Nat} (h : i < l.length) : (l.take (i + 1)).map f = (l.take i).map f ++ [f l[i]] := by
  rw [List.take_succ_eq_append_getElem h, List.map_append]
  rfl

set_option maxHeartbeats 2000000 in
theorem apply_ok {p m1 m2 : Nat} {σ : Sg} {D : Dn} {nn : Int} {xs : List C3} (hw : WF σ) : ∀ (N : Nat) (F : Nat → Prop) (w : World) (a b c : Value) (t : Ty), sz (ext (th σ) t) ≤ N → IsS w F p m1 m2 σ D nn xs → TV w F (a, b, c) t →
    Ret Try.prog 18 #[.pointer (some ⟨p, 0, none⟩), .agg #[a, b, c]] w fun v w' => ∃ a' b' c', v = .agg #[a', b', c'] ∧ TV w' (New w w') (a', b', c') (ext (th σ) t) ∧ Upd No w w' := by
  intro N
  induction N with
  | zero =>
    intro F w a b c t hN
    have := sz_pos (ext (th σ) t)
    omega
  | succ N ih =>
    intro F w a b c t hN hI ht
    replace hI := hI.bound
    replace ht := ht.bound
    obtain ⟨h, hh⟩ := hw.hd t
    obtain ⟨fu, hfu⟩ := hh.fuel
    have hsz := head_sz hw hh
    obtain ⟨e1, e2, e3⟩ := head_ext hw hh
    obtain ⟨m0, A9, k9, xk9, rfl, rfl, rfl, _⟩ := ht.open
    refine enterRet (vs := [_, _]) (N := 33) Try.func18 rfl rfl rfl ?_
    have hU := Upd.refl No w
    refine WC.keep [(0, _), (1, _)] ⟨rfl, rfl, trivial⟩ ?_
    refine WC.seq ?_
    refine WC.region ?_
    refine WL.cons (SO.alloc rfl rfl rfl rfl (r_boxAgg rfl (ev_t rfl)) ?_)
    intro w1 hu1 hB1 hz1
    have hs1 := hu1.size
    replace hU := hU.trans hu1 (by first | exact (fun _ _ h => h) | exact (fun _ _ h => h.elim) | (intro k hl hk; (try simp only [At, New, Grow, From, No] at hk ⊢); omega) | (intro k hl hk; have := hG k hk; omega))
    refine WL.cons (SO.alloc rfl rfl rfl rfl (r_alloc rfl zero_28) ?_)
    intro w2 hu2 hB2 hz2
    have hs2 := hu2.size
    replace hU := hU.trans hu2 (by first | exact (fun _ _ h => h) | exact (fun _ _ h => h.elim) | (intro k hl hk; (try simp only [At, New, Grow, From, No] at hk ⊢); omega) | (intro k hl hk; have := hG k hk; omega))
    replace hB1 := hB1.updA hu2
    refine WL.nil ?_
    refine WX.keep [(0, _), (3, _), (4, _)] ⟨rfl, rfl, rfl, trivial⟩ ?_
    refine WX.next ?_
    refine WC.seq ?_
    refine WC.region ?_
    refine WL.val rfl rfl rfl rfl (r_move rfl (ev_t rfl)) ?_
    refine WL.val rfl rfl rfl rfl (r_loadAgg (vs := [_, _, _]) rfl (ev_t rfl) agg_28 size_28 (Blk.cellsL hB1)) ?_
    refine WL.cons (SO.call (head_ok (hI.updN hU) (ht.upd hU (fun _ _ _ h => h)) (hfu fu (Nat.le_refl _))) rfl body_31 ⟨(ev_t rfl), (ev_t rfl), trivial⟩ rfl rfl rfl rfl ?_)
    rintro v w3 ⟨a', b', c', rfl, hth, hu3⟩
    obtain ⟨m, A0, k0, xk, rfl, rfl, rfl, hm, hr, hl, hb, hk⟩ := hth.open
    have hks : TVs w2 _ xk h.kids := ⟨hl, hk⟩
    have hs3 := hu3.size
    replace hU := hU.trans hu3 (by first | exact (fun _ _ h => h) | exact (fun _ _ h => h.elim) | (intro k hl hk; (try simp only [At, New, Grow, From, No] at hk ⊢); omega) | (intro k hl hk; have := hG k hk; omega))
    replace hB1 := hB1.updA hu3
    replace hB2 := hB2.updA hu3
    replace hr := hr.updA hu3
    replace hks := hks.updA hu3
    refine WL.cons (SO.storeAll (us := [_, _, _]) rfl (ev_t rfl) (ev_t rfl) size_28 hB1 rfl rfl rfl rfl rfl ?_)
    intro w4 hu4 hB1 hz4
    have hs4 := hu4.size
    replace hU := hU.trans hu4 (by first | exact (fun _ _ h => h) | exact (fun _ _ h => h.elim) | (intro k hl hk; (try simp only [At, New, Grow, From, No] at hk ⊢); omega) | (intro k hl hk; have := hG k hk; omega))
    replace hB2 := hB2.updA hu4
    replace hr := hr.upd hu4 (fun k hk hl hS => by first | exact (show False from hS).elim | (simp only [At] at hS; omega) | (have := hG k hS; omega))
    replace hks := hks.upd hu4 (fun k hk hl hS => by first | exact (show False from hS).elim | (simp only [At] at hS; omega) | (have := hG k hS; omega))
    refine WL.nil ?_
    refine WX.keep [(0, _), (3, _), (4, _)] ⟨rfl, rfl, rfl, trivial⟩ ?_
    refine WX.next ?_
    refine WC.seq ?_
    refine WC.region ?_
    first | refine WL.val rfl rfl rfl rfl (r_field0 rfl (ev_t rfl) fld_28_0) ?_ | refine WL.val rfl rfl rfl rfl (r_fieldAt rfl (ev_t rfl) fld_28_0) ?_
    first | refine WL.val rfl rfl rfl rfl (r_load rfl (ev_t rfl) flat_9 (Blk.cell hB1 rfl)) ?_ | refine WL.val rfl rfl rfl rfl (r_load rfl (ev_t rfl) flat_9 (Blk.cell hB2 rfl)) ?_
    first | refine WL.val rfl rfl rfl rfl (r_field0 rfl (ev_t rfl) fld_28_1) ?_ | refine WL.val rfl rfl rfl rfl (r_fieldAt rfl (ev_t rfl) fld_28_1) ?_
    first | refine WL.val rfl rfl rfl rfl (r_load rfl (ev_t rfl) flat_3 (Blk.cell hB1 rfl)) ?_ | refine WL.val rfl rfl rfl rfl (r_load rfl (ev_t rfl) flat_3 (Blk.cell hB2 rfl)) ?_
    refine WL.val rfl rfl rfl rfl (r_build (cs := #[_, _, _]) (vs := [(0, _), (1, _)]) rfl ⟨⟨rfl, (ev_t rfl)⟩, ⟨rfl, (ev_t rfl)⟩, trivial⟩ plc_28 zero_28 rfl) ?_
    refine WL.cons (SO.alloc rfl rfl rfl rfl (r_alloc rfl zero_28) ?_)
    intro w5 hu5 hB5 hz5
    have hs5 := hu5.size
    replace hU := hU.trans hu5 (by first | exact (fun _ _ h => h) | exact (fun _ _ h => h.elim) | (intro k hl hk; (try simp only [At, New, Grow, From, No] at hk ⊢); omega) | (intro k hl hk; have := hG k hk; omega))
    replace hB1 := hB1.updA hu5
    replace hB2 := hB2.updA hu5
    replace hr := hr.upd hu5 (fun k hk hl hS => by first | exact (show False from hS).elim | (simp only [At] at hS; omega) | (have := hG k hS; omega))
    replace hks := hks.upd hu5 (fun k hk hl hS => by first | exact (show False from hS).elim | (simp only [At] at hS; omega) | (have := hG k hS; omega))
    refine WL.cons (SO.storeAll (us := [_, _, _]) rfl (ev_t rfl) (ev_t rfl) size_28 hB5 rfl rfl rfl rfl rfl ?_)
    intro w6 hu6 hB5 hz6
    have hs6 := hu6.size
    replace hU := hU.trans hu6 (by first | exact (fun _ _ h => h) | exact (fun _ _ h => h.elim) | (intro k hl hk; (try simp only [At, New, Grow, From, No] at hk ⊢); omega) | (intro k hl hk; have := hG k hk; omega))
    replace hB1 := hB1.updA hu6
    replace hB2 := hB2.updA hu6
    replace hr := hr.upd hu6 (fun k hk hl hS => by first | exact (show False from hS).elim | (simp only [At] at hS; omega) | (have := hG k hS; omega))
    replace hks := hks.upd hu6 (fun k hk hl hS => by first | exact (show False from hS).elim | (simp only [At] at hS; omega) | (have := hG k hS; omega))
    refine WL.nil ?_
    refine WX.keep [(0, _), (3, _), (4, _), (5, _)] ⟨rfl, rfl, rfl, rfl, trivial⟩ ?_
    refine WX.next ?_
    refine WC.seq ?_
    refine WC.seq ?_
    refine WC.region ?_
    first | refine WL.val rfl rfl rfl rfl (r_field0 rfl (ev_t rfl) fld_28_2) ?_ | refine WL.val rfl rfl rfl rfl (r_fieldAt rfl (ev_t rfl) fld_28_2) ?_
    refine WL.val rfl rfl rfl rfl (r_load rfl (ev_t rfl) flat_26 (Blk.cell hB1 rfl)) ?_
    refine WL.val rfl rfl rfl rfl (r_lenSlice (ts := #[]) rfl (ev_t rfl) elem_26) ?_
    refine WL.val rfl rfl rfl rfl (r_move rfl ev_c) ?_
    refine WL.nil ?_
    refine WX.keep [(0, _), (4, _), (5, _), (17, _), (18, _), (19, _)] ⟨rfl, rfl, rfl, rfl, rfl, rfl, trivial⟩ ?_
    refine WX.next ?_
    refine WC.block ?_
    -- loop 1: live [0, 4, 5, 17, 18, 19]
    refine WC.keep [(0, _), (4, _), (5, _), (17, _), (18, _), (19, _)] ⟨rfl, rfl, rfl, rfl, rfl, rfl, trivial⟩ ?_
    refine WC.loop (fun q E w' => ∃ (i : Nat) (A5 : Option Addr) (c5 : Nat) (ys : List C3) (G T : Nat → Prop), i ≤ h.kids.length ∧ q = h.kids.length - i ∧ Upd No w w' ∧ w5.heap.size ≤ w'.heap.size ∧ Rd w' (fun k => F k ∧ k < w.heap.size) (.slice A0 h.kids.length k0) h.kids.length 3 (xk.flatMap c3) ∧ TVs w' (fun k => F k ∧ k < w.heap.size) xk h.kids ∧   Blk w' w1.heap.size #[.string ⟨#[]⟩, .int .i64 0, .slice none 0 0] typ ∧ Blk w' w4.heap.size #[.string ⟨h.nm.toArray⟩, .int .i64 m, .slice A5 i c5] typ ∧ Own w' G typ 3 (.slice A5 i c5) i (ys.flatMap c3) ∧ TVs w' T ys ((h.kids.take i).map (ext (th σ))) ∧ (∀ k, G k → w5.heap.size ≤ k ∧ k < w'.heap.size) ∧ (∀ k, T k → w5.heap.size ≤ k ∧ k < w'.heap.size ∧ ¬ G k) ∧   E = [(0, .pointer (some ⟨p, 0, none⟩)), (4, .pointer (some ⟨w1.heap.size, 0, none⟩)), (5, .pointer (some ⟨w4.heap.size, 0, none⟩)), (17, .slice A0 h.kids.length k0), (18, .int .i64 (h.kids.length : Int)), (19, .int .i64 (i : Int))]) (h.kids.length) ?_ ?_
    · exact ⟨0, none, 0, [], fun _ => False, fun _ => False, by omega, by omega, hU, by omega, hr, hks, hB2, hB5, Own.nil _ _ _ _, TVs.nil _ _, fun k h => h.elim, fun k h => h.elim, rfl⟩
    · rintro q E w' ⟨i, A5, c5, ys, G, T, hi, rfl, hU, hws, hr, hks, hb4, hb5, ho, hys, hG, hT, rfl⟩
      have hs0 := hU.size
      refine WC.seq ?_
      refine WC.region ?_
      refine WL.val rfl rfl rfl rfl (r_lss rfl (ev_t rfl) (ev_t rfl)) ?_
      refine WL.nil ?_
      refine WX.keep [(0, _), (4, _), (5, _), (17, _), (18, _), (19, _), (20, _)] ⟨rfl, rfl, rfl, rfl, rfl, rfl, rfl, trivial⟩ ?_
      refine WX.next ?_
      refine WC.seq ?_
      refine WC.cond rfl (ev_t rfl) (fun hc4 => ?_) (fun hc4 => ?_)
      · try (exfalso; first | (simp at hc4; done) | (simp only [decide_eq_true_eq, decide_eq_false_iff_not, Bool.not_eq_true', Bool.not_eq_false', Bool.not_eq_true, Bool.not_eq_false] at hc4; omega) | omega)
        all_goals
         try simp only [decide_eq_true_eq, decide_eq_false_iff_not, Bool.not_eq_true', Bool.not_eq_false', Bool.not_eq_true, Bool.not_eq_false, Option.isNone_none, Option.isNone_some, Option.isSome_none, Option.isSome_some, ne_eq, Decidable.not_not] at hc4
         have hi' : i < h.kids.length := by omega
         obtain ⟨b0, off, rfl, _⟩ := hr.open (by omega)
         have hxi : xk[i]? = some xk[i] := List.getElem?_eq_getElem (by have := hks.1; omega)
         have hki : h.kids[i]? = some h.kids[i] := List.getElem?_eq_getElem hi'
         have htk := hks.2 i _ _ hxi hki
         have htake := take_map_snoc (f := ext (th σ)) hi'
         have hkl := kid_lt (σ := σ) hi'
         generalize xk[i] = ck at *
         generalize h.kids[i] = kk at *
         obtain ⟨ca, cb, cc⟩ := ck
         have hcel := kid_cells hr hxi rfl
         obtain ⟨m3, A3, k3, xk3, rfl, rfl, rfl, _⟩ := htk.open
         refine WC.skip ?_
         refine WX.next ?_
         refine WC.seq ?_
         refine WC.block ?_
         refine WC.seq ?_
         refine WC.region ?_
         refine WL.val rfl rfl rfl rfl (r_indexAddr rfl (ev_t rfl) (ev_t rfl) elem_26 size_28 (by omega) (by omega)) ?_
         refine WL.val rfl rfl rfl rfl (r_loadAgg (vs := [_, _, _]) rfl (ev_t rfl) agg_28 size_28 hcel) ?_
         skip
         refine WL.cons (SO.alloc rfl rfl rfl rfl (r_alloc rfl zero_28) ?_)
         intro w7 hu7 hB7 hz7
         have hs7 := hu7.size
         replace hU := hU.trans hu7 (by first | exact (fun _ _ h => h) | exact (fun _ _ h => h.elim) | (intro k hl hk; (try simp only [At, New, Grow, From, No] at hk ⊢); omega) | (intro k hl hk; have := hG k hk; omega))
         replace hr := hr.upd hu7 (fun k hk hl hS => by first | exact (show False from hS).elim | (simp only [At] at hS; omega) | (have := hG k hS; omega))
         replace hks := hks.upd hu7 (fun k hk hl hS => by first | exact (show False from hS).elim | (simp only [At] at hS; omega) | (have := hG k hS; omega))
         replace hb4 := hb4.upd hu7 (by first | exact (fun h => h) | (simp only [At]; omega) | (intro hS; have := hG _ hS; omega))
         replace hb5 := hb5.upd hu7 (by first | exact (fun h => h) | (simp only [At]; omega) | (intro hS; have := hG _ hS; omega))
         replace ho := ho.upd hu7 (fun k hk hl hS => by first | exact (show False from hS).elim | (simp only [At] at hS; first | (have := hG k hk; omega) | (rcases hk with hk | hk <;> first | (have := hG k hk; omega) | omega)))
         replace hys := hys.upd hu7 (fun k hk hl hS => by have := hT k hk; first | exact (show False from hS).elim | (simp only [At] at hS; omega))
         replace htk := htk.upd hu7 (fun k hk hl hS => by first | exact (show False from hS).elim | (simp only [At] at hS; omega) | (have := hG k hS; omega))
         refine WL.cons (SO.storeAll (us := [_, _, _]) rfl (ev_t rfl) (ev_t rfl) size_28 hB7 rfl rfl rfl rfl rfl ?_)
         intro w8 hu8 hB7 hz8
         have hs8 := hu8.size
         replace hU := hU.trans hu8 (by first | exact (fun _ _ h => h) | exact (fun _ _ h => h.elim) | (intro k hl hk; (try simp only [At, New, Grow, From, No] at hk ⊢); omega) | (intro k hl hk; have := hG k hk; omega))
         replace hr := hr.upd hu8 (fun k hk hl hS => by first | exact (show False from hS).elim | (simp only [At] at hS; omega) | (have := hG k hS; omega))
         replace hks := hks.upd hu8 (fun k hk hl hS => by first | exact (show False from hS).elim | (simp only [At] at hS; omega) | (have := hG k hS; omega))
         replace hb4 := hb4.upd hu8 (by first | exact (fun h => h) | (simp only [At]; omega) | (intro hS; have := hG _ hS; omega))
         replace hb5 := hb5.upd hu8 (by first | exact (fun h => h) | (simp only [At]; omega) | (intro hS; have := hG _ hS; omega))
         replace ho := ho.upd hu8 (fun k hk hl hS => by first | exact (show False from hS).elim | (simp only [At] at hS; first | (have := hG k hk; omega) | (rcases hk with hk | hk <;> first | (have := hG k hk; omega) | omega)))
         replace hys := hys.upd hu8 (fun k hk hl hS => by have := hT k hk; first | exact (show False from hS).elim | (simp only [At] at hS; omega))
         replace htk := htk.upd hu8 (fun k hk hl hS => by first | exact (show False from hS).elim | (simp only [At] at hS; omega) | (have := hG k hS; omega))
         refine WL.nil ?_
         refine WX.keep [(0, _), (4, _), (5, _), (7, _), (17, _), (18, _), (19, _)] ⟨rfl, rfl, rfl, rfl, rfl, rfl, rfl, trivial⟩ ?_
         refine WX.next ?_
         refine WC.draws' (fun u0_ u1_ => Upd No u0_ u1_) (fun j => [0, 0, 0, 1, 1, 1, 2, 0, 2].getD j 0) (.calm 0 (.calm 2 (.held 1 (.one 3 (.one 4 (.one 5 (.one 6 (.calm 7 (.one 8 (.done)))))))))) mixed (by kernel_rfl) (by repeat (first | with_reducible exact Deaf.body | with_reducible apply Deaf.then | with_reducible apply Deaf.block)) ?_
         intro w9 hu9
         have hz9 := congrArg Array.size hu9.2.2.2
         replace hu9 := Upd.of_draw hu9
         have hs9 := hu9.size
         replace hU := hU.trans hu9 (by first | exact (fun _ _ h => h) | exact (fun _ _ h => h.elim) | (intro k hl hk; (try simp only [At, New, Grow, From, No] at hk ⊢); omega) | (intro k hl hk; have := hG k hk; omega))
         replace hr := hr.upd hu9 (fun k hk hl hS => by first | exact (show False from hS).elim | (simp only [At] at hS; omega) | (have := hG k hS; omega))
         replace hks := hks.upd hu9 (fun k hk hl hS => by first | exact (show False from hS).elim | (simp only [At] at hS; omega) | (have := hG k hS; omega))
         replace hb4 := hb4.upd hu9 (by first | exact (fun h => h) | (simp only [At]; omega) | (intro hS; have := hG _ hS; omega))
         replace hb5 := hb5.upd hu9 (by first | exact (fun h => h) | (simp only [At]; omega) | (intro hS; have := hG _ hS; omega))
         replace ho := ho.upd hu9 (fun k hk hl hS => by first | exact (show False from hS).elim | (simp only [At] at hS; first | (have := hG k hk; omega) | (rcases hk with hk | hk <;> first | (have := hG k hk; omega) | omega)))
         replace hys := hys.upd hu9 (fun k hk hl hS => by have := hT k hk; first | exact (show False from hS).elim | (simp only [At] at hS; omega))
         replace htk := htk.upd hu9 (fun k hk hl hS => by first | exact (show False from hS).elim | (simp only [At] at hS; omega) | (have := hG k hS; omega))
         replace hB7 := hB7.updA hu9
         have hS6 := Upd.refl No w9
         first | refine WN.calm _ rfl rfl rfl rfl rfl (fun _ => r_field0 rfl (ev_t rfl) fld_28_2) ?_ | refine WN.calm _ rfl rfl rfl rfl rfl (fun _ => r_fieldAt rfl (ev_t rfl) fld_28_2) ?_
         refine WN.calm _ rfl rfl rfl rfl rfl (fun _ => r_move rfl (ev_t rfl)) ?_
         refine WN.held _ rfl rfl rfl rfl rfl hS6 (fun w' hS => r_load rfl (ev_t rfl) flat_26 (Blk.cell (hb5.upd hS (fun h => h)) rfl)) ?_
         refine WN.step _ rfl (SO.val rfl rfl rfl rfl (r_loadAgg (vs := [_, _, _]) rfl (ev_t rfl) agg_28 size_28 (Blk.cellsL hB7)) ?_)
         refine ⟨hS6, ?_⟩
         refine WN.step _ rfl (SO.call (ih _ _ _ _ _ kk (by omega) (hI.updN hU) htk) rfl body_18 ⟨(ev_t rfl), (ev_t rfl), trivial⟩ rfl rfl rfl rfl ?_)
         rintro v w10 ⟨a8, b8, c8, rfl, ht8, hu10⟩
         obtain ⟨m8, A8, k8, xk8, rfl, rfl, rfl, _⟩ := ht8.open
         have hs8 := hu10.size
         have hs10 := hu10.size
         replace hS6 := Upd.transA hS6 hu10
         replace hU := hU.trans hu10 (by first | exact (fun _ _ h => h) | exact (fun _ _ h => h.elim) | (intro k hl hk; (try simp only [At, New, Grow, From, No] at hk ⊢); omega) | (intro k hl hk; have := hG k hk; omega))
         replace hr := hr.upd hu10 (fun k hk hl hS => by first | exact (show False from hS).elim | (simp only [At] at hS; omega) | (have := hG k hS; omega))
         replace hks := hks.upd hu10 (fun k hk hl hS => by first | exact (show False from hS).elim | (simp only [At] at hS; omega) | (have := hG k hS; omega))
         replace hb4 := hb4.upd hu10 (by first | exact (fun h => h) | (simp only [At]; omega) | (intro hS; have := hG _ hS; omega))
         replace hb5 := hb5.upd hu10 (by first | exact (fun h => h) | (simp only [At]; omega) | (intro hS; have := hG _ hS; omega))
         replace ho := ho.upd hu10 (fun k hk hl hS => by first | exact (show False from hS).elim | (simp only [At] at hS; first | (have := hG k hk; omega) | (rcases hk with hk | hk <;> first | (have := hG k hk; omega) | omega)))
         replace hys := hys.upd hu10 (fun k hk hl hS => by have := hT k hk; first | exact (show False from hS).elim | (simp only [At] at hS; omega))
         replace htk := htk.upd hu10 (fun k hk hl hS => by first | exact (show False from hS).elim | (simp only [At] at hS; omega) | (have := hG k hS; omega))
         replace hB7 := hB7.updA hu10
         have hys2 := (hys.mono (F' := fun k => T k ∨ New w9 w10 k) (fun k h => .inl h)).snoc (ht8.mono (F' := fun k => T k ∨ New w9 w10 k) (fun k h => .inr h))
         rw [← htake] at hys2
         refine ⟨hS6, ?_⟩
         refine WN.step _ rfl (SO.alloc rfl rfl rfl rfl (r_buildSlice (cs := #[_, _, _]) (vs := [(0, _)]) rfl ⟨⟨rfl, (ev_t rfl)⟩, trivial⟩ row_26 rfl rfl) ?_)
         intro w11 hu11 hB11 hz11
         have hs11 := hu11.size
         replace hS6 := Upd.transA hS6 hu11
         replace hU := hU.trans hu11 (by first | exact (fun _ _ h => h) | exact (fun _ _ h => h.elim) | (intro k hl hk; (try simp only [At, New, Grow, From, No] at hk ⊢); omega) | (intro k hl hk; have := hG k hk; omega))
         replace hr := hr.upd hu11 (fun k hk hl hS => by first | exact (show False from hS).elim | (simp only [At] at hS; omega) | (have := hG k hS; omega))
         replace hks := hks.upd hu11 (fun k hk hl hS => by first | exact (show False from hS).elim | (simp only [At] at hS; omega) | (have := hG k hS; omega))
         replace hb4 := hb4.upd hu11 (by first | exact (fun h => h) | (simp only [At]; omega) | (intro hS; have := hG _ hS; omega))
         replace hb5 := hb5.upd hu11 (by first | exact (fun h => h) | (simp only [At]; omega) | (intro hS; have := hG _ hS; omega))
         replace ho := ho.upd hu11 (fun k hk hl hS => by first | exact (show False from hS).elim | (simp only [At] at hS; first | (have := hG k hk; omega) | (rcases hk with hk | hk <;> first | (have := hG k hk; omega) | omega)))
         replace htk := htk.upd hu11 (fun k hk hl hS => by first | exact (show False from hS).elim | (simp only [At] at hS; omega) | (have := hG k hS; omega))
         replace hB7 := hB7.updA hu11
         replace hys2 := hys2.upd hu11 (fun k hk hl hS => by first | exact (show False from hS).elim | (rcases hk with hk | hk <;> first | exact (hT k hk).2.2 hS | (have := hT k hk; simp only [At] at hS; omega) | (simp only [New] at hk; have := hG k hS; omega) | (simp only [New, At] at *; omega)))
         refine ⟨hS6, ?_⟩
         refine WN.step _ rfl (SO.append ho (show Rd _ _ _ 1 3 [Value.string ⟨(ext (th σ) kk).nm.toArray⟩, .int .i64 m8, .slice A8 (ext (th σ) kk).kids.length k8] from rd_one hB11) row_26 one_c3 (le_maxLen (by omega)) (by omega) rfl (ev_t rfl) (ev_t rfl) rfl rfl rfl rfl ?_)
         intro v12 w12 ho hu12
         have hs12 := hu12.size
         try replace hS6 := Upd.transA hS6 hu12
         replace hU := hU.trans hu12 (by first | exact (fun _ _ h => h) | exact (fun _ _ h => h.elim) | (intro k hl hk; (try simp only [At, New, Grow, From, No] at hk ⊢); omega) | (intro k hl hk; have := hG k hk; omega))
         replace hr := hr.upd hu12 (fun k hk hl hS => by first | exact (show False from hS).elim | (simp only [At] at hS; omega) | (have := hG k hS; omega))
         replace hks := hks.upd hu12 (fun k hk hl hS => by first | exact (show False from hS).elim | (simp only [At] at hS; omega) | (have := hG k hS; omega))
         replace hb4 := hb4.upd hu12 (by first | exact (fun h => h) | (simp only [At]; omega) | (intro hS; have := hG _ hS; omega))
         replace hb5 := hb5.upd hu12 (by first | exact (fun h => h) | (simp only [At]; omega) | (intro hS; have := hG _ hS; omega))
         replace htk := htk.upd hu12 (fun k hk hl hS => by first | exact (show False from hS).elim | (simp only [At] at hS; omega) | (have := hG k hS; omega))
         replace hys2 := hys2.upd hu12 (fun k hk hl hS => by first | exact (show False from hS).elim | (rcases hk with hk | hk <;> first | exact (hT k hk).2.2 hS | (have := hT k hk; simp only [At] at hS; omega) | (simp only [New] at hk; have := hG k hS; omega) | (simp only [New, At] at *; omega)))
         refine ⟨trivial, ?_⟩
         obtain ⟨A12, c12, rfl, hc12⟩ := Own.form ho
         rw [← flat_snoc] at ho
         first | refine WN.calm _ rfl rfl rfl rfl rfl (fun _ => r_field0 rfl (ev_t rfl) fld_28_2) ?_ | refine WN.calm _ rfl rfl rfl rfl rfl (fun _ => r_fieldAt rfl (ev_t rfl) fld_28_2) ?_
         refine WN.step _ rfl (SO.store rfl (ev_t rfl) (ev_t rfl) size_26 hb5 rfl rfl rfl rfl rfl ?_)
         intro w13 hu13 hb5 hz13
         have hs13 := hu13.size
         try replace hS6 := Upd.transA hS6 hu13
         replace hU := hU.trans hu13 (by first | exact (fun _ _ h => h) | exact (fun _ _ h => h.elim) | (intro k hl hk; (try simp only [At, New, Grow, From, No] at hk ⊢); omega) | (intro k hl hk; have := hG k hk; omega))
         replace hr := hr.upd hu13 (fun k hk hl hS => by first | exact (show False from hS).elim | (simp only [At] at hS; omega) | (have := hG k hS; omega))
         replace hks := hks.upd hu13 (fun k hk hl hS => by first | exact (show False from hS).elim | (simp only [At] at hS; omega) | (have := hG k hS; omega))
         replace hb4 := hb4.upd hu13 (by first | exact (fun h => h) | (simp only [At]; omega) | (intro hS; have := hG _ hS; omega))
         replace ho := ho.upd hu13 (fun k hk hl hS => by first | exact (show False from hS).elim | (simp only [At] at hS; first | (have := hG k hk; omega) | (rcases hk with hk | hk <;> first | (have := hG k hk; omega) | omega)))
         replace htk := htk.upd hu13 (fun k hk hl hS => by first | exact (show False from hS).elim | (simp only [At] at hS; omega) | (have := hG k hS; omega))
         replace hys2 := hys2.upd hu13 (fun k hk hl hS => by first | exact (show False from hS).elim | (rcases hk with hk | hk <;> first | exact (hT k hk).2.2 hS | (have := hT k hk; simp only [At] at hS; omega) | (simp only [New] at hk; have := hG k hS; omega) | (simp only [New, At] at *; omega)))
         refine ⟨trivial, ?_⟩
         refine WN.done ?_
         refine WX.keep [(0, _), (4, _), (5, _), (17, _), (18, _), (19, _)] ⟨rfl, rfl, rfl, rfl, rfl, rfl, trivial⟩ ?_
         refine WX.blockNormal ?_
         refine WX.next ?_
         refine WC.region ?_
         first | refine WL.val rfl rfl rfl rfl (r_addN rfl (ev_t rfl) ev_c (by simp only [inK]; omega)) ?_ | refine WL.val rfl rfl rfl rfl (r_add rfl (ev_t rfl) ev_c) ?_
         refine WL.val rfl rfl rfl rfl (r_move rfl (ev_t rfl)) ?_
         refine WL.nil ?_
         refine WX.keep [(0, _), (4, _), (5, _), (17, _), (18, _), (19, _)] ⟨rfl, rfl, rfl, rfl, rfl, rfl, trivial⟩ ?_
         refine WX.meet [(0, _), (4, _), (5, _), (17, _), (18, _), (19, _)] ⟨rfl, rfl, rfl, rfl, rfl, rfl, trivial⟩ ?_
         refine ⟨h.kids.length - (i + 1), by omega, i + 1, _, _, _, _, _, by omega, rfl, hU, by omega, hr, hks, hb4, hb5, ho, hys2, fun k hk => ?_, fun k hk => ?_, rfl⟩
         · rcases hk with hk | hk
           · have := hG k hk; omega
           · omega
         · rcases hk with hk | hk
           · have h9 := hT k hk
             refine ⟨by omega, by omega, fun h => ?_⟩
             rcases h with h | h
             · exact h9.2.2 h
             · omega
           · simp only [New] at hk
             refine ⟨by omega, by omega, fun h => ?_⟩
             rcases h with h | h
             · have := hG k h; omega
             · omega
      · try (exfalso; first | (simp at hc4; done) | (simp only [decide_eq_true_eq, decide_eq_false_iff_not, Bool.not_eq_true', Bool.not_eq_false', Bool.not_eq_true, Bool.not_eq_false] at hc4; omega) | omega)
        all_goals
         try simp only [decide_eq_true_eq, decide_eq_false_iff_not, Bool.not_eq_true', Bool.not_eq_false', Bool.not_eq_true, Bool.not_eq_false, Option.isNone_none, Option.isNone_some, Option.isSome_none, Option.isSome_some, ne_eq, Decidable.not_not] at hc4
         refine WC.exit ?_
         refine WX.thenExit ?_
         refine WX.thenExit ?_
         refine WX.blockHere ?_
         refine WX.next ?_
         refine WC.seq ?_
         refine WC.region ?_
         refine WL.val rfl rfl rfl rfl (r_loadAgg (vs := [_, _, _]) rfl (ev_t rfl) agg_28 size_28 (Blk.cellsL hb5)) ?_
         refine WL.cons (SO.storeAll (us := [_, _, _]) rfl (ev_t rfl) (ev_t rfl) size_28 hb4 rfl rfl rfl rfl rfl ?_)
         intro w14 hu14 hb4 hz14
         have hs14 := hu14.size
         replace hU := hU.trans hu14 (by first | exact (fun _ _ h => h) | exact (fun _ _ h => h.elim) | (intro k hl hk; (try simp only [At, New, Grow, From, No] at hk ⊢); omega) | (intro k hl hk; have := hG k hk; omega))
         replace hr := hr.upd hu14 (fun k hk hl hS => by first | exact (show False from hS).elim | (simp only [At] at hS; omega) | (have := hG k hS; omega))
         replace hks := hks.upd hu14 (fun k hk hl hS => by first | exact (show False from hS).elim | (simp only [At] at hS; omega) | (have := hG k hS; omega))
         replace hb5 := hb5.upd hu14 (by first | exact (fun h => h) | (simp only [At]; omega) | (intro hS; have := hG _ hS; omega))
         replace ho := ho.upd hu14 (fun k hk hl hS => by first | exact (show False from hS).elim | (simp only [At] at hS; first | (have := hG k hk; omega) | (rcases hk with hk | hk <;> first | (have := hG k hk; omega) | omega)))
         replace hys := hys.upd hu14 (fun k hk hl hS => by have := hT k hk; first | exact (show False from hS).elim | (simp only [At] at hS; omega))
         refine WL.nil ?_
         refine WX.keep [(4, _)] ⟨rfl, trivial⟩ ?_
         refine WX.next ?_
         refine WC.ret ?_
         refine WX.retC (vs := [_, _, _]) rfl rfl agg_28 size_28 (Blk.cellsL hb4) ?_
         obtain rfl : i = h.kids.length := by omega
         rw [List.take_of_length_le (Nat.le_refl _), ← e2] at hys
         have e4 : (ext (th σ) t).kids.length = h.kids.length := by rw [e2, List.length_map]
         refine ⟨_, _, _, rfl, ?_, hU⟩
         rw [← e1]
         refine TV.kids (xs := ys) (fun x e => hm x (e3 x e)) ?_ (by omega) (hys.mono fun k hk => by have := hT k hk; simp only [New]; omega)
         rw [e4]
         exact (ho.rd (by omega)).mono fun k hk => by have := hG k hk; simp only [New]; omega
end Go.Proofs.Ytncakfcafkfmfaa
