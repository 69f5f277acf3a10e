/-
  Several texts put together: Tyya, Tyt, Tyyb.
-/
import Derived.Test.YtncakfcafkfmfaaZe
/-
  types: the reference's Apply.
-/
namespace Go.Proofs.Ytncakfcafkfmfaa
open Go
set_option linter.unusedSimpArgs false
set_option linter.unusedVariables false

set_option maxHeartbeats 2000000 in
theorem rapply_ok {Gv Go Gd : Nat → Prop} {p : Nat} {σ : Sg} {D : Dn} {nn : Int} {xs : List C3} {Av Ao Ad : Option Addr} {cv co cd : Nat} (hw : WF σ) : ∀ (N : Nat) (F : Nat → Prop) (w : World) (a b c : Value) (t : Ty), sz (ext (th σ) t) ≤ N → IsRf w F Gv Go Gd p σ D nn xs Av Ao Ad cv co cd → TV w F (a, b, c) t →
    Ret Try.prog 24 #[.pointer (some ⟨p, 0, none⟩), .agg #[a, b, c]] w fun v w' => ∃ a' b' c', v = .agg #[a', b', c'] ∧ TV w' (New w w') (a', b', c') (ext (th σ) t) ∧ Upd No w w' := by
  intro N
  induction N with
  | zero =>
    intro F w a b c t hN
    have := sz_pos (ext (th σ) t)
    omega
  | succ N ih =>
    intro F w a b c t hN hI ht
    replace hI := hI.bound
    replace ht := ht.bound
    obtain ⟨h, hh⟩ := hw.hd t
    obtain ⟨fu, hfu⟩ := hh.fuel
    have hsz := head_sz hw hh
    obtain ⟨e1, e2, e3⟩ := head_ext hw hh
    obtain ⟨m0, A9, k9, xk9, rfl, rfl, rfl, _⟩ := ht.open
    refine enterRet (vs := [_, _]) (N := 35) Try.func24 rfl rfl rfl ?_
    have hU := Upd.refl No w
    refine WC.keep [(0, _), (1, _)] ⟨rfl, rfl, trivial⟩ ?_
    refine WC.seq ?_
    refine WC.region ?_
    refine WL.cons (SO.alloc rfl rfl rfl rfl (r_boxAgg rfl (ev_t rfl)) ?_)
    intro w1 hu1 hB1 hz1
    have hs1 := hu1.size
    replace hU := hU.trans hu1 (by exact (fun _ _ h => h))
    refine WL.cons (SO.alloc rfl rfl rfl rfl (r_alloc rfl zero_28) ?_)
    intro w2 hu2 hB2 hz2
    have hs2 := hu2.size
    replace hU := hU.trans hu2 (by exact (fun _ _ h => h))
    replace hB1 := hB1.updA hu2
    refine WL.nil ?_
    refine WX.keep [(0, _), (3, _), (4, _)] ⟨rfl, rfl, rfl, trivial⟩ ?_
    refine WX.next ?_
    refine WC.seq ?_
    refine WC.region ?_
    refine WL.val rfl rfl rfl rfl (r_move rfl (ev_t rfl)) ?_
    refine WL.val rfl rfl rfl rfl (r_loadAgg (vs := [_, _, _]) rfl (ev_t rfl) agg_28 size_28 (Blk.cellsL hB1)) ?_
    refine WL.cons (SO.call (rhead_ok _ _ _ _ _ _ _ _ (hI.updN hU) (ht.upd hU (fun _ _ _ h => h)) (hfu fu (Nat.le_refl _))) rfl body_34 ⟨(ev_t rfl), (ev_t rfl), trivial⟩ rfl rfl rfl rfl ?_)
    rintro v w3 ⟨a', b', c', rfl, hth, hu3⟩
    obtain ⟨m, A0, k0, xk, rfl, rfl, rfl, hm, hr, hl, hb, hk⟩ := hth.open
    have hks : TVs w3 _ xk h.kids := ⟨hl, hk⟩
    have hs3 := hu3.size
    replace hU := hU.trans hu3 (by exact (fun _ _ h => h))
    replace hB1 := hB1.updA hu3
    replace hB2 := hB2.updA hu3
    refine WL.cons (SO.storeAll (us := [_, _, _]) rfl (ev_t rfl) (ev_t rfl) size_28 hB1 rfl rfl rfl rfl rfl ?_)
    intro w4 hu4 hB1 hz4
    have hs4 := hu4.size
    replace hU := hU.trans hu4 (by (intro k hl hk; (try simp only [At, New, Grow, From, No] at hk ⊢); omega))
    replace hB2 := hB2.updA hu4
    replace hr := hr.upd hu4 (fun k hk hl hS => by (simp only [At] at hS; omega))
    replace hks := hks.upd hu4 (fun k hk hl hS => by (simp only [At] at hS; omega))
    refine WL.nil ?_
    refine WX.keep [(0, _), (3, _), (4, _)] ⟨rfl, rfl, rfl, trivial⟩ ?_
    refine WX.next ?_
    refine WC.seq ?_
    refine WC.region ?_
    first | refine WL.val rfl rfl rfl rfl (r_field0 rfl (ev_t rfl) fld_28_0) ?_ | refine WL.val rfl rfl rfl rfl (r_fieldAt rfl (ev_t rfl) fld_28_0) ?_
    refine WL.val rfl rfl rfl rfl (r_load rfl (ev_t rfl) flat_9 (Blk.cell hB1 rfl)) ?_
    first | refine WL.val rfl rfl rfl rfl (r_field0 rfl (ev_t rfl) fld_28_1) ?_ | refine WL.val rfl rfl rfl rfl (r_fieldAt rfl (ev_t rfl) fld_28_1) ?_
    refine WL.val rfl rfl rfl rfl (r_load rfl (ev_t rfl) flat_3 (Blk.cell hB1 rfl)) ?_
    refine WL.val rfl rfl rfl rfl (r_build (cs := #[_, _, _]) (vs := [(0, _), (1, _)]) rfl ⟨⟨rfl, (ev_t rfl)⟩, ⟨rfl, (ev_t rfl)⟩, trivial⟩ plc_28 zero_28 rfl) ?_
    refine WL.cons (SO.alloc rfl rfl rfl rfl (r_alloc rfl zero_28) ?_)
    intro w5 hu5 hB5 hz5
    have hs5 := hu5.size
    replace hU := hU.trans hu5 (by exact (fun _ _ h => h))
    replace hB1 := hB1.updA hu5
    replace hB2 := hB2.updA hu5
    replace hr := hr.upd hu5 (fun k hk hl hS => by exact (show False from hS).elim)
    replace hks := hks.upd hu5 (fun k hk hl hS => by exact (show False from hS).elim)
    refine WL.cons (SO.storeAll (us := [_, _, _]) rfl (ev_t rfl) (ev_t rfl) size_28 hB5 rfl rfl rfl rfl rfl ?_)
    intro w6 hu6 hB5 hz6
    have hs6 := hu6.size
    replace hU := hU.trans hu6 (by (intro k hl hk; (try simp only [At, New, Grow, From, No] at hk ⊢); omega))
    replace hB1 := hB1.updA hu6
    replace hB2 := hB2.updA hu6
    replace hr := hr.upd hu6 (fun k hk hl hS => by (simp only [At] at hS; omega))
    replace hks := hks.upd hu6 (fun k hk hl hS => by (simp only [At] at hS; omega))
    refine WL.nil ?_
    refine WX.keep [(0, _), (3, _), (4, _), (5, _)] ⟨rfl, rfl, rfl, rfl, trivial⟩ ?_
    refine WX.next ?_
    refine WC.seq ?_
    refine WC.seq ?_
    refine WC.region ?_
    refine WL.val rfl rfl rfl rfl (r_assign rfl ev_c) ?_
    refine WL.nil ?_
    refine WX.keep [(0, _), (3, _), (4, _), (5, _), (6, _)] ⟨rfl, rfl, rfl, rfl, rfl, trivial⟩ ?_
    refine WX.next ?_
    refine WC.block ?_
    -- loop 1: live [0, 3, 4, 5, 6]
    refine WC.keep [(0, _), (3, _), (4, _), (5, _), (6, _)] ⟨rfl, rfl, rfl, rfl, rfl, trivial⟩ ?_
    refine WC.loop (fun q E w' => ∃ (i : Nat) (A5 : Option Addr) (c5 : Nat) (ys : List C3) (G T : Nat → Prop), i ≤ h.kids.length ∧ q = h.kids.length - i ∧ Upd No w w' ∧ w5.heap.size ≤ w'.heap.size ∧ Rd w' (fun k => F k ∧ k < w.heap.size) (.slice A0 h.kids.length k0) h.kids.length 3 (xk.flatMap c3) ∧ TVs w' (fun k => F k ∧ k < w.heap.size) xk h.kids ∧   Blk w' w.heap.size #[.string ⟨h.nm.toArray⟩, .int .i64 m, .slice A0 h.kids.length k0] typ ∧ Blk w' w1.heap.size #[.string ⟨#[]⟩, .int .i64 0, .slice none 0 0] typ ∧ Blk w' w4.heap.size #[.string ⟨h.nm.toArray⟩, .int .i64 m, .slice A5 i c5] typ ∧ Own w' G typ 3 (.slice A5 i c5) i (ys.flatMap c3) ∧ TVs w' T ys ((h.kids.take i).map (ext (th σ))) ∧ (∀ k, G k → w5.heap.size ≤ k ∧ k < w'.heap.size) ∧ (∀ k, T k → w5.heap.size ≤ k ∧ k < w'.heap.size ∧ ¬ G k) ∧   E = [(0, .pointer (some ⟨p, 0, none⟩)), (3, .pointer (some ⟨w.heap.size, 0, none⟩)), (4, .pointer (some ⟨w1.heap.size, 0, none⟩)), (5, .pointer (some ⟨w4.heap.size, 0, none⟩)), (6, .int .i64 (i : Int))]) (h.kids.length) ?_ ?_
    · exact ⟨0, none, 0, [], fun _ => False, fun _ => False, by omega, by omega, hU, by omega, hr, hks, hB1, hB2, hB5, Own.nil _ _ _ _, TVs.nil _ _, fun k h => h.elim, fun k h => h.elim, rfl⟩
    · rintro q E w' ⟨i, A5, c5, ys, G, T, hi, rfl, hU, hws, hr, hks, hb1, hb4, hb5, ho, hys, hG, hT, rfl⟩
      have hs0 := hU.size
      refine WC.seq ?_
      refine WC.seq ?_
      refine WC.region ?_
      refine WL.val rfl rfl rfl rfl (r_move rfl (ev_t rfl)) ?_
      first | refine WL.val rfl rfl rfl rfl (r_field0 rfl (ev_t rfl) fld_28_2) ?_ | refine WL.val rfl rfl rfl rfl (r_fieldAt rfl (ev_t rfl) fld_28_2) ?_
      refine WL.val rfl rfl rfl rfl (r_load rfl (ev_t rfl) flat_26 (Blk.cell hb1 rfl)) ?_
      refine WL.val rfl rfl rfl rfl (r_lenSlice (ts := #[]) rfl (ev_t rfl) elem_26) ?_
      refine WL.val rfl rfl rfl rfl (r_lss rfl (ev_t rfl) (ev_t rfl)) ?_
      refine WL.nil ?_
      refine WX.keep [(0, _), (3, _), (4, _), (5, _), (6, _), (19, _)] ⟨rfl, rfl, rfl, rfl, rfl, rfl, trivial⟩ ?_
      refine WX.next ?_
      refine WC.cond rfl (ev_t rfl) (fun hc4 => ?_) (fun hc4 => ?_)
      · try (exfalso; first | (simp at hc4; done) | (simp only [decide_eq_true_eq, decide_eq_false_iff_not, Bool.not_eq_true', Bool.not_eq_false', Bool.not_eq_true, Bool.not_eq_false] at hc4; omega) | omega)
        all_goals
         try simp only [decide_eq_true_eq, decide_eq_false_iff_not, Bool.not_eq_true', Bool.not_eq_false', Bool.not_eq_true, Bool.not_eq_false, Option.isNone_none, Option.isNone_some, Option.isSome_none, Option.isSome_some, ne_eq, Decidable.not_not] at hc4
         have hi' : i < h.kids.length := by omega
         obtain ⟨b0, off, rfl, _⟩ := hr.open (by omega)
         have hxi : xk[i]? = some xk[i] := List.getElem?_eq_getElem (by have := hks.1; omega)
         have hki : h.kids[i]? = some h.kids[i] := List.getElem?_eq_getElem hi'
         have htk := hks.2 i _ _ hxi hki
         have htake := take_map_snoc (f := ext (th σ)) hi'
         have hkl := kid_lt (σ := σ) hi'
         generalize xk[i] = ck at *
         generalize h.kids[i] = kk at *
         obtain ⟨ca, cb, cc⟩ := ck
         obtain ⟨m3, A3, k3, xk3, rfl, rfl, rfl, _⟩ := htk.open
         refine WC.skip ?_
         refine WX.next ?_
         refine WC.seq ?_
         refine WC.block ?_
         refine WC.draws' (fun u0_ u1_ => Upd No u0_ u1_) (fun j => [0, 0, 0, 0, 1, 0, 0, 1, 1, 1, 2, 0, 2].getD j 0) (.calm 0 (.calm 2 (.calm 3 (.calm 5 (.held 1 (.one 4 (.calm 6 (.one 7 (.one 8 (.one 9 (.one 10 (.calm 11 (.one 12 (.done)))))))))))))) mixed (by kernel_rfl) (by repeat (first | with_reducible exact Deaf.body | with_reducible apply Deaf.then | with_reducible apply Deaf.block)) ?_
         intro w7 hu7
         have hz7 := congrArg Array.size hu7.2.2.2
         replace hu7 := Upd.of_draw hu7
         have hs7 := hu7.size
         replace hU := hU.trans hu7 (by exact (fun _ _ h => h))
         replace hr := hr.upd hu7 (fun k hk hl hS => by exact (show False from hS).elim)
         replace hks := hks.upd hu7 (fun k hk hl hS => by exact (show False from hS).elim)
         replace hb1 := hb1.upd hu7 (by exact (fun h => h))
         replace hb4 := hb4.upd hu7 (by exact (fun h => h))
         replace hb5 := hb5.upd hu7 (by exact (fun h => h))
         replace ho := ho.upd hu7 (fun k hk hl hS => by exact (show False from hS).elim)
         replace hys := hys.upd hu7 (fun k hk hl hS => by have := hT k hk; exact (show False from hS).elim)
         replace htk := htk.upd hu7 (fun k hk hl hS => by exact (show False from hS).elim)
         have hS6 := Upd.refl No w7
         first | refine WN.calm _ rfl rfl rfl rfl rfl (fun _ => r_field0 rfl (ev_t rfl) fld_28_2) ?_ | refine WN.calm _ rfl rfl rfl rfl rfl (fun _ => r_fieldAt rfl (ev_t rfl) fld_28_2) ?_
         refine WN.calm _ rfl rfl rfl rfl rfl (fun _ => r_move rfl (ev_t rfl)) ?_
         first | refine WN.calm _ rfl rfl rfl rfl rfl (fun _ => r_field0 rfl (ev_t rfl) fld_28_2) ?_ | refine WN.calm _ rfl rfl rfl rfl rfl (fun _ => r_fieldAt rfl (ev_t rfl) fld_28_2) ?_
         refine WN.calm _ rfl rfl rfl rfl rfl (fun _ => r_move rfl (ev_t rfl)) ?_
         refine WN.held _ rfl rfl rfl rfl rfl hS6 (fun w' hS => r_load rfl (ev_t rfl) flat_26 (Blk.cell (hb5.upd hS (fun h => h)) rfl)) ?_
         refine WN.step _ rfl (SO.val rfl rfl rfl rfl (r_load rfl (ev_t rfl) flat_26 (Blk.cell hb1 rfl)) ?_)
         refine ⟨hS6, ?_⟩
         refine WN.calm _ rfl rfl rfl rfl rfl (fun _ => r_indexAddr rfl (ev_t rfl) (ev_t rfl) elem_26 size_28 (by omega) (by omega)) ?_
         refine WN.step _ rfl (SO.val rfl rfl rfl rfl (r_loadAgg (vs := [_, _, _]) rfl (ev_t rfl) agg_28 size_28 (kid_cells hr hxi rfl)) ?_)
         refine ⟨hS6, ?_⟩
         refine WN.step _ rfl (SO.call (ih _ _ _ _ _ kk (by omega) (hI.updN hU) htk) rfl body_24 ⟨(ev_t rfl), (ev_t rfl), trivial⟩ rfl rfl rfl rfl ?_)
         rintro v w8 ⟨a8, b8, c8, rfl, ht8, hu8⟩
         obtain ⟨m8, A8, k8, xk8, rfl, rfl, rfl, _⟩ := ht8.open
         have hs8 := hu8.size
         have hs8 := hu8.size
         replace hS6 := Upd.transA hS6 hu8
         replace hU := hU.trans hu8 (by exact (fun _ _ h => h))
         replace hr := hr.upd hu8 (fun k hk hl hS => by exact (show False from hS).elim)
         replace hks := hks.upd hu8 (fun k hk hl hS => by exact (show False from hS).elim)
         replace hb1 := hb1.upd hu8 (by exact (fun h => h))
         replace hb4 := hb4.upd hu8 (by exact (fun h => h))
         replace hb5 := hb5.upd hu8 (by exact (fun h => h))
         replace ho := ho.upd hu8 (fun k hk hl hS => by exact (show False from hS).elim)
         replace hys := hys.upd hu8 (fun k hk hl hS => by have := hT k hk; exact (show False from hS).elim)
         replace htk := htk.upd hu8 (fun k hk hl hS => by exact (show False from hS).elim)
         have hys2 := (hys.mono (F' := fun k => T k ∨ New w7 w8 k) (fun k h => .inl h)).snoc (ht8.mono (F' := fun k => T k ∨ New w7 w8 k) (fun k h => .inr h))
         rw [← htake] at hys2
         refine ⟨hS6, ?_⟩
         refine WN.step _ rfl (SO.alloc rfl rfl rfl rfl (r_buildSlice (cs := #[_, _, _]) (vs := [(0, _)]) rfl ⟨⟨rfl, (ev_t rfl)⟩, trivial⟩ row_26 rfl rfl) ?_)
         intro w9 hu9 hB9 hz9
         have hs9 := hu9.size
         replace hS6 := Upd.transA hS6 hu9
         replace hU := hU.trans hu9 (by exact (fun _ _ h => h))
         replace hr := hr.upd hu9 (fun k hk hl hS => by exact (show False from hS).elim)
         replace hks := hks.upd hu9 (fun k hk hl hS => by exact (show False from hS).elim)
         replace hb1 := hb1.upd hu9 (by exact (fun h => h))
         replace hb4 := hb4.upd hu9 (by exact (fun h => h))
         replace hb5 := hb5.upd hu9 (by exact (fun h => h))
         replace ho := ho.upd hu9 (fun k hk hl hS => by exact (show False from hS).elim)
         replace htk := htk.upd hu9 (fun k hk hl hS => by exact (show False from hS).elim)
         replace hys2 := hys2.upd hu9 (fun k hk hl hS => by exact (show False from hS).elim)
         refine ⟨hS6, ?_⟩
         refine WN.step _ rfl (SO.append ho (show Rd _ _ _ 1 3 [Value.string ⟨(ext (th σ) kk).nm.toArray⟩, .int .i64 m8, .slice A8 (ext (th σ) kk).kids.length k8] from rd_one hB9) row_26 one_c3 (le_maxLen (by omega)) (by omega) rfl (ev_t rfl) (ev_t rfl) rfl rfl rfl rfl ?_)
         intro v10 w10 ho hu10
         have hs10 := hu10.size
         try replace hS6 := Upd.transA hS6 hu10
         replace hU := hU.trans hu10 (by (intro k hl hk; have := hG k hk; omega))
         replace hr := hr.upd hu10 (fun k hk hl hS => by (have := hG k hS; omega))
         replace hks := hks.upd hu10 (fun k hk hl hS => by (have := hG k hS; omega))
         replace hb1 := hb1.upd hu10 (by (intro hS; have := hG _ hS; omega))
         replace hb4 := hb4.upd hu10 (by (intro hS; have := hG _ hS; omega))
         replace hb5 := hb5.upd hu10 (by (intro hS; have := hG _ hS; omega))
         replace htk := htk.upd hu10 (fun k hk hl hS => by (have := hG k hS; omega))
         replace hys2 := hys2.upd hu10 (fun k hk hl hS => by (rcases hk with hk | hk <;> first | exact (hT k hk).2.2 hS | (have := hT k hk; simp only [At] at hS; omega) | (simp only [New] at hk; have := hG k hS; omega) | (simp only [New, At] at *; omega)))
         refine ⟨trivial, ?_⟩
         obtain ⟨A10, c10, rfl, hc10⟩ := Own.form ho
         rw [← flat_snoc] at ho
         first | refine WN.calm _ rfl rfl rfl rfl rfl (fun _ => r_field0 rfl (ev_t rfl) fld_28_2) ?_ | refine WN.calm _ rfl rfl rfl rfl rfl (fun _ => r_fieldAt rfl (ev_t rfl) fld_28_2) ?_
         refine WN.step _ rfl (SO.store rfl (ev_t rfl) (ev_t rfl) size_26 hb5 rfl rfl rfl rfl rfl ?_)
         intro w11 hu11 hb5 hz11
         have hs11 := hu11.size
         try replace hS6 := Upd.transA hS6 hu11
         replace hU := hU.trans hu11 (by (intro k hl hk; (try simp only [At, New, Grow, From, No] at hk ⊢); omega))
         replace hr := hr.upd hu11 (fun k hk hl hS => by (simp only [At] at hS; omega))
         replace hks := hks.upd hu11 (fun k hk hl hS => by (simp only [At] at hS; omega))
         replace hb1 := hb1.upd hu11 (by (simp only [At]; omega))
         replace hb4 := hb4.upd hu11 (by (simp only [At]; omega))
         replace ho := ho.upd hu11 (fun k hk hl hS => by (simp only [At] at hS; first | (have := hG k hk; omega) | (rcases hk with hk | hk <;> first | (have := hG k hk; omega) | omega)))
         replace htk := htk.upd hu11 (fun k hk hl hS => by (simp only [At] at hS; omega))
         replace hys2 := hys2.upd hu11 (fun k hk hl hS => by (rcases hk with hk | hk <;> first | exact (hT k hk).2.2 hS | (have := hT k hk; simp only [At] at hS; omega) | (simp only [New] at hk; have := hG k hS; omega) | (simp only [New, At] at *; omega)))
         refine ⟨trivial, ?_⟩
         refine WN.done ?_
         refine WX.keep [(0, _), (3, _), (4, _), (5, _), (6, _)] ⟨rfl, rfl, rfl, rfl, rfl, trivial⟩ ?_
         refine WX.blockNormal ?_
         refine WX.next ?_
         refine WC.region ?_
         refine WL.val rfl rfl rfl rfl (r_move rfl (ev_t rfl)) ?_
         first | refine WL.val rfl rfl rfl rfl (r_addN rfl (ev_t rfl) ev_c (by simp only [inK]; omega)) ?_ | refine WL.val rfl rfl rfl rfl (r_add rfl (ev_t rfl) ev_c) ?_
         refine WL.val rfl rfl rfl rfl (r_assign rfl (ev_t rfl)) ?_
         refine WL.nil ?_
         refine WX.keep [(0, _), (3, _), (4, _), (5, _), (6, _)] ⟨rfl, rfl, rfl, rfl, rfl, trivial⟩ ?_
         refine WX.meet [(0, _), (3, _), (4, _), (5, _), (6, _)] ⟨rfl, rfl, rfl, rfl, rfl, trivial⟩ ?_
         refine ⟨h.kids.length - (i + 1), by omega, i + 1, _, _, _, _, _, by omega, rfl, hU, by omega, hr, hks, hb1, hb4, hb5, ho, hys2, fun k hk => ?_, fun k hk => ?_, by simp⟩
         · rcases hk with hk | hk
           · have := hG k hk; omega
           · omega
         · rcases hk with hk | hk
           · have h9 := hT k hk
             refine ⟨by omega, by omega, fun h => ?_⟩
             rcases h with h | h
             · exact h9.2.2 h
             · omega
           · simp only [New] at hk
             refine ⟨by omega, by omega, fun h => ?_⟩
             rcases h with h | h
             · have := hG k h; omega
             · omega
      · try (exfalso; first | (simp at hc4; done) | (simp only [decide_eq_true_eq, decide_eq_false_iff_not, Bool.not_eq_true', Bool.not_eq_false', Bool.not_eq_true, Bool.not_eq_false] at hc4; omega) | omega)
        all_goals
         try simp only [decide_eq_true_eq, decide_eq_false_iff_not, Bool.not_eq_true', Bool.not_eq_false', Bool.not_eq_true, Bool.not_eq_false, Option.isNone_none, Option.isNone_some, Option.isSome_none, Option.isSome_some, ne_eq, Decidable.not_not] at hc4
         refine WC.exit ?_
         refine WX.thenExit ?_
         refine WX.thenExit ?_
         refine WX.blockHere ?_
         refine WX.next ?_
         refine WC.seq ?_
         refine WC.region ?_
         refine WL.val rfl rfl rfl rfl (r_loadAgg (vs := [_, _, _]) rfl (ev_t rfl) agg_28 size_28 (Blk.cellsL hb5)) ?_
         refine WL.cons (SO.storeAll (us := [_, _, _]) rfl (ev_t rfl) (ev_t rfl) size_28 hb4 rfl rfl rfl rfl rfl ?_)
         intro w12 hu12 hb4 hz12
         have hs12 := hu12.size
         replace hU := hU.trans hu12 (by (intro k hl hk; (try simp only [At, New, Grow, From, No] at hk ⊢); omega))
         replace hr := hr.upd hu12 (fun k hk hl hS => by (simp only [At] at hS; omega))
         replace hks := hks.upd hu12 (fun k hk hl hS => by (simp only [At] at hS; omega))
         replace hb1 := hb1.upd hu12 (by (simp only [At]; omega))
         replace hb5 := hb5.upd hu12 (by (simp only [At]; omega))
         replace ho := ho.upd hu12 (fun k hk hl hS => by (simp only [At] at hS; first | (have := hG k hk; omega) | (rcases hk with hk | hk <;> first | (have := hG k hk; omega) | omega)))
         replace hys := hys.upd hu12 (fun k hk hl hS => by have := hT k hk; (simp only [At] at hS; omega))
         refine WL.nil ?_
         refine WX.keep [(4, _)] ⟨rfl, trivial⟩ ?_
         refine WX.next ?_
         refine WC.ret ?_
         refine WX.retC (vs := [_, _, _]) rfl rfl agg_28 size_28 (Blk.cellsL hb4) ?_
         obtain rfl : i = h.kids.length := by omega
         rw [List.take_of_length_le (Nat.le_refl _), ← e2] at hys
         have e4 : (ext (th σ) t).kids.length = h.kids.length := by rw [e2, List.length_map]
         refine ⟨_, _, _, rfl, ?_, hU⟩
         rw [← e1]
         refine TV.kids (xs := ys) (fun x e => hm x (e3 x e)) ?_ (by omega) (hys.mono fun k hk => by have := hT k hk; simp only [New]; omega)
         rw [e4]
         exact (ho.rd (by omega)).mono fun k hk => by have := hG k hk; simp only [New]; omega
end Go.Proofs.Ytncakfcafkfmfaa

/-
  types: the reference's Close; law 06: alike.
-/
namespace Go.Proofs.Ytncakfcafkfmfaa
open Go
set_option linter.unusedSimpArgs false
set_option linter.unusedVariables false

def lv (x : Int) : C3 := (.string ⟨#[]⟩, .int .i64 x, .slice none 0 0)
theorem tvs_lv (w : World) (F : Nat → Prop) (l : List Int) : TVs w F (l.map lv) (l.map Ty.v) := by
  refine ⟨by simp, fun i c t hc ht => ?_⟩
  rw [List.getElem?_map] at hc ht
  cases hx : l[i]? with
  | none => rw [hx] at hc; cases hc
  | some x =>
    rw [hx] at hc ht
    injection hc with hc
    injection ht with ht
    subst hc ht
    exact TV.nil x
theorem lv_snoc (n : Nat) : ((onesL (n + 1)).map lv).flatMap c3 = ((onesL n).map lv).flatMap c3 ++ [.string ⟨#[]⟩, .int .i64 ((n : Int) + 1), .slice none 0 0] := by
  rw [onesL_succ, List.map_append, List.flatMap_append]
  rfl

set_option maxHeartbeats 2000000 in
theorem rclose_ok {w : World} {F : Nat → Prop} {a b c : Value} {t : Ty} (ht : TV w F (a, b, c) t) (hlen : (vars t).length ≤ 1000000) :
    Ret Try.prog 29 #[.agg #[a, b, c]] w fun v w' => ∃ a' b' c' A k, v = .tuple #[.agg #[.int .i64 ((varsOf t).length : Int), a', b', c'], .slice A (varsOf t).length k] ∧ TV w' (fun _ => True) (a', b', c') (canon t) ∧ Own w' (New w w') 3 1 (.slice A (varsOf t).length k) (varsOf t).length ((varsOf t).map I6) ∧ Upd No w w' := by
  replace ht := ht.bound
  have hnl := (nubA_len (vars t) []).2
  have hnl' : (varsOf t).length ≤ 1000000 := by unfold varsOf; simp only [List.length_nil] at hnl; omega
  obtain ⟨m0, A9, k9, xk9, rfl, rfl, rfl, _⟩ := ht.open
  refine enterRet (vs := [_]) (N := 29) Try.func29 rfl rfl rfl ?_
  have hU := Upd.refl No w
  refine WC.keep [(0, _)] ⟨rfl, trivial⟩ ?_
  refine WC.seq ?_
  refine WC.region ?_
  refine WL.cons (SO.alloc rfl rfl rfl rfl (r_boxAgg rfl (ev_t rfl)) ?_)
  intro w1 hu1 hB1 hz1
  have hs1 := hu1.size
  replace hU := hU.trans hu1 (by first | exact (fun _ _ h => h) | exact (fun _ _ h => h.elim) | (intro k hl hk; (try simp only [At, New, Grow, From, No] at hk ⊢); omega) | (intro k hl hk; first | exact hk.elim | (have := hG k hk; omega)))
  replace ht := ht.upd hu1 (fun k hk hl hS => by first | exact (show False from hS).elim | (simp only [At, New] at hk hS; omega) | (have := hG k hS; simp only [New] at hk; omega) | (have := hG k hS; omega))
  refine WL.cons (SO.alloc rfl rfl rfl rfl (r_alloc rfl zero_49) ?_)
  intro w2 hu2 hB2 hz2
  have hs2 := hu2.size
  replace hU := hU.trans hu2 (by first | exact (fun _ _ h => h) | exact (fun _ _ h => h.elim) | (intro k hl hk; (try simp only [At, New, Grow, From, No] at hk ⊢); omega) | (intro k hl hk; first | exact hk.elim | (have := hG k hk; omega)))
  replace ht := ht.upd hu2 (fun k hk hl hS => by first | exact (show False from hS).elim | (simp only [At, New] at hk hS; omega) | (have := hG k hS; simp only [New] at hk; omega) | (have := hG k hS; omega))
  replace hB1 := hB1.upd hu2 (by first | exact (fun h => h) | (simp only [At]; omega) | (intro hS; have := hG _ hS; omega) | (intro hS; exact (show False from hS)))
  refine WL.val rfl rfl rfl rfl (r_assign rfl ev_c) ?_
  refine WL.nil ?_
  refine WX.keep [(1, _), (2, _)] ⟨rfl, rfl, trivial⟩ ?_
  refine WX.next ?_
  refine WC.seq ?_
  refine WC.region ?_
  refine WL.val rfl rfl rfl rfl (r_loadAgg (vs := [_, _, _]) rfl (ev_t rfl) agg_28 size_28 (Blk.cellsL hB1)) ?_
  refine WL.cons (SO.call (rvars_ok _ _ (fun _ => False) _ [] none 0 _ _ _ t (Nat.le_refl _) (Own.nil _ _ _ _) ht (fun k _ h => h) (by simp only [List.length_nil]; omega)) rfl body_45 ⟨ev_c, (ev_t rfl), trivial⟩ rfl rfl rfl rfl ?_)
  rintro v w3 ⟨A, k, rfl, hv, hu3⟩
  replace hv := hv.mono (F' := New w2 w3) (fun k hk => hk.elim (fun h => h.elim) (fun h => h))
  have hvo : nubA [] (vars t) = varsOf t := rfl
  rw [hvo] at hv ⊢
  have hs3 := hu3.size
  replace hU := hU.trans hu3 (by first | exact (fun _ _ h => h) | exact (fun _ _ h => h.elim) | (intro k hl hk; (try simp only [At, New, Grow, From, No] at hk ⊢); omega) | (intro k hl hk; first | exact hk.elim | (have := hG k hk; omega)))
  replace ht := ht.upd hu3 (fun k hk hl hS => by first | exact (show False from hS).elim | (simp only [At, New] at hk hS; omega) | (have := hG k hS; simp only [New] at hk; omega) | (have := hG k hS; omega))
  replace hB1 := hB1.upd hu3 (by first | exact (fun h => h) | (simp only [At]; omega) | (intro hS; have := hG _ hS; omega) | (intro hS; exact (show False from hS)))
  replace hB2 := hB2.upd hu3 (by first | exact (fun h => h) | (simp only [At]; omega) | (intro hS; have := hG _ hS; omega) | (intro hS; exact (show False from hS)))
  refine WL.val rfl rfl rfl rfl (r_assign rfl (ev_t rfl)) ?_
  refine WL.nil ?_
  refine WX.keep [(1, _), (2, _), (4, _)] ⟨rfl, rfl, rfl, trivial⟩ ?_
  refine WX.next ?_
  refine WC.seq ?_
  refine WC.region ?_
  refine WL.val rfl rfl rfl rfl (r_assign rfl ev_c) ?_
  refine WL.nil ?_
  refine WX.keep [(1, _), (2, _), (4, _), (5, _)] ⟨rfl, rfl, rfl, rfl, trivial⟩ ?_
  refine WX.next ?_
  refine WC.seq ?_
  refine WC.seq ?_
  refine WC.region ?_
  refine WL.val rfl rfl rfl rfl (r_assign rfl ev_c) ?_
  refine WL.nil ?_
  refine WX.keep [(1, _), (2, _), (4, _), (5, _), (6, _)] ⟨rfl, rfl, rfl, rfl, rfl, trivial⟩ ?_
  refine WX.next ?_
  refine WC.block ?_
  -- loop 1: live [1, 2, 4, 5, 6]
  refine WC.keep [(1, _), (2, _), (4, _), (5, _), (6, _)] ⟨rfl, rfl, rfl, rfl, rfl, trivial⟩ ?_
  refine WC.loop (fun q E wA => ∃ (i : Nat) (Al : Option Addr) (cl : Nat) (G : Nat → Prop), i ≤ (varsOf t).length ∧ q = (varsOf t).length - i ∧ Upd No w wA ∧ w3.heap.size ≤ wA.heap.size ∧ TV wA (fun k => F k ∧ k < w.heap.size) (.string ⟨t.nm.toArray⟩, .int .i64 m0, .slice A9 t.kids.length k9) t ∧ Own wA (New w2 w3) 3 1 (.slice A (varsOf t).length k) (varsOf t).length ((varsOf t).map I6) ∧ Own wA G typ 3 (.slice Al i cl) i (((onesL i).map lv).flatMap c3) ∧ (∀ k, G k → w3.heap.size ≤ k ∧ k < wA.heap.size) ∧   Blk wA w.heap.size #[.string ⟨t.nm.toArray⟩, .int .i64 m0, .slice A9 t.kids.length k9] typ ∧ Blk wA w1.heap.size #[.int .i64 0, .string ⟨#[]⟩, .int .i64 0, .slice none 0 0] 49 ∧   E = [(1, .pointer (some ⟨w.heap.size, 0, none⟩)), (2, .pointer (some ⟨w1.heap.size, 0, none⟩)), (4, .slice A (varsOf t).length k), (5, .slice Al i cl), (6, .int .i64 (i : Int))]) ((varsOf t).length) ?_ ?_
  · exact ⟨0, none, 0, fun _ => False, by omega, by omega, hU, by omega, ht, hv, Own.nil _ _ _ _, fun k h => h.elim, hB1, hB2, rfl⟩
  · clear hU ht hv hB1 hB2
    rintro q E wA ⟨i, Al, cl, G, hi, rfl, hU, hws, ht, hv, hl, hG, hB1, hB2, rfl⟩
    have hs0 := hU.size
    refine WC.seq ?_
    refine WC.seq ?_
    refine WC.region ?_
    refine WL.val rfl rfl rfl rfl (r_move rfl (ev_t rfl)) ?_
    refine WL.val rfl rfl rfl rfl (r_move rfl (ev_t rfl)) ?_
    refine WL.val rfl rfl rfl rfl (r_lenSlice (ts := #[]) rfl (ev_t rfl) elem_33) ?_
    refine WL.val rfl rfl rfl rfl (r_lss rfl (ev_t rfl) (ev_t rfl)) ?_
    refine WL.nil ?_
    refine WX.keep [(1, _), (2, _), (4, _), (5, _), (6, _), (12, _)] ⟨rfl, rfl, rfl, rfl, rfl, rfl, trivial⟩ ?_
    refine WX.next ?_
    refine WC.cond rfl (ev_t rfl) (fun hc4 => ?_) (fun hc4 => ?_)
    · try (exfalso; first | (simp at hc4; done) | (simp only [decide_eq_true_eq, decide_eq_false_iff_not, Bool.not_eq_true', Bool.not_eq_false', Bool.not_eq_true, Bool.not_eq_false] at hc4; omega) | omega)
      all_goals
       try simp only [decide_eq_true_eq, decide_eq_false_iff_not, Bool.not_eq_true', Bool.not_eq_false', Bool.not_eq_true, Bool.not_eq_false, Option.isNone_none, Option.isNone_some, Option.isSome_none, Option.isSome_some, ne_eq, Decidable.not_not] at hc4
       refine WC.skip ?_
       refine WX.next ?_
       refine WC.seq ?_
       refine WC.block ?_
       refine WC.region ?_
       refine WL.val rfl rfl rfl rfl (r_move rfl (ev_t rfl)) ?_
       refine WL.val rfl rfl rfl rfl (r_move rfl (ev_t rfl)) ?_
       first | refine WL.val rfl rfl rfl rfl (r_addN rfl (ev_t rfl) ev_c (by simp only [inK]; omega)) ?_ | refine WL.val rfl rfl rfl rfl (r_add rfl (ev_t rfl) ev_c) ?_
       refine WL.val rfl rfl rfl rfl (r_build (cs := #[_, _, _]) (vs := [(1, _)]) rfl ⟨⟨rfl, (ev_t rfl)⟩, trivial⟩ plc_28 zero_28 rfl) ?_
       refine WL.cons (SO.alloc rfl rfl rfl rfl (r_buildSlice (cs := #[_, _, _]) (vs := [(0, _)]) rfl ⟨⟨rfl, (ev_t rfl)⟩, trivial⟩ row_26 rfl rfl) ?_)
       intro w4 hu4 hB4 hz4
       have hs4 := hu4.size
       replace hU := hU.trans hu4 (by first | exact (fun _ _ h => h) | exact (fun _ _ h => h.elim) | (intro k hl hk; (try simp only [At, New, Grow, From, No] at hk ⊢); omega) | (intro k hl hk; first | exact hk.elim | (have := hG k hk; omega)))
       replace ht := ht.upd hu4 (fun k hk hl hS => by first | exact (show False from hS).elim | (simp only [At, New] at hk hS; omega) | (have := hG k hS; simp only [New] at hk; omega) | (have := hG k hS; omega))
       replace hv := hv.upd hu4 (fun k hk hl hS => by first | exact (show False from hS).elim | (simp only [At, New] at hk hS; omega) | (have := hG k hS; simp only [New] at hk; omega) | (have := hG k hS; omega))
       replace hl := hl.upd hu4 (fun k hk hl hS => by first | exact (show False from hS).elim | (simp only [At] at hS; have := hG k hk; omega))
       replace hB1 := hB1.upd hu4 (by first | exact (fun h => h) | (simp only [At]; omega) | (intro hS; have := hG _ hS; omega) | (intro hS; exact (show False from hS)))
       replace hB2 := hB2.upd hu4 (by first | exact (fun h => h) | (simp only [At]; omega) | (intro hS; have := hG _ hS; omega) | (intro hS; exact (show False from hS)))
       refine WL.cons (SO.append hl (show Rd _ _ _ 1 3 [Value.string ⟨#[]⟩, .int .i64 ((i : Int) + 1), .slice none 0 0] from rd_one hB4) row_26 one_c3 (le_maxLen (by omega)) (by omega) rfl (ev_t rfl) (ev_t rfl) rfl rfl rfl rfl ?_)
       intro v5 w5 hl hu5
       have hs5 := hu5.size
       replace hU := hU.trans hu5 (by first | exact (fun _ _ h => h) | exact (fun _ _ h => h.elim) | (intro k hl hk; (try simp only [At, New, Grow, From, No] at hk ⊢); omega) | (intro k hl hk; first | exact hk.elim | (have := hG k hk; omega)))
       replace ht := ht.upd hu5 (fun k hk hl hS => by first | exact (show False from hS).elim | (simp only [At, New] at hk hS; omega) | (have := hG k hS; simp only [New] at hk; omega) | (have := hG k hS; omega))
       replace hv := hv.upd hu5 (fun k hk hl hS => by first | exact (show False from hS).elim | (simp only [At, New] at hk hS; omega) | (have := hG k hS; simp only [New] at hk; omega) | (have := hG k hS; omega))
       replace hB1 := hB1.upd hu5 (by first | exact (fun h => h) | (simp only [At]; omega) | (intro hS; have := hG _ hS; omega) | (intro hS; exact (show False from hS)))
       replace hB2 := hB2.upd hu5 (by first | exact (fun h => h) | (simp only [At]; omega) | (intro hS; have := hG _ hS; omega) | (intro hS; exact (show False from hS)))
       obtain ⟨A5, c5, rfl, hc5⟩ := Own.form hl
       rw [← lv_snoc] at hl
       refine WL.val rfl rfl rfl rfl (r_assign rfl (ev_t rfl)) ?_
       refine WL.nil ?_
       refine WX.keep [(1, _), (2, _), (4, _), (5, _), (6, _)] ⟨rfl, rfl, rfl, rfl, rfl, trivial⟩ ?_
       refine WX.blockNormal ?_
       refine WX.next ?_
       refine WC.region ?_
       refine WL.val rfl rfl rfl rfl (r_move rfl (ev_t rfl)) ?_
       first | refine WL.val rfl rfl rfl rfl (r_addN rfl (ev_t rfl) ev_c (by simp only [inK]; omega)) ?_ | refine WL.val rfl rfl rfl rfl (r_add rfl (ev_t rfl) ev_c) ?_
       refine WL.val rfl rfl rfl rfl (r_assign rfl (ev_t rfl)) ?_
       refine WL.nil ?_
       refine WX.keep [(1, _), (2, _), (4, _), (5, _), (6, _)] ⟨rfl, rfl, rfl, rfl, rfl, trivial⟩ ?_
       refine WX.meet [(1, _), (2, _), (4, _), (5, _), (6, _)] ⟨rfl, rfl, rfl, rfl, rfl, trivial⟩ ?_
       refine ⟨(varsOf t).length - (i + 1), by omega, i + 1, _, _, _, by omega, rfl, hU, by omega, ht, hv, hl, fun k hk => ?_, hB1, hB2, by simp⟩
       rcases hk with hk | hk
       · have := hG k hk; omega
       · omega
    · try (exfalso; first | (simp at hc4; done) | (simp only [decide_eq_true_eq, decide_eq_false_iff_not, Bool.not_eq_true', Bool.not_eq_false', Bool.not_eq_true, Bool.not_eq_false] at hc4; omega) | omega)
      all_goals
       try simp only [decide_eq_true_eq, decide_eq_false_iff_not, Bool.not_eq_true', Bool.not_eq_false', Bool.not_eq_true, Bool.not_eq_false, Option.isNone_none, Option.isNone_some, Option.isSome_none, Option.isSome_some, ne_eq, Decidable.not_not] at hc4
       obtain rfl : i = (varsOf t).length := by omega
       have hon : ((onesL (varsOf t).length).map Ty.v).length = (varsOf t).length := by simp [onesL_len]
       have hrl : Rd wA (fun k => k ≠ w1.heap.size) (.slice Al (varsOf t).length cl) ((onesL (varsOf t).length).map Ty.v).length 3 (((onesL (varsOf t).length).map lv).flatMap c3) := by rw [hon]; exact (hl.rd (by omega)).mono fun k hk => by have := hG k hk; omega
       refine WC.exit ?_
       refine WX.thenExit ?_
       refine WX.thenExit ?_
       refine WX.blockHere ?_
       refine WX.next ?_
       refine WC.seq ?_
       refine WC.region ?_
       refine WL.val rfl rfl rfl rfl (r_move rfl (ev_t rfl)) ?_
       refine WL.val rfl rfl rfl rfl (r_lenSlice (ts := #[]) rfl (ev_t rfl) elem_33) ?_
       refine WL.val rfl rfl rfl rfl (r_loadAgg (vs := [_, _, _]) rfl (ev_t rfl) agg_28 size_28 (Blk.cellsL hB1)) ?_
       refine WL.val rfl rfl rfl rfl (r_move rfl (ev_t rfl)) ?_
       refine WL.val rfl rfl rfl rfl (r_move rfl (ev_t rfl)) ?_
       refine WL.cons (SO.call (put_ok (vs := varsOf t) (ls := (onesL (varsOf t).length).map Ty.v) (by rw [hon]; exact Nat.le_refl _) _ (fun k => k ≠ w1.heap.size) _ _ _ _ _ t (Nat.le_refl _) (ht.mono fun k hk => by have := hk.2; omega) ((hv.rd (by omega)).mono fun k hk => by simp only [New] at hk; omega) hrl (tvs_lv _ _ _)) rfl body_17 ⟨(ev_t rfl), (ev_t rfl), (ev_t rfl), trivial⟩ rfl rfl rfl rfl ?_)
       rintro v w6 ⟨e1, e2, e3, rfl, hq, hu6⟩
       replace hq := hq.mono (F' := fun k => k ≠ w1.heap.size) (fun k hk => by rcases hk with hk | hk; exact hk; simp only [New] at hk; omega)
       obtain ⟨mq, Aq, kq, xkq, rfl, rfl, rfl, _⟩ := hq.open
       have hs6 := hu6.size
       replace hU := hU.trans hu6 (by first | exact (fun _ _ h => h) | exact (fun _ _ h => h.elim) | (intro k hl hk; (try simp only [At, New, Grow, From, No] at hk ⊢); omega) | (intro k hl hk; first | exact hk.elim | (have := hG k hk; omega)))
       replace hv := hv.upd hu6 (fun k hk hl hS => by first | exact (show False from hS).elim | (simp only [At, New] at hk hS; omega) | (have := hG k hS; simp only [New] at hk; omega) | (have := hG k hS; omega))
       replace hB1 := hB1.upd hu6 (by first | exact (fun h => h) | (simp only [At]; omega) | (intro hS; have := hG _ hS; omega) | (intro hS; exact (show False from hS)))
       replace hB2 := hB2.upd hu6 (by first | exact (fun h => h) | (simp only [At]; omega) | (intro hS; have := hG _ hS; omega) | (intro hS; exact (show False from hS)))
       refine WL.val rfl rfl rfl rfl (r_build (cs := #[_, _, _, _]) (vs := [(0, _), (1, _)]) rfl ⟨⟨rfl, (ev_t rfl)⟩, ⟨rfl, (ev_t rfl)⟩, trivial⟩ plc_49 zero_49 rfl) ?_
       refine WL.val rfl rfl rfl rfl (r_move rfl (ev_t rfl)) ?_
       refine WL.cons (SO.storeAll (us := [_, _, _, _]) rfl (ev_t rfl) (ev_t rfl) size_49 hB2 rfl rfl rfl rfl rfl ?_)
       intro w7 hu7 hB2 hz7
       have hs7 := hu7.size
       replace hU := hU.trans hu7 (by first | exact (fun _ _ h => h) | exact (fun _ _ h => h.elim) | (intro k hl hk; (try simp only [At, New, Grow, From, No] at hk ⊢); omega) | (intro k hl hk; first | exact hk.elim | (have := hG k hk; omega)))
       replace hv := hv.upd hu7 (fun k hk hl hS => by first | exact (show False from hS).elim | (simp only [At, New] at hk hS; omega) | (have := hG k hS; simp only [New] at hk; omega) | (have := hG k hS; omega))
       replace hB1 := hB1.upd hu7 (by first | exact (fun h => h) | (simp only [At]; omega) | (intro hS; have := hG _ hS; omega) | (intro hS; exact (show False from hS)))
       replace hq := hq.upd hu7 (fun k hk hl hS => by first | exact (show False from hS).elim | exact hk hS)
       refine WL.val rfl rfl rfl rfl (r_assign rfl (ev_t rfl)) ?_
       refine WL.nil ?_
       refine WX.keep [(2, _), (3, _)] ⟨rfl, rfl, trivial⟩ ?_
       refine WX.next ?_
       refine WC.ret ?_
       refine WX.retM (l := [.cell 2 49, .tmp 3]) (vs := [_, _]) rfl ⟨⟨_, [_, _, _, _], rfl, agg_49, size_49, (Blk.cellsL hB2), rfl⟩, ⟨rfl, trivial⟩⟩ ?_
       exact ⟨_, _, _, _, _, rfl, hq.mono fun _ _ => trivial, hv.mono fun k hk => by simp only [New] at *; omega, hU⟩

theorem cells_tl {w : World} {g : Nat} {n a b c : Value} {T : TypeId} (h : Blk w g #[n, a, b, c] T) : CellsAt w ⟨g, 1, none⟩ [a, b, c] := Blk.cellsP h fun j v hj => by
  match j, hj with
  | 0, hj => simpa using hj
  | 1, hj => simpa using hj
  | 2, hj => simpa using hj
  | j + 3, hj => simp at hj
theorem tv_star {w : World} {F : Nat → Prop} {v : Value} {xs : List C3} {ts : List Ty} (hr : Rd w F v ts.length 3 (xs.flatMap c3)) (hk : TVs w F xs ts) (hl : ts.length ≤ 1000000) : TV w F (.string ⟨#[42]⟩, .int .i64 0, v) (.c nStar ts) :=
  TV.kids (t := .c nStar ts) (fun y e => by cases e) hr hl hk
theorem alike_ok {w : World} {F : Nat → Prop} {av bv : Value} {xa xb : List C3} {la lb : List Ty} (hra : Rd w F av la.length 3 (xa.flatMap c3)) (hka : TVs w F xa la) (hrb : Rd w F bv lb.length 3 (xb.flatMap c3)) (hkb : TVs w F xb lb) (hla : la.length ≤ 1000) (hlb : lb.length ≤ 1000) (hva : (vars (.c nStar la)).length ≤ 1000000) (hvb : (vars (.c nStar lb)).length ≤ 1000000) :
    Ret Try.prog 20 #[av, bv] w fun v w' => ∃ bb, v = .bool bb ∧ (bb = true ↔ canon (.c nStar la) = canon (.c nStar lb)) ∧ Upd No w w' := by
  replace hra := hra.bound
  replace hrb := hrb.bound
  replace hka := hka.bound
  replace hkb := hkb.bound
  obtain ⟨Aa, ca, rfl, _⟩ := hra.slice_form
  obtain ⟨Ab, cb, rfl, _⟩ := hrb.slice_form
  have hta := tv_star hra hka (by omega)
  have htb := tv_star hrb hkb (by omega)
  refine enterRet (vs := [_, _]) (N := 26) Try.func20 rfl rfl rfl ?_
  have hU := Upd.refl No w
  refine WC.keep [(0, _), (1, _)] ⟨rfl, rfl, trivial⟩ ?_
  refine WC.seq ?_
  refine WC.region ?_
  refine WL.val rfl rfl rfl rfl (r_assign rfl ev_c) ?_
  refine WL.nil ?_
  refine WX.keep [(0, _), (1, _)] ⟨rfl, rfl, trivial⟩ ?_
  refine WX.next ?_
  refine WC.seq ?_
  refine WC.region ?_
  refine WL.val rfl rfl rfl rfl (r_move rfl (ev_t rfl)) ?_
  refine WL.val rfl rfl rfl rfl (r_build (cs := #[_, _, _]) (vs := [(0, _), (2, _)]) rfl ⟨⟨rfl, ev_c⟩, ⟨rfl, (ev_t rfl)⟩, trivial⟩ plc_28 zero_28 rfl) ?_
  refine WL.cons (SO.call (rclose_ok hta hva) rfl body_29 ⟨(ev_t rfl), trivial⟩ rfl rfl rfl rfl ?_)
  rintro v w1 ⟨a1, a2, a3, Av, kv, rfl, hqa, _, hu1⟩
  obtain ⟨m1, A1, k1, xk1, rfl, rfl, rfl, _⟩ := hqa.open
  replace hqa := hqa.bound
  have hs1 := hu1.size
  replace hU := hU.transA hu1
  replace htb := htb.upd hu1 (fun k hk hl hS => by first | exact (show False from hS).elim | (simp only [At] at hS; omega))
  refine WL.val rfl rfl rfl rfl (r_move rfl (ev_t rfl)) ?_
  refine WL.val rfl rfl rfl rfl (r_extract rfl (ev_t rfl) rfl) ?_
  refine WL.val rfl rfl rfl rfl (r_extract rfl (ev_t rfl) rfl) ?_
  refine WL.cons (SO.alloc rfl rfl rfl rfl (r_alloc rfl zero_49) ?_)
  intro w2 hu2 hB2 hz2
  have hs2 := hu2.size
  replace hU := hU.transA hu2
  replace htb := htb.upd hu2 (fun k hk hl hS => by first | exact (show False from hS).elim | (simp only [At] at hS; omega))
  replace hqa := hqa.upd hu2 (fun k hk hl hS => by first | exact (show False from hS).elim | (simp only [At] at hS; have := hk.2; omega))
  refine WL.cons (SO.storeAll (us := [_, _, _, _]) rfl (ev_t rfl) (ev_t rfl) size_49 hB2 rfl rfl rfl rfl rfl ?_)
  intro w3 hu3 hB2 hz3
  have hs3 := hu3.size
  replace hU := hU.transA hu3
  replace htb := htb.upd hu3 (fun k hk hl hS => by first | exact (show False from hS).elim | (simp only [At] at hS; omega))
  replace hqa := hqa.upd hu3 (fun k hk hl hS => by first | exact (show False from hS).elim | (simp only [At] at hS; have := hk.2; omega))
  refine WL.val rfl rfl rfl rfl (r_assign rfl (ev_t rfl)) ?_
  refine WL.nil ?_
  refine WX.keep [(1, _), (5, _)] ⟨rfl, rfl, trivial⟩ ?_
  refine WX.next ?_
  refine WC.seq ?_
  have hb5 := hB2
  refine WC.region ?_
  refine WL.val rfl rfl rfl rfl (r_move rfl (ev_t rfl)) ?_
  refine WL.val rfl rfl rfl rfl (r_build (cs := #[_, _, _]) (vs := [(0, _), (2, _)]) rfl ⟨⟨rfl, ev_c⟩, ⟨rfl, (ev_t rfl)⟩, trivial⟩ plc_28 zero_28 rfl) ?_
  refine WL.cons (SO.call (rclose_ok htb hvb) rfl body_29 ⟨(ev_t rfl), trivial⟩ rfl rfl rfl rfl ?_)
  rintro v w4 ⟨b1, b2, b3, Bv, lv', rfl, hqb, _, hu4⟩
  obtain ⟨m2, A2, k2, xk2, rfl, rfl, rfl, _⟩ := hqb.open
  replace hqb := hqb.bound
  have hs4 := hu4.size
  replace hU := hU.transA hu4
  replace htb := htb.upd hu4 (fun k hk hl hS => by first | exact (show False from hS).elim | (simp only [At] at hS; omega))
  replace hqa := hqa.upd hu4 (fun k hk hl hS => by first | exact (show False from hS).elim | (simp only [At] at hS; have := hk.2; omega))
  replace hb5 := hb5.updA hu4
  refine WL.val rfl rfl rfl rfl (r_move rfl (ev_t rfl)) ?_
  refine WL.val rfl rfl rfl rfl (r_extract rfl (ev_t rfl) rfl) ?_
  refine WL.val rfl rfl rfl rfl (r_extract rfl (ev_t rfl) rfl) ?_
  refine WL.cons (SO.alloc rfl rfl rfl rfl (r_alloc rfl zero_49) ?_)
  intro w5 hu5 hB5 hz5
  have hs5 := hu5.size
  replace hU := hU.transA hu5
  replace hqa := hqa.upd hu5 (fun k hk hl hS => by first | exact (show False from hS).elim | (simp only [At] at hS; have := hk.2; omega))
  replace hb5 := hb5.updA hu5
  replace hqb := hqb.upd hu5 (fun k hk hl hS => by first | exact (show False from hS).elim | (simp only [At] at hS; have := hk.2; omega))
  refine WL.cons (SO.storeAll (us := [_, _, _, _]) rfl (ev_t rfl) (ev_t rfl) size_49 hB5 rfl rfl rfl rfl rfl ?_)
  intro w6 hu6 hB5 hz6
  have hs6 := hu6.size
  replace hU := hU.transA hu6
  replace hqa := hqa.upd hu6 (fun k hk hl hS => by first | exact (show False from hS).elim | (simp only [At] at hS; have := hk.2; omega))
  replace hb5 := hb5.updA hu6
  replace hqb := hqb.upd hu6 (fun k hk hl hS => by first | exact (show False from hS).elim | (simp only [At] at hS; have := hk.2; omega))
  refine WL.val rfl rfl rfl rfl (r_assign rfl (ev_t rfl)) ?_
  refine WL.nil ?_
  refine WX.keep [(5, _), (7, _)] ⟨rfl, rfl, trivial⟩ ?_
  refine WX.next ?_
  refine WC.seq ?_
  refine WC.region ?_
  first | refine WL.val rfl rfl rfl rfl (r_field0 rfl (ev_t rfl) fld_49_1) ?_ | refine WL.val rfl rfl rfl rfl (r_fieldAt rfl (ev_t rfl) fld_49_1) ?_
  refine WL.val rfl rfl rfl rfl (r_loadAgg (vs := [_, _, _]) rfl (ev_t rfl) agg_28 size_28 (cells_tl hb5)) ?_
  first | refine WL.val rfl rfl rfl rfl (r_field0 rfl (ev_t rfl) fld_49_1) ?_ | refine WL.val rfl rfl rfl rfl (r_fieldAt rfl (ev_t rfl) fld_49_1) ?_
  refine WL.val rfl rfl rfl rfl (r_loadAgg (vs := [_, _, _]) rfl (ev_t rfl) agg_28 size_28 (cells_tl hB5)) ?_
  refine WL.cons (SO.call (rsame_ok _ (fun _ => True) _ _ _ _ _ _ _ _ _ (Nat.le_refl _) (hqa.mono fun _ _ => trivial) (hqb.mono fun _ _ => trivial)) rfl body_16 ⟨(ev_t rfl), (ev_t rfl), trivial⟩ rfl rfl rfl rfl ?_)
  rintro v w7 ⟨bb, rfl, hbb, hu7⟩
  clear hqa hqb
  have hs7 := hu7.size
  replace hU := hU.transA hu7
  replace hb5 := hb5.updA hu7
  replace hB5 := hB5.updA hu7
  refine WL.val rfl rfl rfl rfl (r_assign rfl (ev_t rfl)) ?_
  refine WL.nil ?_
  refine WX.keep [(4, _)] ⟨rfl, trivial⟩ ?_
  refine WX.next ?_
  refine WC.ret ?_
  refine WX.retE1 rfl rfl ?_
  exact ⟨bb, rfl, hbb, hU⟩
end Go.Proofs.Ytncakfcafkfmfaa

/-
  law 06: TypesUnify.
-/
namespace Go.Proofs.Ytncakfcafkfmfaa
open Go
set_option linter.unusedSimpArgs false
set_option linter.unusedVariables false

theorem t3_all {l : List Ty} {σ : Sg} {b : Nat} (h : ∀ (k : Nat) t, l[k]? = some t → k < l.length → sz (ext (th σ) t) < b) : ∀ t ∈ l.map (ext (th σ)), sz t ≤ b := fun t ht => by
  obtain ⟨u, hu, rfl⟩ := List.mem_map.1 ht
  obtain ⟨k, hk⟩ := List.getElem?_of_mem hu
  have hl : k < l.length := by
    rcases Nat.lt_or_ge k l.length with h9 | h9
    · exact h9
    · rw [List.getElem?_eq_none h9] at hk; cases hk
  exact Nat.le_of_lt (h k u hk hl)

theorem take_map_snoc3 {l : List Ty} {f : Ty → Ty} {i : Nat} {t : Ty} (h : l[i]? = some t) : (l.take (i + 1)).map f = (l.take i).map f ++ [f t] := by
  have hi : i < l.length := by
    rcases Nat.lt_or_ge i l.length with h9 | h9
    · exact h9
    · rw [List.getElem?_eq_none h9] at h; cases h
  rw [take_map_snoc hi]
  rw [List.getElem?_eq_getElem hi] at h
  injection h with h
  rw [h]

theorem mixT_done {f : Ty → Ty} {l : List Ty} {i j : Nat} {t : Ty} (h : l[j]? = some t) (hj : j < i) : (mixT f l i)[j]? = some (f t) := by
  have hl : j < l.length := (List.getElem?_eq_some_iff.1 h).1
  unfold mixT
  rw [List.getElem?_append_left (by simp; omega), List.getElem?_map, List.getElem?_take_of_lt hj, h]
  rfl
theorem take_done {f : Ty → Ty} {l : List Ty} {i j : Nat} {t : Ty} (h : l[j]? = some t) (hj : j < i) : ((l.take i).map f)[j]? = some (f t) := by
  rw [List.getElem?_map, List.getElem?_take_of_lt hj, h]
  rfl
theorem flat2_even {ps : List (Ty × Ty)} {i : Nat} {t : Ty} (h : (flat2 ps)[i]? = some t) (ho : ((i : Nat) : Int) % 2 = 1) : ∃ p ∈ ps, (flat2 ps)[i - 1]? = some p.1 ∧ t = p.2 ∧ 1 ≤ i := by
  have hl : i < (flat2 ps).length := (List.getElem?_eq_some_iff.1 h).1
  rw [flat2_len] at hl
  obtain ⟨j, rfl⟩ : ∃ j, i = 2 * j + 1 := ⟨i / 2, by omega⟩
  have hj : j < ps.length := by omega
  obtain ⟨h1, h2⟩ := flat2_get (List.getElem?_eq_getElem hj)
  rw [h] at h2
  injection h2 with h2
  exact ⟨_, List.getElem_mem hj, h1, h2, by omega⟩

set_option maxHeartbeats 16000000 in
theorem typesUnify.walk {w : World} {lv : Value} {xt : List (C3 × C3)} {tt : List (Tr × Tr)} (hrt : Rd w (fun k => k < w.heap.size) lv tt.length 6 (xt.flatMap c6)) (htt : PRs w (fun k => k < w.heap.size) xt tt) :
    Ret Try.prog 7 #[lv] w fun v w' => v = .bool true ∧ Upd No w w' := by
  obtain ⟨At_, kt, rfl, _⟩ := hrt.slice_form
  obtain ⟨B0, hB0⟩ : ∃ B0, B0 = w.heap.size := ⟨_, rfl⟩
  rw [← hB0] at hrt htt
  refine enterRet (vs := [_]) (N := 154) Try.func7 rfl rfl rfl ?_
  have hU := Upd.refl No w
  refine WC.keep [(0, _)] ⟨rfl, trivial⟩ ?_
  refine WC.seq ?_
  refine WC.region ?_
  refine WL.val rfl rfl rfl rfl (r_assign rfl ev_c) ?_
  refine WL.nil ?_
  refine WX.keep [(0, _)] ⟨rfl, trivial⟩ ?_
  refine WX.next ?_
  refine WC.seq ?_
  refine WC.seq ?_
  refine WC.region ?_
  refine WL.cons (SO.call (awake_ok) rfl body_10 trivial rfl rfl rfl rfl ?_)
  rintro v w1 ⟨rfl, hu1⟩
  have hs1 := hu1.size
  replace hU := hU.trans hu1 (by exact (fun _ _ h => h))
  replace hrt := hrt.upd hu1 (fun k hk hl hS => by exact (show False from hS).elim)
  replace htt := htt.upd hu1 (fun k hk hl hS => by exact (show False from hS).elim)
  refine WL.val rfl rfl rfl rfl (r_not rfl (ev_t rfl)) ?_
  refine WL.val rfl rfl rfl rfl (r_move rfl (ev_t rfl)) ?_
  refine WL.cases 15 rfl (fun hb1_2 => ?_) (fun hb1_2 => ?_)
  · try (exfalso; first | (simp at hb1_2; done) | (simp only [decide_eq_true_eq, decide_eq_false_iff_not, Bool.not_eq_true', Bool.not_eq_false', Bool.not_eq_true, Bool.not_eq_false] at hb1_2; omega) | omega)
    all_goals
     try simp only [decide_eq_true_eq, decide_eq_false_iff_not, Bool.not_eq_true', Bool.not_eq_false', Bool.not_eq_true, Bool.not_eq_false, Option.isNone_none, Option.isNone_some, Option.isSome_none, Option.isSome_some, ne_eq, Decidable.not_not] at hb1_2
     refine WL.skip rfl rfl rfl ?_
     refine WL.skip rfl rfl rfl ?_
     refine WL.skip rfl rfl rfl ?_
     refine WL.val rfl rfl rfl rfl (r_pickT rfl (ev_t rfl) ev_c) ?_
     refine WL.nil ?_
     refine WX.keep [(0, _), (19, _)] ⟨rfl, rfl, trivial⟩ ?_
     refine WX.next ?_
     refine WC.cond_true rfl (ev_t rfl) ?_
     refine WC.seq ?_
     refine WC.region ?_
     refine WL.cons (SO.call (awake_ok) rfl body_10 trivial rfl rfl rfl rfl ?_)
     rintro v w2 ⟨rfl, hu2⟩
     have hs2 := hu2.size
     replace hU := hU.trans hu2 (by first | exact (fun _ _ h => h) | exact (fun _ _ h => h.elim) | (intro k hl hk; (try simp only [At, New, Grow, From, No] at hk ⊢); omega) | (intro k hl hk; first | (have := hMut k hk; omega) | (have := hGR k hk; omega) | (have := hGx k hk; omega) | (have := hGx2 k hk; omega) | (have := hGy k hk; omega)))
     replace hrt := hrt.upd hu2 (fun k hk hl hS => by first | exact (show False from hS).elim | (simp only [At, New] at hk hS; omega) | (simp only [At] at hS; omega) | (have := hMut k hS; omega) | (have := hGR k hS; omega) | (have := hGx k hS; omega))
     replace htt := htt.upd hu2 (fun k hk hl hS => by first | exact (show False from hS).elim | (simp only [At, New] at hk hS; omega) | (simp only [At] at hS; omega) | (have := hMut k hS; omega) | (have := hGR k hS; omega) | (have := hGx k hS; omega))
     refine WL.val rfl rfl rfl rfl (r_assign rfl (ev_t rfl)) ?_
     refine WL.nil ?_
     refine WX.keep [(2, _)] ⟨rfl, trivial⟩ ?_
     refine WX.next ?_
     refine WC.ret ?_
     refine WX.thenRet ?_
     refine WX.retE1 rfl rfl ?_
     exact ⟨rfl, hU⟩
  · try (exfalso; first | (simp at hb1_2; done) | (simp only [decide_eq_true_eq, decide_eq_false_iff_not, Bool.not_eq_true', Bool.not_eq_false', Bool.not_eq_true, Bool.not_eq_false] at hb1_2; omega) | omega)
    all_goals
     try simp only [decide_eq_true_eq, decide_eq_false_iff_not, Bool.not_eq_true', Bool.not_eq_false', Bool.not_eq_true, Bool.not_eq_false, Option.isNone_none, Option.isNone_some, Option.isSome_none, Option.isSome_some, ne_eq, Decidable.not_not] at hb1_2
     refine WL.val rfl rfl rfl rfl (r_move rfl (ev_t rfl)) ?_
     refine WL.val rfl rfl rfl rfl (r_lenSlice (ts := #[]) rfl (ev_t rfl) elem_37) ?_
     refine WL.val rfl rfl rfl rfl (r_gtr rfl (ev_t rfl) ev_c) ?_
     refine WL.val rfl rfl rfl rfl (r_pickF rfl (ev_t rfl) (ev_t rfl)) ?_
     refine WL.nil ?_
     refine WX.keep [(0, _), (19, _)] ⟨rfl, rfl, trivial⟩ ?_
     refine WX.next ?_
     refine WC.cond rfl (ev_t rfl) (fun hc1 => ?_) (fun hc1 => ?_)
     · try (exfalso; first | (simp at hc1; done) | (simp only [decide_eq_true_eq, decide_eq_false_iff_not, Bool.not_eq_true', Bool.not_eq_false', Bool.not_eq_true, Bool.not_eq_false] at hc1; omega) | omega)
       all_goals
        try simp only [decide_eq_true_eq, decide_eq_false_iff_not, Bool.not_eq_true', Bool.not_eq_false', Bool.not_eq_true, Bool.not_eq_false, Option.isNone_none, Option.isNone_some, Option.isSome_none, Option.isSome_some, ne_eq, Decidable.not_not] at hc1
        refine WC.seq ?_
        refine WC.region ?_
        refine WL.cons (SO.call (awake_ok) rfl body_10 trivial rfl rfl rfl rfl ?_)
        rintro v w3 ⟨rfl, hu3⟩
        have hs3 := hu3.size
        replace hU := hU.trans hu3 (by exact (fun _ _ h => h))
        replace hrt := hrt.upd hu3 (fun k hk hl hS => by exact (show False from hS).elim)
        replace htt := htt.upd hu3 (fun k hk hl hS => by exact (show False from hS).elim)
        refine WL.val rfl rfl rfl rfl (r_assign rfl (ev_t rfl)) ?_
        refine WL.nil ?_
        refine WX.keep [(2, _)] ⟨rfl, trivial⟩ ?_
        refine WX.next ?_
        refine WC.ret ?_
        refine WX.thenRet ?_
        refine WX.retE1 rfl rfl ?_
        exact ⟨rfl, hU⟩
     · try (exfalso; first | (simp at hc1; done) | (simp only [decide_eq_true_eq, decide_eq_false_iff_not, Bool.not_eq_true', Bool.not_eq_false', Bool.not_eq_true, Bool.not_eq_false] at hc1; omega) | omega)
       all_goals
        try simp only [decide_eq_true_eq, decide_eq_false_iff_not, Bool.not_eq_true', Bool.not_eq_false', Bool.not_eq_true, Bool.not_eq_false, Option.isNone_none, Option.isNone_some, Option.isSome_none, Option.isSome_some, ne_eq, Decidable.not_not] at hc1
        refine WC.skip ?_
        refine WX.next ?_
        refine WC.seq ?_
        refine WC.region ?_
        refine WL.cons (SO.call (tnew_ok (F := fun _ => False)) rfl body_11 ⟨ev_c, trivial⟩ rfl rfl rfl rfl ?_)
        rintro v w4 ⟨p, m1, m2, rfl, hI, hMut, hu4⟩
        obtain ⟨hlp, hl1, hl2⟩ := hI.lt
        have hs4 := hu4.size
        replace hU := hU.trans hu4 (by exact (fun _ _ h => h))
        replace hrt := hrt.upd hu4 (fun k hk hl hS => by exact (show False from hS).elim)
        replace htt := htt.upd hu4 (fun k hk hl hS => by exact (show False from hS).elim)
        obtain ⟨BM, hBM⟩ : ∃ BM, BM = w4.heap.size := ⟨_, rfl⟩
        replace hMut : ∀ k, Mut p m1 m2 k → B0 ≤ k ∧ k < BM := fun k hk => by have := hMut k hk; simp only [New] at this; omega
        refine WL.val rfl rfl rfl rfl (r_assign rfl (ev_t rfl)) ?_
        refine WL.nil ?_
        refine WX.keep [(0, _), (3, _)] ⟨rfl, rfl, trivial⟩ ?_
        refine WX.next ?_
        refine WC.seq ?_
        refine WC.region ?_
        refine WL.val rfl rfl rfl rfl (r_build (cs := #[_, _, _, _]) (vs := [(0, _)]) rfl ⟨⟨rfl, ev_c⟩, trivial⟩ plc_46 zero_46 rfl) ?_
        refine WL.cons (SO.alloc rfl rfl rfl rfl (r_boxAgg rfl (ev_t rfl)) ?_)
        intro w5 hu5 hB5 hz5
        have hs5 := hu5.size
        replace hU := hU.trans hu5 (by exact (fun _ _ h => h))
        replace hrt := hrt.upd hu5 (fun k hk hl hS => by exact (show False from hS).elim)
        replace htt := htt.upd hu5 (fun k hk hl hS => by exact (show False from hS).elim)
        replace hI := hI.upd hu5 (fun k hk hl hS => by exact (show False from hS).elim)
        refine WL.val rfl rfl rfl rfl (r_assign rfl (ev_t rfl)) ?_
        refine WL.nil ?_
        refine WX.keep [(0, _), (3, _), (4, _)] ⟨rfl, rfl, rfl, trivial⟩ ?_
        obtain ⟨B1, hB1⟩ : ∃ B1, B1 = w5.heap.size := ⟨_, rfl⟩
        have hR : RS w5 (fun _ => False) (At BM) BM [] [] 100 := ⟨fun _ => False, fun _ => False, fun _ => False, [], none, none, none, 0, 0, 0, ⟨hBM ▸ hB5, Own.nil _ _ _ _, Own.nil _ _ _ _, Own.nil _ _ _ _, TVs.nil _ _, by simp⟩, ⟨rfl, fun k h => h.elim, fun k h => h.elim, fun k h => h.elim, fun k h => h.elim, fun k h => by simp only [At] at h; omega⟩⟩
        rw [← hBM]
        refine WX.next ?_
        refine WC.seq ?_
        refine WC.region ?_
        refine WL.val rfl rfl rfl rfl (r_assign rfl ev_c) ?_
        refine WL.val rfl rfl rfl rfl (r_assign rfl ev_c) ?_
        refine WL.nil ?_
        refine WX.keep [(0, _), (3, _), (4, _), (5, _), (6, _)] ⟨rfl, rfl, rfl, rfl, rfl, trivial⟩ ?_
        refine WX.next ?_
        refine WC.seq ?_
        refine WC.seq ?_
        refine WC.region ?_
        have htl5 : tt.length ≤ 8 := by omega
        refine WL.val rfl rfl rfl rfl (r_assign rfl ev_c) ?_
        refine WL.nil ?_
        refine WX.keep [(0, _), (3, _), (4, _), (5, _), (6, _), (7, _)] ⟨rfl, rfl, rfl, rfl, rfl, rfl, trivial⟩ ?_
        refine WX.next ?_
        refine WC.block ?_
        -- loop 1: live [0, 3, 4, 5, 6, 7]
        refine WC.keep [(0, _), (3, _), (4, _), (5, _), (6, _), (7, _)] ⟨rfl, rfl, rfl, rfl, rfl, rfl, trivial⟩ ?_
        refine WC.loop (fun q E wA => ∃ (i m : Nat) (A : Option Addr) (cl : Nat) (ys : List C3) (ps : List (Ty × Ty)) (σ : Sg) (D : Dn) (xs : List C3) (Gx T GR : Nat → Prop), i ≤ tt.length ∧ q = tt.length - i ∧ m = 2 * i ∧ Upd No w wA ∧ B1 ≤ wA.heap.size ∧ ps.length = i ∧ Run (upto 20) ps true σ D ∧ DU (upto 20) σ D ∧   Rd wA (fun k => k < B0) (.slice At_ tt.length kt) tt.length 6 (xt.flatMap c6) ∧ PRs wA (fun k => k < B0) xt tt ∧ Own wA Gx typ 3 (.slice A m cl) m (ys.flatMap c3) ∧ TVs wA T ys (flat2 ps) ∧ IsS wA T p m1 m2 σ D 100 xs ∧ RS wA T GR BM σ D 100 ∧   (∀ k, Gx k → B1 ≤ k ∧ k < wA.heap.size) ∧ (∀ k, GR k → BM ≤ k ∧ k < wA.heap.size ∧ ¬ Gx k) ∧ (∀ k, T k → B1 ≤ k ∧ k < wA.heap.size ∧ ¬ Gx k ∧ ¬ GR k) ∧   E = [(0, .slice At_ tt.length kt), (3, .pointer (some ⟨p, 0, none⟩)), (4, .pointer (some ⟨BM, 0, none⟩)), (5, .slice A m cl), (6, .slice none 0 0), (7, .int .i64 (i : Int))]) (tt.length) ?_ ?_
        · exact ⟨0, 0, none, 0, [], [], [], [], [], fun _ => False, fun _ => False, At BM, by omega, by omega, rfl, hU, by omega, rfl, .nil, DU.nil _, hrt, htt, Own.nil _ _ _ _, TVs.nil _ _, hI, hR, fun k h => h.elim, fun k h => (by simp only [At] at h; exact ⟨by omega, by omega, fun h => h⟩), fun k h => h.elim, rfl⟩
        · clear hU hrt htt hI hR
          rintro q E wA ⟨i, m, A, cl, ys, ps, σ, D, xs, Gx, T, GR, hi, rfl, hm, hU, hws, hpl, hrun, hdu, hrt, htt, hol, hys, hI, hR, hGx, hGR, hT, rfl⟩
          have hs0 := hU.size
          refine WC.seq ?_
          refine WC.seq ?_
          refine WC.region ?_
          refine WL.val rfl rfl rfl rfl (r_move rfl (ev_t rfl)) ?_
          refine WL.val rfl rfl rfl rfl (r_move rfl (ev_t rfl)) ?_
          refine WL.val rfl rfl rfl rfl (r_lenSlice (ts := #[]) rfl (ev_t rfl) elem_37) ?_
          refine WL.val rfl rfl rfl rfl (r_lss rfl (ev_t rfl) (ev_t rfl)) ?_
          refine WL.nil ?_
          refine WX.keep [(0, _), (3, _), (4, _), (5, _), (6, _), (7, _), (27, _)] ⟨rfl, rfl, rfl, rfl, rfl, rfl, rfl, trivial⟩ ?_
          refine WX.next ?_
          refine WC.cond rfl (ev_t rfl) (fun hc7 => ?_) (fun hc7 => ?_)
          · try (exfalso; first | (simp at hc7; done) | (simp only [decide_eq_true_eq, decide_eq_false_iff_not, Bool.not_eq_true', Bool.not_eq_false', Bool.not_eq_true, Bool.not_eq_false] at hc7; omega) | omega)
            all_goals
             try simp only [decide_eq_true_eq, decide_eq_false_iff_not, Bool.not_eq_true', Bool.not_eq_false', Bool.not_eq_true, Bool.not_eq_false, Option.isNone_none, Option.isNone_some, Option.isSome_none, Option.isSome_some, ne_eq, Decidable.not_not] at hc7
             have hi' : i < tt.length := by omega
             obtain ⟨bt, offt, rfl, _⟩ := hrt.open (by omega)
             obtain ⟨⟨⟨ca, cb, cc⟩, ⟨cd, ce, cf⟩⟩, hxi, hta, htb⟩ := htt.tv hi'
             generalize tt[i] = ti at *
             obtain ⟨ta, tb⟩ := ti
             refine WC.skip ?_
             refine WX.next ?_
             refine WC.seq ?_
             refine WC.block ?_
             refine WC.seq ?_
             refine WC.seq ?_
             refine WC.region ?_
             refine WL.val rfl rfl rfl rfl (r_move rfl (ev_t rfl)) ?_
             refine WL.val rfl rfl rfl rfl (r_move rfl (ev_t rfl)) ?_
             refine WL.val rfl rfl rfl rfl (r_indexAddr rfl (ev_t rfl) (ev_t rfl) elem_37 size_39 (by omega) (by omega)) ?_
             first | refine WL.val rfl rfl rfl rfl (r_field0 rfl (ev_t rfl) fld_39_0) ?_ | refine WL.val rfl rfl rfl rfl (r_fieldAt rfl (ev_t rfl) fld_39_0) ?_
             refine WL.val rfl rfl rfl rfl (r_loadAgg (vs := [_, _, _]) rfl (ev_t rfl) agg_28 size_28 (pair_cells hrt hxi rfl)) ?_
             refine WL.cons (SO.call (small_ok 4 _ _ _ _ _ ta hta (by omega)) rfl body_14 ⟨(ev_t rfl), ev_c, trivial⟩ rfl rfl rfl rfl ?_)
             rintro v w6 ⟨rfl, hu6⟩
             have hs6 := hu6.size
             replace hU := hU.trans hu6 (by exact (fun _ _ h => h))
             replace hrt := hrt.upd hu6 (fun k hk hl hS => by exact (show False from hS).elim)
             replace htt := htt.upd hu6 (fun k hk hl hS => by exact (show False from hS).elim)
             replace hol := hol.upd hu6 (fun k hk hl hS => by exact (show False from hS).elim)
             replace hys := hys.upd hu6 (fun k hk hl hS => by exact (show False from hS).elim)
             replace hI := hI.upd hu6 (fun k hk hl hS => by exact (show False from hS).elim)
             replace hR := hR.upd hu6 (fun k hk hl hS => by exact (show False from hS).elim)
             replace hta := hta.upd hu6 (fun k hk hl hS => by exact (show False from hS).elim)
             replace htb := htb.upd hu6 (fun k hk hl hS => by exact (show False from hS).elim)
             refine WL.val rfl rfl rfl rfl (r_not rfl (ev_t rfl)) ?_
             refine WL.val rfl rfl rfl rfl (r_move rfl (ev_t rfl)) ?_
             refine WL.cases 37 rfl (fun hb9_7 => ?_) (fun hb9_7 => ?_)
             · try (exfalso; first | (simp at hb9_7; done) | (simp only [decide_eq_true_eq, decide_eq_false_iff_not, Bool.not_eq_true', Bool.not_eq_false', Bool.not_eq_true, Bool.not_eq_false] at hb9_7; omega) | omega)
               all_goals
                try simp only [decide_eq_true_eq, decide_eq_false_iff_not, Bool.not_eq_true', Bool.not_eq_false', Bool.not_eq_true, Bool.not_eq_false, Option.isNone_none, Option.isNone_some, Option.isSome_none, Option.isSome_some, ne_eq, Decidable.not_not] at hb9_7
                refine WL.skip rfl rfl rfl ?_
                refine WL.skip rfl rfl rfl ?_
                refine WL.skip rfl rfl rfl ?_
                refine WL.skip rfl rfl rfl ?_
                refine WL.skip rfl rfl rfl ?_
                refine WL.skip rfl rfl rfl ?_
                refine WL.skip rfl rfl rfl ?_
                refine WL.val rfl rfl rfl rfl (r_pickT rfl (ev_t rfl) ev_c) ?_
                refine WL.nil ?_
                refine WX.keep [(0, _), (3, _), (4, _), (5, _), (6, _), (7, _), (45, _)] ⟨rfl, rfl, rfl, rfl, rfl, rfl, rfl, trivial⟩ ?_
                refine WX.next ?_
                refine WC.cond_true rfl (ev_t rfl) ?_
                refine WC.seq ?_
                refine WC.region ?_
                refine WL.val rfl rfl rfl rfl (r_assign rfl ev_c) ?_
                refine WL.nil ?_
                refine WX.keep [(2, _)] ⟨rfl, trivial⟩ ?_
                refine WX.next ?_
                refine WC.ret ?_
                refine WX.thenRet ?_
                refine WX.blockRet ?_
                refine WX.thenRet ?_
                refine WX.thenRet ?_
                refine WX.blockRet ?_
                refine WX.thenRet ?_
                refine WX.retE1 rfl rfl ?_
                exact ⟨rfl, hU⟩
             · try (exfalso; first | (simp at hb9_7; done) | (simp only [decide_eq_true_eq, decide_eq_false_iff_not, Bool.not_eq_true', Bool.not_eq_false', Bool.not_eq_true, Bool.not_eq_false] at hb9_7; omega) | omega)
               all_goals
                try simp only [decide_eq_true_eq, decide_eq_false_iff_not, Bool.not_eq_true', Bool.not_eq_false', Bool.not_eq_true, Bool.not_eq_false, Option.isNone_none, Option.isNone_some, Option.isSome_none, Option.isSome_some, ne_eq, Decidable.not_not] at hb9_7
                refine WL.val rfl rfl rfl rfl (r_move rfl (ev_t rfl)) ?_
                refine WL.val rfl rfl rfl rfl (r_move rfl (ev_t rfl)) ?_
                refine WL.val rfl rfl rfl rfl (r_indexAddr rfl (ev_t rfl) (ev_t rfl) elem_37 size_39 (by omega) (by omega)) ?_
                first | refine WL.val rfl rfl rfl rfl (r_field0 rfl (ev_t rfl) fld_39_1) ?_ | refine WL.val rfl rfl rfl rfl (r_fieldAt rfl (ev_t rfl) fld_39_1) ?_
                refine WL.val rfl rfl rfl rfl (r_loadAgg (vs := [_, _, _]) rfl (ev_t rfl) agg_28 size_28 (pair_cells2 hrt hxi rfl)) ?_
                refine WL.cons (SO.call (small_ok 4 _ _ _ _ _ tb htb (by omega)) rfl body_14 ⟨(ev_t rfl), ev_c, trivial⟩ rfl rfl rfl rfl ?_)
                rintro v w7 ⟨rfl, hu7⟩
                have hs7 := hu7.size
                replace hU := hU.trans hu7 (by exact (fun _ _ h => h))
                replace hrt := hrt.upd hu7 (fun k hk hl hS => by exact (show False from hS).elim)
                replace htt := htt.upd hu7 (fun k hk hl hS => by exact (show False from hS).elim)
                replace hol := hol.upd hu7 (fun k hk hl hS => by exact (show False from hS).elim)
                replace hys := hys.upd hu7 (fun k hk hl hS => by exact (show False from hS).elim)
                replace hI := hI.upd hu7 (fun k hk hl hS => by exact (show False from hS).elim)
                replace hR := hR.upd hu7 (fun k hk hl hS => by exact (show False from hS).elim)
                replace hta := hta.upd hu7 (fun k hk hl hS => by exact (show False from hS).elim)
                replace htb := htb.upd hu7 (fun k hk hl hS => by exact (show False from hS).elim)
                refine WL.val rfl rfl rfl rfl (r_not rfl (ev_t rfl)) ?_
                refine WL.val rfl rfl rfl rfl (r_pickF rfl (ev_t rfl) (ev_t rfl)) ?_
                refine WL.nil ?_
                refine WX.keep [(0, _), (3, _), (4, _), (5, _), (6, _), (7, _), (45, _)] ⟨rfl, rfl, rfl, rfl, rfl, rfl, rfl, trivial⟩ ?_
                refine WX.next ?_
                refine WC.cond rfl (ev_t rfl) (fun hc9 => ?_) (fun hc9 => ?_)
                · try (exfalso; first | (simp at hc9; done) | (simp only [decide_eq_true_eq, decide_eq_false_iff_not, Bool.not_eq_true', Bool.not_eq_false', Bool.not_eq_true, Bool.not_eq_false] at hc9; omega) | omega)
                  all_goals
                   try simp only [decide_eq_true_eq, decide_eq_false_iff_not, Bool.not_eq_true', Bool.not_eq_false', Bool.not_eq_true, Bool.not_eq_false, Option.isNone_none, Option.isNone_some, Option.isSome_none, Option.isSome_some, ne_eq, Decidable.not_not] at hc9
                   refine WC.seq ?_
                   refine WC.region ?_
                   refine WL.val rfl rfl rfl rfl (r_assign rfl ev_c) ?_
                   refine WL.nil ?_
                   refine WX.keep [(2, _)] ⟨rfl, trivial⟩ ?_
                   refine WX.next ?_
                   refine WC.ret ?_
                   refine WX.thenRet ?_
                   refine WX.blockRet ?_
                   refine WX.thenRet ?_
                   refine WX.thenRet ?_
                   refine WX.blockRet ?_
                   refine WX.thenRet ?_
                   refine WX.retE1 rfl rfl ?_
                   exact ⟨rfl, hU⟩
                · try (exfalso; first | (simp at hc9; done) | (simp only [decide_eq_true_eq, decide_eq_false_iff_not, Bool.not_eq_true', Bool.not_eq_false', Bool.not_eq_true, Bool.not_eq_false] at hc9; omega) | omega)
                  all_goals
                   try simp only [decide_eq_true_eq, decide_eq_false_iff_not, Bool.not_eq_true', Bool.not_eq_false', Bool.not_eq_true, Bool.not_eq_false, Option.isNone_none, Option.isNone_some, Option.isSome_none, Option.isSome_some, ne_eq, Decidable.not_not] at hc9
                   have hsa : smallR 4 ta = true := by simp_all
                   have hsb : smallR 4 tb = true := by simp_all
                   have hxa := clean_tv hsa hta
                   have hxb := clean_tv hsb htb
                   have hva := clean_vars hsa
                   have hvb := clean_vars hsb
                   refine WC.skip ?_
                   refine WX.next ?_
                   refine WC.seq ?_
                   refine WC.region ?_
                   refine WL.val rfl rfl rfl rfl (r_move rfl (ev_t rfl)) ?_
                   refine WL.val rfl rfl rfl rfl (r_move rfl (ev_t rfl)) ?_
                   refine WL.val rfl rfl rfl rfl (r_indexAddr rfl (ev_t rfl) (ev_t rfl) elem_37 size_39 (by omega) (by omega)) ?_
                   first | refine WL.val rfl rfl rfl rfl (r_field0 rfl (ev_t rfl) fld_39_0) ?_ | refine WL.val rfl rfl rfl rfl (r_fieldAt rfl (ev_t rfl) fld_39_0) ?_
                   refine WL.val rfl rfl rfl rfl (r_loadAgg (vs := [_, _, _]) rfl (ev_t rfl) agg_28 size_28 (pair_cells hrt hxi rfl)) ?_
                   refine WL.cons (SO.call (apart_ok (by_ := 1) (by omega) _ _ _ _ _ _ _ (Nat.le_refl _) hxa (fun x hx => by have := hva x hx; omega)) rfl body_15 ⟨(ev_t rfl), ev_c, trivial⟩ rfl rfl rfl rfl ?_)
                   rintro v w8 ⟨c1, c2, c3', rfl, hx, hu8⟩
                   obtain ⟨mx, Ax, kx, xkx, rfl, rfl, rfl, _⟩ := hx.open
                   have hs8 := hu8.size
                   replace hU := hU.trans hu8 (by exact (fun _ _ h => h))
                   replace hrt := hrt.upd hu8 (fun k hk hl hS => by exact (show False from hS).elim)
                   replace htt := htt.upd hu8 (fun k hk hl hS => by exact (show False from hS).elim)
                   replace hol := hol.upd hu8 (fun k hk hl hS => by exact (show False from hS).elim)
                   replace hys := hys.upd hu8 (fun k hk hl hS => by exact (show False from hS).elim)
                   replace hI := hI.upd hu8 (fun k hk hl hS => by exact (show False from hS).elim)
                   replace hR := hR.upd hu8 (fun k hk hl hS => by exact (show False from hS).elim)
                   replace hxa := hxa.upd hu8 (fun k hk hl hS => by exact (show False from hS).elim)
                   replace hxb := hxb.upd hu8 (fun k hk hl hS => by exact (show False from hS).elim)
                   obtain ⟨X, hX⟩ : ∃ X, ext (apS 1) (cleanR 4 ta) = X := ⟨_, rfl⟩
                   have hvX : ∀ y ∈ vars X, y ∈ upto 20 := fun y hy => by rw [← hX] at hy; have := ap8 hva y hy; rw [mem_upto]; omega
                   rw [hX] at hx ⊢
                   replace hx := hx.mono (F' := fun k => wA.heap.size ≤ k ∧ k < w8.heap.size) (fun k hk => by simp only [New] at hk; omega)
                   refine WL.cons (SO.alloc rfl rfl rfl rfl (r_alloc rfl zero_28) ?_)
                   intro w9 hu9 hB9 hz9
                   have hs9 := hu9.size
                   replace hU := hU.trans hu9 (by exact (fun _ _ h => h))
                   replace hrt := hrt.upd hu9 (fun k hk hl hS => by exact (show False from hS).elim)
                   replace htt := htt.upd hu9 (fun k hk hl hS => by exact (show False from hS).elim)
                   replace hol := hol.upd hu9 (fun k hk hl hS => by exact (show False from hS).elim)
                   replace hys := hys.upd hu9 (fun k hk hl hS => by exact (show False from hS).elim)
                   replace hI := hI.upd hu9 (fun k hk hl hS => by exact (show False from hS).elim)
                   replace hR := hR.upd hu9 (fun k hk hl hS => by exact (show False from hS).elim)
                   replace hxb := hxb.upd hu9 (fun k hk hl hS => by exact (show False from hS).elim)
                   replace hx := hx.upd hu9 (fun k hk hl hS => by exact (show False from hS).elim)
                   refine WL.cons (SO.storeAll (us := [_, _, _]) rfl (ev_t rfl) (ev_t rfl) size_28 hB9 rfl rfl rfl rfl rfl ?_)
                   intro w10 hu10 hB9 hz10
                   have hs10 := hu10.size
                   replace hU := hU.trans hu10 (by (intro k hl hk; (try simp only [At, New, Grow, From, No] at hk ⊢); omega))
                   replace hrt := hrt.upd hu10 (fun k hk hl hS => by (simp only [At, New] at hk hS; omega))
                   replace htt := htt.upd hu10 (fun k hk hl hS => by (simp only [At, New] at hk hS; omega))
                   replace hol := hol.upd hu10 (fun k hk hl hS => by (simp only [At] at hS; have := hGx k hk; omega))
                   replace hys := hys.upd hu10 (fun k hk hl hS => by (simp only [At] at hS; have := hT k hk; omega))
                   replace hI := hI.upd hu10 (fun k hk hl hS => by (simp only [At] at hS; subst hS; rcases hk with hk | hk <;> first | exact hk.elim | (have := hMut _ hk; omega) | (have := hT _ hk; omega) | (have := hT2 _ hk; omega)))
                   replace hR := hR.upd hu10 (fun k hk hl hS => by (simp only [At] at hS; subst hS; rcases hk with hk | hk <;> first | exact hk.elim | (have := hGR _ hk; omega) | (have := hT _ hk; omega) | (have := hT2 _ hk; omega)))
                   replace hxb := hxb.upd hu10 (fun k hk hl hS => by (simp only [At, New] at hk hS; omega))
                   replace hx := hx.upd hu10 (fun k hk hl hS => by (simp only [At] at hS; omega))
                   refine WL.nil ?_
                   refine WX.keep [(0, _), (3, _), (4, _), (5, _), (6, _), (7, _), (8, _)] ⟨rfl, rfl, rfl, rfl, rfl, rfl, rfl, trivial⟩ ?_
                   refine WX.next ?_
                   refine WC.seq ?_
                   refine WC.region ?_
                   have hb10 := hB9
                   refine WL.val rfl rfl rfl rfl (r_move rfl (ev_t rfl)) ?_
                   refine WL.val rfl rfl rfl rfl (r_move rfl (ev_t rfl)) ?_
                   refine WL.val rfl rfl rfl rfl (r_indexAddr rfl (ev_t rfl) (ev_t rfl) elem_37 size_39 (by omega) (by omega)) ?_
                   first | refine WL.val rfl rfl rfl rfl (r_field0 rfl (ev_t rfl) fld_39_1) ?_ | refine WL.val rfl rfl rfl rfl (r_fieldAt rfl (ev_t rfl) fld_39_1) ?_
                   refine WL.val rfl rfl rfl rfl (r_loadAgg (vs := [_, _, _]) rfl (ev_t rfl) agg_28 size_28 (pair_cells2 hrt hxi rfl)) ?_
                   refine WL.cons (SO.call (apart_ok (by_ := 1) (by omega) _ _ _ _ _ _ _ (Nat.le_refl _) hxb (fun x hx => by have := hvb x hx; omega)) rfl body_15 ⟨(ev_t rfl), ev_c, trivial⟩ rfl rfl rfl rfl ?_)
                   rintro v w11 ⟨c4, c5, c6', rfl, hy, hu11⟩
                   obtain ⟨my, Ay, ky, xky, rfl, rfl, rfl, _⟩ := hy.open
                   have hs11 := hu11.size
                   replace hU := hU.trans hu11 (by exact (fun _ _ h => h))
                   replace hrt := hrt.upd hu11 (fun k hk hl hS => by exact (show False from hS).elim)
                   replace htt := htt.upd hu11 (fun k hk hl hS => by exact (show False from hS).elim)
                   replace hol := hol.upd hu11 (fun k hk hl hS => by exact (show False from hS).elim)
                   replace hys := hys.upd hu11 (fun k hk hl hS => by exact (show False from hS).elim)
                   replace hI := hI.upd hu11 (fun k hk hl hS => by exact (show False from hS).elim)
                   replace hR := hR.upd hu11 (fun k hk hl hS => by exact (show False from hS).elim)
                   replace hxb := hxb.upd hu11 (fun k hk hl hS => by exact (show False from hS).elim)
                   replace hx := hx.upd hu11 (fun k hk hl hS => by exact (show False from hS).elim)
                   replace hb10 := hb10.upd hu11 (by exact (fun h => h))
                   obtain ⟨Y, hY⟩ : ∃ Y, ext (apS 1) (cleanR 4 tb) = Y := ⟨_, rfl⟩
                   have hvY : ∀ y ∈ vars Y, y ∈ upto 20 := fun y hy => by rw [← hY] at hy; have := ap8 hvb y hy; rw [mem_upto]; omega
                   rw [hY] at hy ⊢
                   replace hy := hy.mono (F' := fun k => wA.heap.size ≤ k ∧ k < w11.heap.size) (fun k hk => by simp only [New] at hk; omega)
                   refine WL.cons (SO.alloc rfl rfl rfl rfl (r_alloc rfl zero_28) ?_)
                   intro w12 hu12 hB12 hz12
                   have hs12 := hu12.size
                   replace hU := hU.trans hu12 (by exact (fun _ _ h => h))
                   replace hrt := hrt.upd hu12 (fun k hk hl hS => by exact (show False from hS).elim)
                   replace htt := htt.upd hu12 (fun k hk hl hS => by exact (show False from hS).elim)
                   replace hol := hol.upd hu12 (fun k hk hl hS => by exact (show False from hS).elim)
                   replace hys := hys.upd hu12 (fun k hk hl hS => by exact (show False from hS).elim)
                   replace hI := hI.upd hu12 (fun k hk hl hS => by exact (show False from hS).elim)
                   replace hR := hR.upd hu12 (fun k hk hl hS => by exact (show False from hS).elim)
                   replace hx := hx.upd hu12 (fun k hk hl hS => by exact (show False from hS).elim)
                   replace hb10 := hb10.upd hu12 (by exact (fun h => h))
                   replace hy := hy.upd hu12 (fun k hk hl hS => by exact (show False from hS).elim)
                   refine WL.cons (SO.storeAll (us := [_, _, _]) rfl (ev_t rfl) (ev_t rfl) size_28 hB12 rfl rfl rfl rfl rfl ?_)
                   intro w13 hu13 hB12 hz13
                   have hs13 := hu13.size
                   replace hU := hU.trans hu13 (by (intro k hl hk; (try simp only [At, New, Grow, From, No] at hk ⊢); omega))
                   replace hrt := hrt.upd hu13 (fun k hk hl hS => by (simp only [At, New] at hk hS; omega))
                   replace htt := htt.upd hu13 (fun k hk hl hS => by (simp only [At, New] at hk hS; omega))
                   replace hol := hol.upd hu13 (fun k hk hl hS => by (simp only [At] at hS; have := hGx k hk; omega))
                   replace hys := hys.upd hu13 (fun k hk hl hS => by (simp only [At] at hS; have := hT k hk; omega))
                   replace hI := hI.upd hu13 (fun k hk hl hS => by (simp only [At] at hS; subst hS; rcases hk with hk | hk <;> first | exact hk.elim | (have := hMut _ hk; omega) | (have := hT _ hk; omega) | (have := hT2 _ hk; omega)))
                   replace hR := hR.upd hu13 (fun k hk hl hS => by (simp only [At] at hS; subst hS; rcases hk with hk | hk <;> first | exact hk.elim | (have := hGR _ hk; omega) | (have := hT _ hk; omega) | (have := hT2 _ hk; omega)))
                   replace hx := hx.upd hu13 (fun k hk hl hS => by (simp only [At] at hS; omega))
                   replace hb10 := hb10.upd hu13 (by (simp only [At]; omega))
                   replace hy := hy.upd hu13 (fun k hk hl hS => by (simp only [At] at hS; omega))
                   refine WL.nil ?_
                   refine WX.keep [(0, _), (3, _), (4, _), (5, _), (6, _), (7, _), (8, _), (9, _)] ⟨rfl, rfl, rfl, rfl, rfl, rfl, rfl, rfl, trivial⟩ ?_
                   have hb11 := hB12
                   obtain ⟨SZ, hSZ⟩ : ∃ SZ, SZ = w13.heap.size := ⟨_, rfl⟩
                   obtain ⟨b10, hb10e⟩ : ∃ b, b = w8.heap.size := ⟨_, rfl⟩
                   obtain ⟨b11, hb11e⟩ : ∃ b, b = w11.heap.size := ⟨_, rfl⟩
                   rw [← hb10e] at hb10 ⊢
                   rw [← hb11e] at hb11 ⊢
                   have hl10 := hb10.lt
                   have hl11 := hb11.lt
                   obtain ⟨T2, hTT, hNT, hT2⟩ : ∃ T2 : Nat → Prop, (∀ k, T k → T2 k) ∧ (∀ k, wA.heap.size ≤ k ∧ k < SZ → T2 k) ∧ (∀ k, T2 k → B1 ≤ k ∧ k < SZ ∧ ¬ Gx k ∧ ¬ GR k) := ⟨fun k => T k ∨ (wA.heap.size ≤ k ∧ k < SZ), fun k h => .inl h, fun k h => .inr h, fun k hk => (by rcases hk with hk | hk; have := hT k hk; exact ⟨this.1, by omega, this.2.2⟩; exact ⟨by omega, hk.2, fun h => (by have := hGx k h; omega), fun h => (by have := hGR k h; omega)⟩)⟩
                   replace hx := hx.mono (F' := T2) (fun k hk => hNT k (by omega))
                   replace hy := hy.mono (F' := T2) (fun k hk => hNT k (by omega))
                   replace hys := hys.mono (F' := T2) hTT
                   have hI2 := hI.mono (F' := T2) hTT
                   have hR2 := hR.mono (F' := T2) hTT (fun k hk => (hT2 k hk).2.2.2)
                   have hgood := hrun.facts.1
                   obtain ⟨r2, σ2, D2, N, hun, hrun2⟩ := hrun.snoc (by decide) hvX hvY
                   have hdu2 := unF_DU hun hdu hvX hvY
                   have hls2 := hrun2.facts.1.len
                   have hld2 := hdu2.len
                   rw [upto_len] at hls2 hld2
                   refine WX.next ?_
                   refine WC.seq ?_
                   refine WC.seq ?_
                   refine WC.draws' (fun u0_ u1_ => Upd No u0_ u1_) (fun j => [0, 0, 1, 0, 0, 2, 0, 0].getD j 0) (.calm 0 (.calm 3 (.held 1 (.held 4 (.one 2 (.one 5 (.calm 6 (.calm 7 (.done))))))))) mixed (by kernel_rfl) (by repeat (first | with_reducible exact Deaf.body | with_reducible apply Deaf.then | with_reducible apply Deaf.block)) ?_
                   intro w14 hu14
                   have hz14 := congrArg Array.size hu14.2.2.2
                   replace hu14 := Upd.of_draw hu14
                   have hs14 := hu14.size
                   replace hU := hU.trans hu14 (by exact (fun _ _ h => h))
                   replace hrt := hrt.upd hu14 (fun k hk hl hS => by exact (show False from hS).elim)
                   replace htt := htt.upd hu14 (fun k hk hl hS => by exact (show False from hS).elim)
                   replace hol := hol.upd hu14 (fun k hk hl hS => by exact (show False from hS).elim)
                   replace hys := hys.upd hu14 (fun k hk hl hS => by exact (show False from hS).elim)
                   replace hx := hx.upd hu14 (fun k hk hl hS => by exact (show False from hS).elim)
                   replace hb10 := hb10.upd hu14 (by exact (fun h => h))
                   replace hy := hy.upd hu14 (fun k hk hl hS => by exact (show False from hS).elim)
                   replace hb11 := hb11.upd hu14 (by exact (fun h => h))
                   replace hI2 := hI2.upd hu14 (fun k hk hl hS => by exact (show False from hS).elim)
                   replace hR2 := hR2.upd hu14 (fun k hk hl hS => by rcases hk with hk | hk <;> exact (show False from hS).elim)
                   have hS13 := Upd.refl No w14
                   have hz10 := hb10
                   have hz11 := hb11
                   refine WN.calm _ rfl rfl rfl rfl rfl (fun _ => r_move rfl (ev_t rfl)) ?_
                   refine WN.calm _ rfl rfl rfl rfl rfl (fun _ => r_move rfl (ev_t rfl)) ?_
                   first | refine WN.held _ rfl rfl rfl rfl rfl hS13 (fun w' hS => r_loadAgg (vs := [_, _, _]) rfl (ev_t rfl) agg_28 size_28 (Blk.cellsL (hz10.upd hS (fun h => h)))) ?_ | refine WN.held _ rfl rfl rfl rfl rfl hS13 (fun w' hS => r_loadAgg (vs := [_, _, _]) rfl (ev_t rfl) agg_28 size_28 (Blk.cellsL hb10)) ?_
                   first | refine WN.held _ rfl rfl rfl rfl rfl hS13 (fun w' hS => r_loadAgg (vs := [_, _, _]) rfl (ev_t rfl) agg_28 size_28 (Blk.cellsL (hz11.upd hS (fun h => h)))) ?_ | refine WN.held _ rfl rfl rfl rfl rfl hS13 (fun w' hS => r_loadAgg (vs := [_, _, _]) rfl (ev_t rfl) agg_28 size_28 (Blk.cellsL hb11)) ?_
                   refine WN.step _ rfl (SO.call (tsize_ok hgood.wf _ _ _ _ _ _ X 300 (Nat.le_refl _) hI2 hx (by omega) (by omega)) rfl body_19 ⟨(ev_t rfl), (ev_t rfl), ev_c, trivial⟩ rfl rfl rfl rfl ?_)
                   rintro v w15 ⟨rfl, hu15⟩
                   have hs15 := hu15.size
                   replace hS13 := Upd.transA hS13 hu15
                   replace hU := hU.trans hu15 (by exact (fun _ _ h => h))
                   replace hrt := hrt.upd hu15 (fun k hk hl hS => by exact (show False from hS).elim)
                   replace htt := htt.upd hu15 (fun k hk hl hS => by exact (show False from hS).elim)
                   replace hol := hol.upd hu15 (fun k hk hl hS => by exact (show False from hS).elim)
                   replace hys := hys.upd hu15 (fun k hk hl hS => by exact (show False from hS).elim)
                   replace hx := hx.upd hu15 (fun k hk hl hS => by exact (show False from hS).elim)
                   replace hb10 := hb10.upd hu15 (by exact (fun h => h))
                   replace hy := hy.upd hu15 (fun k hk hl hS => by exact (show False from hS).elim)
                   replace hb11 := hb11.upd hu15 (by exact (fun h => h))
                   replace hI2 := hI2.upd hu15 (fun k hk hl hS => by exact (show False from hS).elim)
                   replace hR2 := hR2.upd hu15 (fun k hk hl hS => by rcases hk with hk | hk <;> exact (show False from hS).elim)
                   refine ⟨hS13, ?_⟩
                   refine WN.step _ rfl (SO.call (tsize_ok hgood.wf _ _ _ _ _ _ Y 300 (Nat.le_refl _) hI2 hy (by omega) (by omega)) rfl body_19 ⟨(ev_t rfl), (ev_t rfl), ev_c, trivial⟩ rfl rfl rfl rfl ?_)
                   rintro v w16 ⟨rfl, hu16⟩
                   have hs16 := hu16.size
                   try replace hS13 := Upd.transA hS13 hu16
                   replace hU := hU.trans hu16 (by exact (fun _ _ h => h))
                   replace hrt := hrt.upd hu16 (fun k hk hl hS => by exact (show False from hS).elim)
                   replace htt := htt.upd hu16 (fun k hk hl hS => by exact (show False from hS).elim)
                   replace hol := hol.upd hu16 (fun k hk hl hS => by exact (show False from hS).elim)
                   replace hys := hys.upd hu16 (fun k hk hl hS => by exact (show False from hS).elim)
                   replace hx := hx.upd hu16 (fun k hk hl hS => by exact (show False from hS).elim)
                   replace hb10 := hb10.upd hu16 (by exact (fun h => h))
                   replace hy := hy.upd hu16 (fun k hk hl hS => by exact (show False from hS).elim)
                   replace hb11 := hb11.upd hu16 (by exact (fun h => h))
                   replace hI2 := hI2.upd hu16 (fun k hk hl hS => by exact (show False from hS).elim)
                   replace hR2 := hR2.upd hu16 (fun k hk hl hS => by rcases hk with hk | hk <;> exact (show False from hS).elim)
                   refine ⟨trivial, ?_⟩
                   first | refine WN.calm _ rfl rfl rfl rfl rfl (fun _ => r_addN rfl (ev_t rfl) (ev_t rfl) (by simp only [inK]; omega)) ?_ | refine WN.calm _ rfl rfl rfl rfl rfl (fun _ => r_add rfl (ev_t rfl) (ev_t rfl)) ?_
                   refine WN.calm _ rfl rfl rfl rfl rfl (fun _ => r_gtr rfl (ev_t rfl) ev_c) ?_
                   refine WN.done ?_
                   refine WX.keep [(0, _), (3, _), (4, _), (5, _), (6, _), (7, _), (8, _), (9, _), (65, _)] ⟨rfl, rfl, rfl, rfl, rfl, rfl, rfl, rfl, rfl, trivial⟩ ?_
                   refine WX.next ?_
                   refine WC.cond rfl (ev_t rfl) (fun hc13 => ?_) (fun hc13 => ?_)
                   · try (exfalso; first | (simp at hc13; done) | (simp only [decide_eq_true_eq, decide_eq_false_iff_not, Bool.not_eq_true', Bool.not_eq_false', Bool.not_eq_true, Bool.not_eq_false] at hc13; omega) | omega)
                     all_goals
                      try simp only [decide_eq_true_eq, decide_eq_false_iff_not, Bool.not_eq_true', Bool.not_eq_false', Bool.not_eq_true, Bool.not_eq_false, Option.isNone_none, Option.isNone_some, Option.isSome_none, Option.isSome_some, ne_eq, Decidable.not_not] at hc13
                      refine WC.seq ?_
                      refine WC.region ?_
                      refine WL.val rfl rfl rfl rfl (r_assign rfl ev_c) ?_
                      refine WL.nil ?_
                      refine WX.keep [(2, _)] ⟨rfl, trivial⟩ ?_
                      refine WX.next ?_
                      refine WC.ret ?_
                      refine WX.thenRet ?_
                      refine WX.blockRet ?_
                      refine WX.thenRet ?_
                      refine WX.thenRet ?_
                      refine WX.blockRet ?_
                      refine WX.thenRet ?_
                      refine WX.retE1 rfl rfl ?_
                      exact ⟨rfl, hU⟩
                   · try (exfalso; first | (simp at hc13; done) | (simp only [decide_eq_true_eq, decide_eq_false_iff_not, Bool.not_eq_true', Bool.not_eq_false', Bool.not_eq_true, Bool.not_eq_false] at hc13; omega) | omega)
                     all_goals
                      try simp only [decide_eq_true_eq, decide_eq_false_iff_not, Bool.not_eq_true', Bool.not_eq_false', Bool.not_eq_true, Bool.not_eq_false, Option.isNone_none, Option.isNone_some, Option.isSome_none, Option.isSome_some, ne_eq, Decidable.not_not] at hc13
                      refine WC.skip ?_
                      refine WX.next ?_
                      refine WC.seq ?_
                      refine WC.region ?_
                      refine WL.val rfl rfl rfl rfl (r_move rfl (ev_t rfl)) ?_
                      refine WL.val rfl rfl rfl rfl (r_loadAgg (vs := [_, _, _]) rfl (ev_t rfl) agg_28 size_28 (Blk.cellsL hb10)) ?_
                      refine WL.val rfl rfl rfl rfl (r_loadAgg (vs := [_, _, _]) rfl (ev_t rfl) agg_28 size_28 (Blk.cellsL hb11)) ?_
                      refine WL.cons (SO.call (unify_ok (fun k hk hM => by have := hMut k hM; have := hT2 k hk; omega) N _ _ _ _ _ _ _ _ _ _ _ _ r2 σ2 D2 hun (fun k hk => by have := hT2 k hk; omega) hI2 hx hy) rfl body_12 ⟨(ev_t rfl), (ev_t rfl), (ev_t rfl), trivial⟩ rfl rfl rfl rfl ?_)
                      rintro v w17 ⟨rfl, ⟨xs2, hI9⟩, hu17⟩
                      have hs17 := hu17.size
                      replace hU := hU.trans hu17 (by (intro k hl hk; first | (have := hMut k hk; omega) | (have := hGR k hk; omega) | (have := hGx k hk; omega) | (have := hGx2 k hk; omega) | (have := hGy k hk; omega)))
                      replace hrt := hrt.upd hu17 (fun k hk hl hS => by (have := hMut k hS; omega))
                      replace htt := htt.upd hu17 (fun k hk hl hS => by (have := hMut k hS; omega))
                      replace hol := hol.upd hu17 (fun k hk hl hS => by (have := hGx k hk; have := hMut k hS; omega))
                      replace hys := hys.upd hu17 (fun k hk hl hS => by (have := hT2 k hk; have := hMut k hS; omega))
                      replace hx := hx.upd hu17 (fun k hk hl hS => by (have := hT2 k hk; have := hMut k hS; omega))
                      replace hb10 := hb10.upd hu17 (by (intro hS; have := hMut _ hS; omega))
                      replace hy := hy.upd hu17 (fun k hk hl hS => by (have := hT2 k hk; have := hMut k hS; omega))
                      replace hb11 := hb11.upd hu17 (by (intro hS; have := hMut _ hS; omega))
                      replace hR2 := hR2.upd hu17 (fun k hk hl hS => by rcases hk with hk | hk <;> first | (have := hT2 _ hk; have := hMut _ hS; omega) | (have := hGR _ hk; have := hMut _ hS; omega))
                      have hI2 := hI9
                      refine WL.val rfl rfl rfl rfl (r_assign rfl (ev_t rfl)) ?_
                      refine WL.nil ?_
                      refine WX.keep [(0, _), (3, _), (4, _), (5, _), (6, _), (7, _), (8, _), (9, _), (10, _)] ⟨rfl, rfl, rfl, rfl, rfl, rfl, rfl, rfl, rfl, trivial⟩ ?_
                      refine WX.next ?_
                      refine WC.seq ?_
                      refine WC.seq ?_
                      refine WC.region ?_
                      refine WL.val rfl rfl rfl rfl (r_move rfl (ev_t rfl)) ?_
                      refine WL.val rfl rfl rfl rfl (r_move rfl (ev_t rfl)) ?_
                      refine WL.val rfl rfl rfl rfl (r_loadAgg (vs := [_, _, _]) rfl (ev_t rfl) agg_28 size_28 (Blk.cellsL hb10)) ?_
                      refine WL.val rfl rfl rfl rfl (r_loadAgg (vs := [_, _, _]) rfl (ev_t rfl) agg_28 size_28 (Blk.cellsL hb11)) ?_
                      refine WL.cons (SO.call (runify_ok N _ GR _ _ _ _ _ _ _ _ _ _ r2 σ2 D2 hun (by omega) (by omega) (fun k hk => by have := hT2 k hk; omega) hR2 hx hy) rfl body_23 ⟨(ev_t rfl), (ev_t rfl), (ev_t rfl), trivial⟩ rfl rfl rfl rfl ?_)
                      rintro v w18 ⟨rfl, ⟨GR2, hR9, hGR9⟩, hu18⟩
                      have hs18 := hu18.size
                      replace hU := hU.trans hu18 (by (intro k hl hk; first | (have := hMut k hk; omega) | (have := hGR k hk; omega) | (have := hGx k hk; omega) | (have := hGx2 k hk; omega) | (have := hGy k hk; omega)))
                      replace hrt := hrt.upd hu18 (fun k hk hl hS => by (have := hGR k hS; omega))
                      replace htt := htt.upd hu18 (fun k hk hl hS => by (have := hGR k hS; omega))
                      replace hol := hol.upd hu18 (fun k hk hl hS => by exact (hGR k hS).2.2 hk)
                      replace hys := hys.upd hu18 (fun k hk hl hS => by exact (hT2 k hk).2.2.2 hS)
                      replace hx := hx.upd hu18 (fun k hk hl hS => by exact (hT2 k hk).2.2.2 hS)
                      replace hb10 := hb10.upd hu18 (by (intro hS; have := hGR _ hS; omega))
                      replace hy := hy.upd hu18 (fun k hk hl hS => by exact (hT2 k hk).2.2.2 hS)
                      replace hb11 := hb11.upd hu18 (by (intro hS; have := hGR _ hS; omega))
                      replace hI2 := hI2.upd hu18 (fun k hk hl hS => by (rcases hk with hk | hk <;> first | exact hk.elim | (have := hMut _ hk; have := hGx _ hS; omega) | (have := hMut _ hk; have := hGR _ hS; omega) | exact (hT _ hk).2.2.1 hS | exact (hT2 _ hk).2.2.1 hS | exact (hT _ hk).2.2.2 hS | exact (hT2 _ hk).2.2.2 hS))
                      have hR2 := hR9
                      have hGR2 : ∀ k, GR2 k → BM ≤ k ∧ k < w18.heap.size ∧ ¬ Gx k ∧ ¬ T2 k := fun k hk => by
                        have h2 := hR9.lt k hk
                        have h4 := hR9.f
                        rcases hGR9 k hk with h | h
                        · have := hGR k h
                          exact ⟨by omega, h2, this.2.2, fun ht => h4 k ht hk⟩
                        · exact ⟨by omega, h2, fun hg => by have := hGx k hg; omega, fun ht => h4 k ht hk⟩
                      refine WL.val rfl rfl rfl rfl (r_neqBool rfl (ev_t rfl) (ev_t rfl) bool_4) ?_
                      refine WL.nil ?_
                      refine WX.keep [(0, _), (3, _), (4, _), (5, _), (6, _), (7, _), (8, _), (9, _), (10, _), (75, _)] ⟨rfl, rfl, rfl, rfl, rfl, rfl, rfl, rfl, rfl, rfl, trivial⟩ ?_
                      refine WX.next ?_
                      refine WC.cond rfl (ev_t rfl) (fun hc16 => ?_) (fun hc16 => ?_)
                      · try simp only [decide_eq_true_eq, decide_eq_false_iff_not, Bool.not_eq_true', Bool.not_eq_false', Bool.not_eq_true, Bool.not_eq_false, Option.isNone_none, Option.isNone_some, Option.isSome_none, Option.isSome_some, ne_eq, Decidable.not_not] at hc16
                        exfalso
                        simp at hc16
                      · try (exfalso; first | (simp at hc16; done) | (simp only [decide_eq_true_eq, decide_eq_false_iff_not, Bool.not_eq_true', Bool.not_eq_false', Bool.not_eq_true, Bool.not_eq_false] at hc16; omega) | omega)
                        all_goals
                         try simp only [decide_eq_true_eq, decide_eq_false_iff_not, Bool.not_eq_true', Bool.not_eq_false', Bool.not_eq_true, Bool.not_eq_false, Option.isNone_none, Option.isNone_some, Option.isSome_none, Option.isSome_some, ne_eq, Decidable.not_not] at hc16
                         refine WC.skip ?_
                         refine WX.next ?_
                         refine WC.seq ?_
                         refine WC.seq ?_
                         refine WC.region ?_
                         refine WL.val rfl rfl rfl rfl (r_move rfl (ev_t rfl)) ?_
                         refine WL.val rfl rfl rfl rfl (r_not rfl (ev_t rfl)) ?_
                         refine WL.nil ?_
                         refine WX.keep [(0, _), (3, _), (4, _), (5, _), (6, _), (7, _), (8, _), (9, _), (77, _)] ⟨rfl, rfl, rfl, rfl, rfl, rfl, rfl, rfl, rfl, trivial⟩ ?_
                         refine WX.next ?_
                         refine WC.cond rfl (ev_t rfl) (fun hc18 => ?_) (fun hc18 => ?_)
                         · try (exfalso; first | (simp at hc18; done) | (simp only [decide_eq_true_eq, decide_eq_false_iff_not, Bool.not_eq_true', Bool.not_eq_false', Bool.not_eq_true, Bool.not_eq_false] at hc18; omega) | omega)
                           all_goals
                            try simp only [decide_eq_true_eq, decide_eq_false_iff_not, Bool.not_eq_true', Bool.not_eq_false', Bool.not_eq_true, Bool.not_eq_false, Option.isNone_none, Option.isNone_some, Option.isSome_none, Option.isSome_some, ne_eq, Decidable.not_not] at hc18
                            refine WC.seq ?_
                            refine WC.region ?_
                            refine WL.val rfl rfl rfl rfl (r_assign rfl ev_c) ?_
                            refine WL.nil ?_
                            refine WX.keep [(2, _)] ⟨rfl, trivial⟩ ?_
                            refine WX.next ?_
                            refine WC.ret ?_
                            refine WX.thenRet ?_
                            refine WX.blockRet ?_
                            refine WX.thenRet ?_
                            refine WX.thenRet ?_
                            refine WX.blockRet ?_
                            refine WX.thenRet ?_
                            refine WX.retE1 rfl rfl ?_
                            exact ⟨rfl, hU⟩
                         · try (exfalso; first | (simp at hc18; done) | (simp only [decide_eq_true_eq, decide_eq_false_iff_not, Bool.not_eq_true', Bool.not_eq_false', Bool.not_eq_true, Bool.not_eq_false] at hc18; omega) | omega)
                           all_goals
                            try simp only [decide_eq_true_eq, decide_eq_false_iff_not, Bool.not_eq_true', Bool.not_eq_false', Bool.not_eq_true, Bool.not_eq_false, Option.isNone_none, Option.isNone_some, Option.isSome_none, Option.isSome_some, ne_eq, Decidable.not_not] at hc18
                            obtain rfl : r2 = true := by simpa using hc18
                            refine WC.skip ?_
                            refine WX.next ?_
                            refine WC.region ?_
                            refine WL.val rfl rfl rfl rfl (r_move rfl (ev_t rfl)) ?_
                            refine WL.val rfl rfl rfl rfl (r_loadAgg (vs := [_, _, _]) rfl (ev_t rfl) agg_28 size_28 (Blk.cellsL hb10)) ?_
                            refine WL.val rfl rfl rfl rfl (r_loadAgg (vs := [_, _, _]) rfl (ev_t rfl) agg_28 size_28 (Blk.cellsL hb11)) ?_
                            refine WL.cons (SO.alloc rfl rfl rfl rfl (r_buildSlice (cs := #[_, _, _, _, _, _]) (vs := [(0, _), (1, _)]) rfl ⟨⟨rfl, (ev_t rfl)⟩, ⟨rfl, (ev_t rfl)⟩, trivial⟩ row_26 rfl rfl) ?_)
                            intro w19 hu19 hB19 hz19
                            have hs19 := hu19.size
                            replace hU := hU.trans hu19 (by exact (fun _ _ h => h))
                            replace hrt := hrt.upd hu19 (fun k hk hl hS => by exact (show False from hS).elim)
                            replace htt := htt.upd hu19 (fun k hk hl hS => by exact (show False from hS).elim)
                            replace hol := hol.upd hu19 (fun k hk hl hS => by exact (show False from hS).elim)
                            replace hys := hys.upd hu19 (fun k hk hl hS => by exact (show False from hS).elim)
                            replace hx := hx.upd hu19 (fun k hk hl hS => by exact (show False from hS).elim)
                            replace hb10 := hb10.upd hu19 (by exact (fun h => h))
                            replace hy := hy.upd hu19 (fun k hk hl hS => by exact (show False from hS).elim)
                            replace hb11 := hb11.upd hu19 (by exact (fun h => h))
                            replace hI2 := hI2.upd hu19 (fun k hk hl hS => by exact (show False from hS).elim)
                            replace hR2 := hR2.upd hu19 (fun k hk hl hS => by rcases hk with hk | hk <;> exact (show False from hS).elim)
                            refine WL.cons (SO.append hol (Rd.of_blk (F := At _) (n := 2) (sz := 3) hB19 rfl rfl (by omega)) row_26 (by intro u hu; simp only [List.mem_cons, List.not_mem_nil, or_false, Array.toList] at hu; rcases hu with rfl | rfl | rfl | rfl | rfl | rfl <;> rfl) (le_maxLen (by omega)) (by omega) rfl (ev_t rfl) (ev_t rfl) rfl rfl rfl rfl ?_)
                            intro v20 w20 hol hu20
                            have hs20 := hu20.size
                            replace hU := hU.trans hu20 (by (intro k hl hk; first | (have := hMut k hk; omega) | (have := hGR k hk; omega) | (have := hGx k hk; omega) | (have := hGx2 k hk; omega) | (have := hGy k hk; omega)))
                            replace hrt := hrt.upd hu20 (fun k hk hl hS => by (have := hGx k hS; omega))
                            replace htt := htt.upd hu20 (fun k hk hl hS => by (have := hGx k hS; omega))
                            replace hys := hys.upd hu20 (fun k hk hl hS => by exact (hT2 k hk).2.2.1 hS)
                            replace hx := hx.upd hu20 (fun k hk hl hS => by exact (hT2 k hk).2.2.1 hS)
                            replace hy := hy.upd hu20 (fun k hk hl hS => by exact (hT2 k hk).2.2.1 hS)
                            replace hI2 := hI2.upd hu20 (fun k hk hl hS => by (rcases hk with hk | hk <;> first | exact hk.elim | (have := hMut _ hk; have := hGx _ hS; omega) | (have := hMut _ hk; have := hGR _ hS; omega) | exact (hT _ hk).2.2.1 hS | exact (hT2 _ hk).2.2.1 hS | exact (hT _ hk).2.2.2 hS | exact (hT2 _ hk).2.2.2 hS))
                            replace hR2 := hR2.upd hu20 (fun k hk hl hS => by rcases hk with hk | hk <;> first | exact (hT2 _ hk).2.2.1 hS | exact (hGR2 _ hk).2.2.1 hS)
                            obtain ⟨A20, c20, rfl, hc20⟩ := Own.form hol
                            refine WL.val rfl rfl rfl rfl (r_assign rfl (ev_t rfl)) ?_
                            refine WL.nil ?_
                            refine WX.keep [(0, _), (3, _), (4, _), (5, _), (6, _), (7, _)] ⟨rfl, rfl, rfl, rfl, rfl, rfl, trivial⟩ ?_
                            have hys2 := (hys.snoc hx).snoc hy
                            rw [← flat2_snoc] at hys2
                            have e6 : ∀ (a1 a2 a3 a4 a5 a6 : Value), ys.flatMap c3 ++ [a1, a2, a3, a4, a5, a6] = (ys ++ [(a1, a2, a3)] ++ [(a4, a5, a6)]).flatMap c3 := fun a1 a2 a3 a4 a5 a6 => by simp [c3]
                            rw [e6] at hol
                            refine WX.blockNormal ?_
                            refine WX.next ?_
                            refine WC.region ?_
                            refine WL.val rfl rfl rfl rfl (r_move rfl (ev_t rfl)) ?_
                            first | refine WL.val rfl rfl rfl rfl (r_addN rfl (ev_t rfl) ev_c (by simp only [inK]; omega)) ?_ | refine WL.val rfl rfl rfl rfl (r_add rfl (ev_t rfl) ev_c) ?_
                            refine WL.val rfl rfl rfl rfl (r_assign rfl (ev_t rfl)) ?_
                            refine WL.nil ?_
                            refine WX.keep [(0, _), (3, _), (4, _), (5, _), (6, _), (7, _)] ⟨rfl, rfl, rfl, rfl, rfl, rfl, trivial⟩ ?_
                            refine WX.meet [(0, _), (3, _), (4, _), (5, _), (6, _), (7, _)] ⟨rfl, rfl, rfl, rfl, rfl, rfl, trivial⟩ ?_
                            refine ⟨tt.length - (i + 1), by omega, i + 1, m + 2, _, _, _, ps ++ [(X, Y)], σ2, D2, xs2, _, T2, GR2, by omega, rfl, by omega, hU, by omega, by simp [hpl], hrun2, hdu2, hrt, htt, hol, hys2, hI2, hR2, fun k hk => ?_, fun k hk => ?_, fun k hk => ?_, by simp⟩
                            · rcases hk with hk | hk
                              · have := hGx k hk; omega
                              · omega
                            · have h9 := hGR2 k hk
                              refine ⟨h9.1, by omega, fun h => ?_⟩
                              rcases h with h | h
                              · exact h9.2.2.1 h
                              · omega
                            · have h9 := hT2 k hk
                              refine ⟨h9.1, by omega, fun h => ?_, fun h => (hGR2 k h).2.2.2 hk⟩
                              rcases h with h | h
                              · exact h9.2.2.1 h
                              · omega
          · try (exfalso; first | (simp at hc7; done) | (simp only [decide_eq_true_eq, decide_eq_false_iff_not, Bool.not_eq_true', Bool.not_eq_false', Bool.not_eq_true, Bool.not_eq_false] at hc7; omega) | omega)
            all_goals
             try simp only [decide_eq_true_eq, decide_eq_false_iff_not, Bool.not_eq_true', Bool.not_eq_false', Bool.not_eq_true, Bool.not_eq_false, Option.isNone_none, Option.isNone_some, Option.isSome_none, Option.isSome_some, ne_eq, Decidable.not_not] at hc7
             obtain rfl : i = tt.length := by omega
             have hmn : m ≤ 16 := by omega
             have hfl := flat2_len ps
             have hml : m = (flat2 ps).length := by omega
             obtain ⟨hgs, hfs, _⟩ := hrun.facts
             have hfs2 := (hfs rfl).2
             refine WC.exit ?_
             refine WX.thenExit ?_
             refine WX.thenExit ?_
             refine WX.blockHere ?_
             refine WX.next ?_
             refine WC.seq ?_
             refine WC.seq ?_
             obtain ⟨SL, hSL⟩ : ∃ SL, SL = wA.heap.size := ⟨_, rfl⟩
             refine WC.region ?_
             refine WL.val rfl rfl rfl rfl (r_assign rfl ev_c) ?_
             refine WL.nil ?_
             refine WX.keep [(3, _), (4, _), (5, _), (6, _), (11, _)] ⟨rfl, rfl, rfl, rfl, rfl, trivial⟩ ?_
             refine WX.next ?_
             refine WC.block ?_
             -- loop 2: live [3, 4, 5, 6, 11]
             refine WC.keep [(3, _), (4, _), (5, _), (6, _), (11, _)] ⟨rfl, rfl, rfl, rfl, rfl, trivial⟩ ?_
             refine WC.loop (fun q E wA => ∃ (i : Nat), i ≤ m ∧ q = m - i ∧ Upd No w wA ∧ SL ≤ wA.heap.size ∧ (∀ (k : Nat) t, (flat2 ps)[k]? = some t → k < i → sz (ext (th σ) t) < 1000) ∧   Own wA Gx typ 3 (.slice A m cl) m (ys.flatMap c3) ∧ TVs wA T ys (flat2 ps) ∧ IsS wA T p m1 m2 σ D 100 xs ∧ RS wA T GR BM σ D 100 ∧   E = [(3, .pointer (some ⟨p, 0, none⟩)), (4, .pointer (some ⟨BM, 0, none⟩)), (5, .slice A m cl), (6, .slice none 0 0), (11, .int .i64 (i : Int))]) (m) ?_ ?_
             · exact ⟨0, by omega, by omega, hU, by omega, fun k t h hk => by omega, hol, hys, hI, hR, rfl⟩
             · clear hU hol hys hI hR
               rintro q E wD ⟨i, hi, rfl, hU, hsl, hszs, hol, hys, hI, hR, rfl⟩
               refine WC.seq ?_
               refine WC.seq ?_
               refine WC.region ?_
               refine WL.val rfl rfl rfl rfl (r_move rfl (ev_t rfl)) ?_
               refine WL.val rfl rfl rfl rfl (r_move rfl (ev_t rfl)) ?_
               refine WL.val rfl rfl rfl rfl (r_lenSlice (ts := #[]) rfl (ev_t rfl) elem_26) ?_
               refine WL.val rfl rfl rfl rfl (r_lss rfl (ev_t rfl) (ev_t rfl)) ?_
               refine WL.nil ?_
               refine WX.keep [(3, _), (4, _), (5, _), (6, _), (11, _), (86, _)] ⟨rfl, rfl, rfl, rfl, rfl, rfl, trivial⟩ ?_
               refine WX.next ?_
               refine WC.cond rfl (ev_t rfl) (fun hc22 => ?_) (fun hc22 => ?_)
               · try (exfalso; first | (simp at hc22; done) | (simp only [decide_eq_true_eq, decide_eq_false_iff_not, Bool.not_eq_true', Bool.not_eq_false', Bool.not_eq_true, Bool.not_eq_false] at hc22; omega) | omega)
                 all_goals
                  try simp only [decide_eq_true_eq, decide_eq_false_iff_not, Bool.not_eq_true', Bool.not_eq_false', Bool.not_eq_true, Bool.not_eq_false, Option.isNone_none, Option.isNone_some, Option.isSome_none, Option.isSome_some, ne_eq, Decidable.not_not] at hc22
                  have hil : i < (flat2 ps).length := by omega
                  have hfa : (flat2 ps)[i]? = some (flat2 ps)[i] := List.getElem?_eq_getElem hil
                  generalize (flat2 ps)[i] = ta at *
                  have hrx := hol.rd (by omega)
                  obtain ⟨bx, offx, rfl, _⟩ := hrx.open (by omega)
                  obtain ⟨⟨a1, a2, a3⟩, hxa, hta⟩ := hys.get hfa
                  have hRx := hR
                  obtain ⟨Gv, Go, Gd, xr, Avr, Aor, Adr, cvr, cor, cdr, hIr, hSp⟩ := hRx
                  refine WC.skip ?_
                  refine WX.next ?_
                  refine WC.seq ?_
                  refine WC.block ?_
                  refine WC.seq ?_
                  refine WC.region ?_
                  refine WL.val rfl rfl rfl rfl (r_move rfl (ev_t rfl)) ?_
                  refine WL.val rfl rfl rfl rfl (r_move rfl (ev_t rfl)) ?_
                  refine WL.val rfl rfl rfl rfl (r_move rfl (ev_t rfl)) ?_
                  refine WL.val rfl rfl rfl rfl (r_indexAddr rfl (ev_t rfl) (ev_t rfl) elem_26 size_28 (by omega) (by omega)) ?_
                  refine WL.val rfl rfl rfl rfl (r_loadAgg (vs := [_, _, _]) rfl (ev_t rfl) agg_28 size_28 (kid_cells hrx hxa rfl)) ?_
                  refine WL.cons (SO.call (rsize_ok hgs.wf _ _ _ _ _ _ ta 1000 (Nat.le_refl _) hIr hta (by omega) (by omega)) rfl body_21 ⟨(ev_t rfl), (ev_t rfl), ev_c, trivial⟩ rfl rfl rfl rfl ?_)
                  rintro v w21 ⟨rfl, hu21⟩
                  clear hIr hSp
                  have hs21 := hu21.size
                  replace hU := hU.trans hu21 (by exact (fun _ _ h => h))
                  replace hol := hol.upd hu21 (fun k hk hl hS => by exact (show False from hS).elim)
                  replace hys := hys.upd hu21 (fun k hk hl hS => by exact (show False from hS).elim)
                  replace hI := hI.upd hu21 (fun k hk hl hS => by exact (show False from hS).elim)
                  replace hR := hR.upd hu21 (fun k hk hl hS => by exact (show False from hS).elim)
                  refine WL.val rfl rfl rfl rfl (r_geq rfl (ev_t rfl) ev_c) ?_
                  refine WL.nil ?_
                  refine WX.keep [(3, _), (4, _), (5, _), (6, _), (11, _), (95, _)] ⟨rfl, rfl, rfl, rfl, rfl, rfl, trivial⟩ ?_
                  refine WX.next ?_
                  refine WC.cond rfl (ev_t rfl) (fun hc24 => ?_) (fun hc24 => ?_)
                  · try (exfalso; first | (simp at hc24; done) | (simp only [decide_eq_true_eq, decide_eq_false_iff_not, Bool.not_eq_true', Bool.not_eq_false', Bool.not_eq_true, Bool.not_eq_false] at hc24; omega) | omega)
                    all_goals
                     try simp only [decide_eq_true_eq, decide_eq_false_iff_not, Bool.not_eq_true', Bool.not_eq_false', Bool.not_eq_true, Bool.not_eq_false, Option.isNone_none, Option.isNone_some, Option.isSome_none, Option.isSome_some, ne_eq, Decidable.not_not] at hc24
                     refine WC.seq ?_
                     refine WC.region ?_
                     refine WL.val rfl rfl rfl rfl (r_assign rfl ev_c) ?_
                     refine WL.nil ?_
                     refine WX.keep [(2, _)] ⟨rfl, trivial⟩ ?_
                     refine WX.next ?_
                     refine WC.ret ?_
                     refine WX.blockRet ?_
                     refine WX.thenRet ?_
                     refine WX.thenRet ?_
                     refine WX.blockRet ?_
                     refine WX.thenRet ?_
                     refine WX.retE1 rfl rfl ?_
                     exact ⟨rfl, hU⟩
                  · try (exfalso; first | (simp at hc24; done) | (simp only [decide_eq_true_eq, decide_eq_false_iff_not, Bool.not_eq_true', Bool.not_eq_false', Bool.not_eq_true, Bool.not_eq_false] at hc24; omega) | omega)
                    all_goals
                     try simp only [decide_eq_true_eq, decide_eq_false_iff_not, Bool.not_eq_true', Bool.not_eq_false', Bool.not_eq_true, Bool.not_eq_false, Option.isNone_none, Option.isNone_some, Option.isSome_none, Option.isSome_some, ne_eq, Decidable.not_not] at hc24
                     refine WC.skip ?_
                     refine WX.blockNormal ?_
                     refine WX.next ?_
                     refine WC.region ?_
                     refine WL.val rfl rfl rfl rfl (r_move rfl (ev_t rfl)) ?_
                     first | refine WL.val rfl rfl rfl rfl (r_addN rfl (ev_t rfl) ev_c (by simp only [inK]; omega)) ?_ | refine WL.val rfl rfl rfl rfl (r_add rfl (ev_t rfl) ev_c) ?_
                     refine WL.val rfl rfl rfl rfl (r_assign rfl (ev_t rfl)) ?_
                     refine WL.nil ?_
                     refine WX.keep [(3, _), (4, _), (5, _), (6, _), (11, _)] ⟨rfl, rfl, rfl, rfl, rfl, trivial⟩ ?_
                     refine WX.meet [(3, _), (4, _), (5, _), (6, _), (11, _)] ⟨rfl, rfl, rfl, rfl, rfl, trivial⟩ ?_
                     refine ⟨m - (i + 1), by omega, i + 1, by omega, rfl, hU, by omega, fun k t h hk => ?_, hol, hys, hI, hR, by simp⟩
                     by_cases hki : k = i
                     · subst hki
                       rw [h] at hfa
                       injection hfa with hfa
                       subst hfa
                       omega
                     · exact hszs k t h (by omega)
               · try (exfalso; first | (simp at hc22; done) | (simp only [decide_eq_true_eq, decide_eq_false_iff_not, Bool.not_eq_true', Bool.not_eq_false', Bool.not_eq_true, Bool.not_eq_false] at hc22; omega) | omega)
                 all_goals
                  try simp only [decide_eq_true_eq, decide_eq_false_iff_not, Bool.not_eq_true', Bool.not_eq_false', Bool.not_eq_true, Bool.not_eq_false, Option.isNone_none, Option.isNone_some, Option.isSome_none, Option.isSome_some, ne_eq, Decidable.not_not] at hc22
                  obtain rfl : m = i := by omega
                  have hGx2 : ∀ k, Gx k → B1 ≤ k ∧ k < SL := fun k hk => by have := hGx k hk; omega
                  have hGR2 : ∀ k, GR k → BM ≤ k ∧ k < SL ∧ ¬ Gx k := fun k hk => by have := hGR k hk; exact ⟨this.1, by omega, this.2.2⟩
                  have hT' : ∀ k, T k → B1 ≤ k ∧ k < SL ∧ ¬ Gx k ∧ ¬ GR k := fun k hk => by have := hT k hk; exact ⟨this.1, by omega, this.2.2⟩
                  clear hGx hGR hT
                  refine WC.exit ?_
                  refine WX.thenExit ?_
                  refine WX.thenExit ?_
                  refine WX.blockHere ?_
                  refine WX.next ?_
                  refine WC.seq ?_
                  refine WC.seq ?_
                  refine WC.region ?_
                  refine WL.val rfl rfl rfl rfl (r_assign rfl ev_c) ?_
                  refine WL.nil ?_
                  refine WX.keep [(3, _), (4, _), (5, _), (6, _), (12, _)] ⟨rfl, rfl, rfl, rfl, rfl, trivial⟩ ?_
                  refine WX.next ?_
                  refine WC.block ?_
                  -- loop 3: live [3, 4, 5, 6, 12]
                  refine WC.keep [(3, _), (4, _), (5, _), (6, _), (12, _)] ⟨rfl, rfl, rfl, rfl, rfl, trivial⟩ ?_
                  refine WC.loop (fun q E wA => ∃ (i cy : Nat) (Ay : Option Addr) (xa yb : List C3) (Gy T : Nat → Prop), i ≤ m ∧ q = m - i ∧ Upd No w wA ∧ SL ≤ wA.heap.size ∧   Own wA Gx typ 3 (.slice A m cl) m (xa.flatMap c3) ∧ TVs wA T xa (mixT (ext (th σ)) (flat2 ps) i) ∧ Own wA Gy typ 3 (.slice Ay i cy) i (yb.flatMap c3) ∧ TVs wA T yb (((flat2 ps).take i).map (ext (th σ))) ∧ IsS wA T p m1 m2 σ D 100 xs ∧ RS wA T GR BM σ D 100 ∧   (∀ k, Gy k → SL ≤ k ∧ k < wA.heap.size) ∧ (∀ k, T k → B1 ≤ k ∧ k < wA.heap.size ∧ ¬ Gx k ∧ ¬ Gy k ∧ ¬ GR k) ∧   E = [(3, .pointer (some ⟨p, 0, none⟩)), (4, .pointer (some ⟨BM, 0, none⟩)), (5, .slice A m cl), (6, .slice Ay i cy), (12, .int .i64 (i : Int))]) (m) ?_ ?_
                  · exact ⟨0, 0, none, ys, [], fun _ => False, T, by omega, by omega, hU, by omega, hol, hys, Own.nil _ _ _ _, TVs.nil _ _, hI, hR, fun k h => h.elim, fun k h => (by have := hT' k h; exact ⟨this.1, by omega, this.2.2.1, fun h => h, this.2.2.2⟩), rfl⟩
                  · clear hU hol hys hI hR hT'
                    rintro q E wE ⟨i, cy, Ay, xa, yb, Gy, T4, hi, rfl, hU, hsl, hol4, hxs, hoy, hyb, hI4, hR4, hGy, hT4, rfl⟩
                    have hs4 := hU.size
                    refine WC.seq ?_
                    refine WC.seq ?_
                    refine WC.region ?_
                    refine WL.val rfl rfl rfl rfl (r_move rfl (ev_t rfl)) ?_
                    refine WL.val rfl rfl rfl rfl (r_move rfl (ev_t rfl)) ?_
                    refine WL.val rfl rfl rfl rfl (r_lenSlice (ts := #[]) rfl (ev_t rfl) elem_26) ?_
                    refine WL.val rfl rfl rfl rfl (r_lss rfl (ev_t rfl) (ev_t rfl)) ?_
                    refine WL.nil ?_
                    refine WX.keep [(3, _), (4, _), (5, _), (6, _), (12, _), (99, _)] ⟨rfl, rfl, rfl, rfl, rfl, rfl, trivial⟩ ?_
                    refine WX.next ?_
                    refine WC.cond rfl (ev_t rfl) (fun hc27 => ?_) (fun hc27 => ?_)
                    · try (exfalso; first | (simp at hc27; done) | (simp only [decide_eq_true_eq, decide_eq_false_iff_not, Bool.not_eq_true', Bool.not_eq_false', Bool.not_eq_true, Bool.not_eq_false] at hc27; omega) | omega)
                      all_goals
                       try simp only [decide_eq_true_eq, decide_eq_false_iff_not, Bool.not_eq_true', Bool.not_eq_false', Bool.not_eq_true, Bool.not_eq_false, Option.isNone_none, Option.isNone_some, Option.isSome_none, Option.isSome_some, ne_eq, Decidable.not_not] at hc27
                       have hil : i < (flat2 ps).length := by omega
                       have hfa : (flat2 ps)[i]? = some (flat2 ps)[i] := List.getElem?_eq_getElem hil
                       generalize (flat2 ps)[i] = ta at *
                       have hmx := mixT_get (f := ext (th σ)) hfa
                       have hms := mixT_succ (f := ext (th σ)) hfa
                       have hrx4 := hol4.rd (by omega)
                       obtain ⟨bx, capx, curx, ex, _, _, _, _, _, _⟩ := hol4.open (by omega)
                       injection ex with ex1 ex2 ex3
                       subst ex1 ex3
                       obtain ⟨⟨a1, a2, a3⟩, hxa, hta4⟩ := hxs.get hmx
                       have hRx := hR4
                       obtain ⟨Gv, Go, Gd, xr, Avr, Aor, Adr, cvr, cor, cdr, hIr, hSp⟩ := hRx
                       refine WC.skip ?_
                       refine WX.next ?_
                       refine WC.seq ?_
                       refine WC.block ?_
                       refine WC.seq ?_
                       refine WC.region ?_
                       refine WL.val rfl rfl rfl rfl (r_move rfl (ev_t rfl)) ?_
                       refine WL.val rfl rfl rfl rfl (r_move rfl (ev_t rfl)) ?_
                       refine WL.val rfl rfl rfl rfl (r_move rfl (ev_t rfl)) ?_
                       refine WL.val rfl rfl rfl rfl (r_move rfl (ev_t rfl)) ?_
                       refine WL.val rfl rfl rfl rfl (r_indexAddr rfl (ev_t rfl) (ev_t rfl) elem_26 size_28 (by omega) (by omega)) ?_
                       refine WL.val rfl rfl rfl rfl (r_loadAgg (vs := [_, _, _]) rfl (ev_t rfl) agg_28 size_28 (kid_cells hrx4 hxa rfl)) ?_
                       refine WL.cons (SO.call (rapply_ok hgs.wf _ _ _ _ _ _ ta (Nat.le_refl _) hIr hta4) rfl body_24 ⟨(ev_t rfl), (ev_t rfl), trivial⟩ rfl rfl rfl rfl ?_)
                       rintro v w22 ⟨d1, d2, d3, rfl, hd, hu22⟩
                       obtain ⟨md, Ad, kd, xkd, rfl, rfl, rfl, _⟩ := hd.open
                       clear hIr hSp
                       have hs22 := hu22.size
                       replace hU := hU.trans hu22 (by exact (fun _ _ h => h))
                       replace hol4 := hol4.upd hu22 (fun k hk hl hS => by exact (show False from hS).elim)
                       replace hxs := hxs.upd hu22 (fun k hk hl hS => by exact (show False from hS).elim)
                       replace hoy := hoy.upd hu22 (fun k hk hl hS => by exact (show False from hS).elim)
                       replace hyb := hyb.upd hu22 (fun k hk hl hS => by exact (show False from hS).elim)
                       replace hI4 := hI4.upd hu22 (fun k hk hl hS => by rcases hk with hk | hk <;> exact (show False from hS).elim)
                       replace hR4 := hR4.upd hu22 (fun k hk hl hS => by rcases hk with hk | hk <;> exact (show False from hS).elim)
                       replace hrx4 := hrx4.upd hu22 (fun k hk hl hS => by exact (show False from hS).elim)
                       replace hta4 := hta4.upd hu22 (fun k hk hl hS => by exact (show False from hS).elim)
                       obtain ⟨S1, hS1⟩ : ∃ S1, S1 = w22.heap.size := ⟨_, rfl⟩
                       replace hd := hd.mono (F' := fun k => wE.heap.size ≤ k ∧ k < S1) (fun k hk => by simp only [New] at hk; omega)
                       refine WL.cons (SO.alloc rfl rfl rfl rfl (r_buildSlice (cs := #[_, _, _]) (vs := [(0, _)]) rfl ⟨⟨rfl, (ev_t rfl)⟩, trivial⟩ row_26 rfl rfl) ?_)
                       intro w23 hu23 hB23 hz23
                       have hs23 := hu23.size
                       replace hU := hU.trans hu23 (by exact (fun _ _ h => h))
                       replace hol4 := hol4.upd hu23 (fun k hk hl hS => by exact (show False from hS).elim)
                       replace hxs := hxs.upd hu23 (fun k hk hl hS => by exact (show False from hS).elim)
                       replace hoy := hoy.upd hu23 (fun k hk hl hS => by exact (show False from hS).elim)
                       replace hyb := hyb.upd hu23 (fun k hk hl hS => by exact (show False from hS).elim)
                       replace hI4 := hI4.upd hu23 (fun k hk hl hS => by rcases hk with hk | hk <;> exact (show False from hS).elim)
                       replace hR4 := hR4.upd hu23 (fun k hk hl hS => by rcases hk with hk | hk <;> exact (show False from hS).elim)
                       replace hrx4 := hrx4.upd hu23 (fun k hk hl hS => by exact (show False from hS).elim)
                       replace hta4 := hta4.upd hu23 (fun k hk hl hS => by exact (show False from hS).elim)
                       replace hd := hd.upd hu23 (fun k hk hl hS => by exact (show False from hS).elim)
                       refine WL.cons (SO.append hoy (show Rd _ _ _ 1 3 [Value.string ⟨(ext (th σ) ta).nm.toArray⟩, .int .i64 md, .slice Ad (ext (th σ) ta).kids.length kd] from rd_one hB23) row_26 one_c3 (le_maxLen (by omega)) (by omega) rfl (ev_t rfl) (ev_t rfl) rfl rfl rfl rfl ?_)
                       intro v24 w24 hoy hu24
                       have hs24 := hu24.size
                       replace hU := hU.trans hu24 (by (intro k hl hk; first | (have := hMut k hk; omega) | (have := hGR k hk; omega) | (have := hGx k hk; omega) | (have := hGx2 k hk; omega) | (have := hGy k hk; omega)))
                       replace hol4 := hol4.upd hu24 (fun k hk hl hS => by (have := hGx2 k hk; have := hGy k hS; omega))
                       replace hxs := hxs.upd hu24 (fun k hk hl hS => by exact (hT4 k hk).2.2.2.1 hS)
                       replace hyb := hyb.upd hu24 (fun k hk hl hS => by exact (hT4 k hk).2.2.2.1 hS)
                       replace hI4 := hI4.upd hu24 (fun k hk hl hS => by rcases hk with hk | hk <;> first | (have := hMut _ hk; have := hGy _ hS; omega) | exact (hT4 _ hk).2.2.2.1 hS)
                       replace hR4 := hR4.upd hu24 (fun k hk hl hS => by rcases hk with hk | hk <;> first | (have := hGR2 _ hk; have := hGy _ hS; omega) | exact (hT4 _ hk).2.2.2.1 hS)
                       replace hrx4 := hrx4.upd hu24 (fun k hk hl hS => by (have := hGx2 k hk; have := hGy k hS; omega))
                       replace hta4 := hta4.upd hu24 (fun k hk hl hS => by exact (hT4 k hk).2.2.2.1 hS)
                       replace hd := hd.upd hu24 (fun k hk hl hS => by (have := hGy k hS; omega))
                       obtain ⟨A24, c24, rfl, hc24⟩ := Own.form hoy
                       rw [← flat_snoc] at hoy
                       refine WL.val rfl rfl rfl rfl (r_assign rfl (ev_t rfl)) ?_
                       refine WL.nil ?_
                       refine WX.keep [(3, _), (4, _), (5, _), (6, _), (12, _)] ⟨rfl, rfl, rfl, rfl, rfl, trivial⟩ ?_
                       obtain ⟨S2, hS2⟩ : ∃ S2, S2 = w24.heap.size := ⟨_, rfl⟩
                       refine WX.next ?_
                       refine WC.seq ?_
                       refine WC.region ?_
                       refine WL.val rfl rfl rfl rfl (r_move rfl (ev_t rfl)) ?_
                       refine WL.val rfl rfl rfl rfl (r_move rfl (ev_t rfl)) ?_
                       refine WL.val rfl rfl rfl rfl (r_move rfl (ev_t rfl)) ?_
                       refine WL.val rfl rfl rfl rfl (r_move rfl (ev_t rfl)) ?_
                       refine WL.val rfl rfl rfl rfl (r_move rfl (ev_t rfl)) ?_
                       refine WL.val rfl rfl rfl rfl (r_indexAddr rfl (ev_t rfl) (ev_t rfl) elem_26 size_28 (by omega) (by omega)) ?_
                       refine WL.val rfl rfl rfl rfl (r_loadAgg (vs := [_, _, _]) rfl (ev_t rfl) agg_28 size_28 (kid_cells hrx4 hxa rfl)) ?_
                       refine WL.cons (SO.call (apply_ok hgs.wf _ _ _ _ _ _ ta (Nat.le_refl _) hI4 hta4) rfl body_18 ⟨(ev_t rfl), (ev_t rfl), trivial⟩ rfl rfl rfl rfl ?_)
                       rintro v w25 ⟨e1, e2, e3, rfl, he, hu25⟩
                       obtain ⟨me, Ae, ke, xke, rfl, rfl, rfl, _⟩ := he.open
                       have hs25 := hu25.size
                       replace hU := hU.trans hu25 (by exact (fun _ _ h => h))
                       replace hol4 := hol4.upd hu25 (fun k hk hl hS => by exact (show False from hS).elim)
                       replace hxs := hxs.upd hu25 (fun k hk hl hS => by exact (show False from hS).elim)
                       replace hoy := hoy.upd hu25 (fun k hk hl hS => by exact (show False from hS).elim)
                       replace hyb := hyb.upd hu25 (fun k hk hl hS => by exact (show False from hS).elim)
                       replace hI4 := hI4.upd hu25 (fun k hk hl hS => by rcases hk with hk | hk <;> exact (show False from hS).elim)
                       replace hR4 := hR4.upd hu25 (fun k hk hl hS => by rcases hk with hk | hk <;> exact (show False from hS).elim)
                       replace hrx4 := hrx4.upd hu25 (fun k hk hl hS => by exact (show False from hS).elim)
                       replace hta4 := hta4.upd hu25 (fun k hk hl hS => by exact (show False from hS).elim)
                       replace hd := hd.upd hu25 (fun k hk hl hS => by exact (show False from hS).elim)
                       obtain ⟨S3, hS3⟩ : ∃ S3, S3 = w25.heap.size := ⟨_, rfl⟩
                       replace he := he.mono (F' := fun k => S2 ≤ k ∧ k < S3) (fun k hk => by simp only [New] at hk; omega)
                       refine WL.val rfl rfl rfl rfl (r_indexAddr rfl (ev_t rfl) (ev_t rfl) elem_26 size_28 (by omega) (by omega)) ?_
                       refine WL.cons (SO.ownSet (i := i) (us := [_, _, _]) hol4 rfl (by omega) (Nat.zero_add _) rfl rfl (ev_t rfl) (ev_t rfl) size_28 rfl rfl rfl rfl ?_)
                       intro w26 hu26 hol9 hz9
                       have hs26 := hu26.size
                       replace hU := hU.trans hu26 (by (intro k hl hk; first | (have := hMut k hk; omega) | (have := hGR k hk; omega) | (have := hGx k hk; omega) | (have := hGx2 k hk; omega) | (have := hGy k hk; omega)))
                       replace hxs := hxs.upd hu26 (fun k hk hl hS => by exact (hT4 k hk).2.2.1 hS)
                       replace hoy := hoy.upd hu26 (fun k hk hl hS => by (rcases hk with hk | hk; have := hGx2 k hS; have := hGy k hk; omega; have := hGx2 k hS; omega))
                       replace hyb := hyb.upd hu26 (fun k hk hl hS => by exact (hT4 k hk).2.2.1 hS)
                       replace hI4 := hI4.upd hu26 (fun k hk hl hS => by rcases hk with hk | hk <;> first | (have := hMut _ hk; have := hGx2 _ hS; omega) | exact (hT4 _ hk).2.2.1 hS)
                       replace hR4 := hR4.upd hu26 (fun k hk hl hS => by rcases hk with hk | hk <;> first | exact (hGR2 _ hk).2.2 hS | exact (hT4 _ hk).2.2.1 hS)
                       replace hd := hd.upd hu26 (fun k hk hl hS => by (have := hGx2 k hS; omega))
                       replace he := he.upd hu26 (fun k hk hl hS => by (have := hGx2 k hS; omega))
                       have hlx : i < xa.length := by
                         rcases Nat.lt_or_ge i xa.length with h9 | h9
                         · exact h9
                         · rw [List.getElem?_eq_none h9] at hxa; cases hxa
                       have hol5 : Own w26 Gx typ 3 (.slice (some ⟨bx, 0, none⟩) m cl) m ((xa.set i (.string ⟨(ext (th σ) ta).nm.toArray⟩, .int .i64 me, .slice Ae (ext (th σ) ta).kids.length ke)).flatMap c3) := by
                         rw [Nat.zero_add] at hol9
                         rw [set_flat hlx]
                         exact hol9
                       refine WL.nil ?_
                       refine WX.keep [(3, _), (4, _), (5, _), (6, _), (12, _)] ⟨rfl, rfl, rfl, rfl, rfl, trivial⟩ ?_
                       obtain ⟨T5, hT45, hT5e⟩ : ∃ T5 : Nat → Prop, (∀ k, T4 k → T5 k) ∧ (∀ k, T5 k ↔ T4 k ∨ (wE.heap.size ≤ k ∧ k < S1) ∨ (S2 ≤ k ∧ k < S3)) := ⟨fun k => T4 k ∨ (wE.heap.size ≤ k ∧ k < S1) ∨ (S2 ≤ k ∧ k < S3), fun k h => .inl h, fun k => Iff.rfl⟩
                       obtain ⟨Gy5, hGy5e, hoy5⟩ : ∃ Gy5 : Nat → Prop, (∀ k, Gy5 k → Gy k ∨ (S1 ≤ k ∧ k < S2)) ∧ Own w26 Gy5 typ 3 _ _ _ := ⟨_, fun k hk => hk.imp (fun h => h) (fun h => by omega), hoy⟩
                       have hGy5 : ∀ k, Gy5 k → SL ≤ k ∧ k < w26.heap.size := fun k hk => by
                         rcases hGy5e k hk with hk | hk
                         · have := hGy k hk; omega
                         · omega
                       have hT5 : ∀ k, T5 k → B1 ≤ k ∧ k < w26.heap.size ∧ ¬ Gx k ∧ ¬ Gy5 k ∧ ¬ GR k := fun k hk => by
                         rcases (hT5e k).1 hk with hk | hk | hk
                         · have h9 := hT4 k hk
                           refine ⟨h9.1, by omega, h9.2.2.1, fun h => ?_, h9.2.2.2.2⟩
                           rcases hGy5e k h with h | h
                           · exact h9.2.2.2.1 h
                           · omega
                         · refine ⟨by omega, by omega, fun h => by have := hGx2 k h; omega, fun h => ?_, fun h => by have := hGR2 k h; omega⟩
                           rcases hGy5e k h with h | h
                           · have := hGy k h; omega
                           · omega
                         · refine ⟨by omega, by omega, fun h => by have := hGx2 k h; omega, fun h => ?_, fun h => by have := hGR2 k h; omega⟩
                           rcases hGy5e k h with h | h
                           · have := hGy k h; omega
                           · omega
                       have hxs5 := (hxs.mono hT45).set (i := i) (he.mono fun k h => (hT5e k).2 (.inr (.inr h)))
                       rw [hms] at hxs5
                       have hyb5 := (hyb.mono hT45).snoc (hd.mono fun k h => (hT5e k).2 (.inr (.inl h)))
                       rw [← take_map_snoc3 hfa] at hyb5
                       have hI5 := hI4.mono hT45
                       have hR5 := hR4.mono hT45 (fun k hk => (hT5 k hk).2.2.2.2)
                       have hrx5 := hol5.rd (by omega)
                       have hry5 := hoy5.rd (by omega)
                       obtain ⟨by_, offy, hAy, _⟩ := hry5.open (by omega)
                       subst hAy
                       obtain ⟨⟨p1, p2, p3⟩, hxp, htp⟩ := hxs5.get (mixT_done hfa (Nat.lt_succ_self i))
                       obtain ⟨⟨q1, q2, q3⟩, hxq, htq⟩ := hyb5.get (take_done hfa (Nat.lt_succ_self i))
                       refine WX.next ?_
                       refine WC.seq ?_
                       refine WC.draws' (fun u0_ u1_ => Upd No u0_ u1_) (fun j => [0, 0, 0, 0, 0, 1, 0, 0, 0, 0, 0, 1, 0, 0, 0, 0, 0, 0, 0, 0, 0, 0, 0, 0, 0, 0, 1, 2, 0, 0, 0].getD j 0) (.calm 0 (.calm 1 (.calm 2 (.calm 3 (.calm 6 (.calm 7 (.calm 8 (.calm 9 (.held 4 (.held 10 (.one 5 (.one 11 (.calm 12 (.calm 13 (.calm 14 (.calm 15 (.calm 16 (.calm 17 (.calm 18 (.calm 19 (.calm 20 (.calm 21 (.calm 23 (.calm 24 (.calm 25 (.held 22 (.one 26 (.one 27 (.calm 28 (.calm 29 (.calm 30 (.done)))))))))))))))))))))))))))))))) mixed (by kernel_rfl) (by repeat (first | with_reducible exact Deaf.body | with_reducible apply Deaf.then | with_reducible apply Deaf.block)) ?_
                       intro w27 hu27
                       have hz27 := congrArg Array.size hu27.2.2.2
                       replace hu27 := Upd.of_draw hu27
                       have hs27 := hu27.size
                       replace hU := hU.trans hu27 (by exact (fun _ _ h => h))
                       replace hol5 := hol5.updA hu27
                       replace hxs5 := hxs5.updA hu27
                       replace hoy5 := hoy5.updA hu27
                       replace hyb5 := hyb5.updA hu27
                       replace hI5 := hI5.upd hu27 (fun _ _ _ h => h)
                       replace hR5 := hR5.upd hu27 (fun _ _ _ h => h)
                       replace hrx5 := hrx5.updA hu27
                       replace hry5 := hry5.updA hu27
                       replace htp := htp.updA hu27
                       replace htq := htq.updA hu27
                       have hS31 := Upd.refl No w27
                       have hzx := hrx5
                       have hzy := hry5
                       have hRx := hR5
                       obtain ⟨Gv, Go, Gd, xr, Avr, Aor, Adr, cvr, cor, cdr, hIr, hSp⟩ := hRx
                       refine WN.calm _ rfl rfl rfl rfl rfl (fun _ => r_move rfl (ev_t rfl)) ?_
                       refine WN.calm _ rfl rfl rfl rfl rfl (fun _ => r_move rfl (ev_t rfl)) ?_
                       refine WN.calm _ rfl rfl rfl rfl rfl (fun _ => r_move rfl (ev_t rfl)) ?_
                       refine WN.calm _ rfl rfl rfl rfl rfl (fun _ => r_indexAddr rfl (ev_t rfl) (ev_t rfl) elem_26 size_28 (by omega) (by omega)) ?_
                       refine WN.calm _ rfl rfl rfl rfl rfl (fun _ => r_move rfl (ev_t rfl)) ?_
                       refine WN.calm _ rfl rfl rfl rfl rfl (fun _ => r_move rfl (ev_t rfl)) ?_
                       refine WN.calm _ rfl rfl rfl rfl rfl (fun _ => r_move rfl (ev_t rfl)) ?_
                       refine WN.calm _ rfl rfl rfl rfl rfl (fun _ => r_indexAddr rfl (ev_t rfl) (ev_t rfl) elem_26 size_28 (by omega) (by omega)) ?_
                       first | refine WN.held _ rfl rfl rfl rfl rfl hS31 (fun w' hS => r_loadAgg (vs := [_, _, _]) rfl (ev_t rfl) agg_28 size_28 (kid_cells (hzx.upd hS (fun _ _ _ h => h)) hxp rfl)) ?_ | refine WN.held _ rfl rfl rfl rfl rfl hS31 (fun w' hS => r_loadAgg (vs := [_, _, _]) rfl (ev_t rfl) agg_28 size_28 (kid_cells hrx5 hxp rfl)) ?_
                       first | refine WN.held _ rfl rfl rfl rfl rfl hS31 (fun w' hS => r_loadAgg (vs := [_, _, _]) rfl (ev_t rfl) agg_28 size_28 (kid_cells (hzy.upd hS (fun _ _ _ h => h)) hxq rfl)) ?_ | refine WN.held _ rfl rfl rfl rfl rfl hS31 (fun w' hS => r_loadAgg (vs := [_, _, _]) rfl (ev_t rfl) agg_28 size_28 (kid_cells hry5 hxq rfl)) ?_
                       refine WN.step _ rfl (SO.call (tsize_ok hgs.wf _ _ _ _ _ _ (ext (th σ) ta) 2000 (Nat.le_refl _) hI5 htp (by omega) (by omega)) rfl body_19 ⟨(ev_t rfl), (ev_t rfl), ev_c, trivial⟩ rfl rfl rfl rfl ?_)
                       rintro v w28 ⟨rfl, hu28⟩
                       replace hIr := hIr.updN hu28
                       have hs28 := hu28.size
                       replace hS31 := Upd.transA hS31 hu28
                       replace hU := hU.trans hu28 (by exact (fun _ _ h => h))
                       replace hol5 := hol5.updA hu28
                       replace hxs5 := hxs5.updA hu28
                       replace hoy5 := hoy5.updA hu28
                       replace hyb5 := hyb5.updA hu28
                       replace hI5 := hI5.upd hu28 (fun _ _ _ h => h)
                       replace hR5 := hR5.upd hu28 (fun _ _ _ h => h)
                       replace hrx5 := hrx5.updA hu28
                       replace hry5 := hry5.updA hu28
                       replace htp := htp.updA hu28
                       replace htq := htq.updA hu28
                       refine ⟨hS31, ?_⟩
                       refine WN.step _ rfl (SO.call (rsize_ok hgs.wf _ _ _ _ _ _ (ext (th σ) ta) 2000 (Nat.le_refl _) hIr htq (by omega) (by omega)) rfl body_21 ⟨(ev_t rfl), (ev_t rfl), ev_c, trivial⟩ rfl rfl rfl rfl ?_)
                       rintro v w29 ⟨rfl, hu29⟩
                       clear hIr hSp
                       have hs29 := hu29.size
                       replace hS31 := Upd.transA hS31 hu29
                       replace hU := hU.trans hu29 (by exact (fun _ _ h => h))
                       replace hol5 := hol5.updA hu29
                       replace hxs5 := hxs5.updA hu29
                       replace hoy5 := hoy5.updA hu29
                       replace hyb5 := hyb5.updA hu29
                       replace hI5 := hI5.upd hu29 (fun _ _ _ h => h)
                       replace hR5 := hR5.upd hu29 (fun _ _ _ h => h)
                       replace hrx5 := hrx5.updA hu29
                       replace hry5 := hry5.updA hu29
                       replace htp := htp.updA hu29
                       replace htq := htq.updA hu29
                       refine ⟨hS31, ?_⟩
                       refine WN.calm _ rfl rfl rfl rfl rfl (fun _ => r_neq rfl (ev_t rfl) (ev_t rfl)) ?_
                       refine WN.calm _ rfl rfl rfl rfl rfl (fun _ => r_move rfl (ev_t rfl)) ?_
                       refine WN.cases 133 rfl (fun hb31_13 => ?_) (fun hb31_13 => ?_)
                       · try simp only [decide_eq_true_eq, decide_eq_false_iff_not, Bool.not_eq_true', Bool.not_eq_false', Bool.not_eq_true, Bool.not_eq_false, Option.isNone_none, Option.isNone_some, Option.isSome_none, Option.isSome_some, ne_eq, Decidable.not_not] at hb31_13
                         exfalso
                         simp at hb31_13
                       · try (exfalso; first | (simp at hb31_13; done) | (simp only [decide_eq_true_eq, decide_eq_false_iff_not, Bool.not_eq_true', Bool.not_eq_false', Bool.not_eq_true, Bool.not_eq_false] at hb31_13; omega) | omega)
                         all_goals
                          try simp only [decide_eq_true_eq, decide_eq_false_iff_not, Bool.not_eq_true', Bool.not_eq_false', Bool.not_eq_true, Bool.not_eq_false, Option.isNone_none, Option.isNone_some, Option.isSome_none, Option.isSome_some, ne_eq, Decidable.not_not] at hb31_13
                          refine WN.calm _ rfl rfl rfl rfl rfl (fun _ => r_move rfl (ev_t rfl)) ?_
                          first | refine WN.calm _ rfl rfl rfl rfl rfl (fun _ => r_remN rfl (ev_t rfl) ev_c (by omega) (by omega)) ?_ | refine WN.calm _ rfl rfl rfl rfl rfl (fun _ => r_rem rfl (ev_t rfl) ev_c (by omega)) ?_
                          refine WN.calm _ rfl rfl rfl rfl rfl (fun _ => r_eql rfl (ev_t rfl) ev_c) ?_
                          refine WN.calm _ rfl rfl rfl rfl rfl (fun _ => r_move rfl (ev_t rfl)) ?_
                          refine WN.cases 137 rfl (fun hb31_17 => ?_) (fun hb31_17 => ?_)
                          · try (exfalso; first | (simp at hb31_17; done) | (simp only [decide_eq_true_eq, decide_eq_false_iff_not, Bool.not_eq_true', Bool.not_eq_false', Bool.not_eq_true, Bool.not_eq_false] at hb31_17; omega) | omega)
                            all_goals
                             try simp only [decide_eq_true_eq, decide_eq_false_iff_not, Bool.not_eq_true', Bool.not_eq_false', Bool.not_eq_true, Bool.not_eq_false, Option.isNone_none, Option.isNone_some, Option.isSome_none, Option.isSome_some, ne_eq, Decidable.not_not] at hb31_17
                             have hod : ((i : Nat) : Int) % 2 = 1 := by simpa using hb31_17
                             obtain ⟨pp, hpp, hf1, hf2, hi1⟩ := flat2_even hfa hod
                             have heq := hfs2 pp hpp
                             rw [← hf2] at heq
                             obtain ⟨⟨r1, r2, r3⟩, hxr, htr⟩ := hxs5.get (mixT_done hf1 (by omega : i - 1 < i + 1))
                             refine WN.calm _ rfl rfl rfl rfl rfl (fun _ => r_move rfl (ev_t rfl)) ?_
                             refine WN.calm _ rfl rfl rfl rfl rfl (fun _ => r_move rfl (ev_t rfl)) ?_
                             first | refine WN.calm _ rfl rfl rfl rfl rfl (fun _ => r_subN rfl (ev_t rfl) ev_c (by simp only [inK]; omega)) ?_ | refine WN.calm _ rfl rfl rfl rfl rfl (fun _ => r_sub rfl (ev_t rfl) ev_c) ?_
                             rw [show ((i : Int) - 1) = ((i - 1 : Nat) : Int) by omega]
                             refine WN.calm _ rfl rfl rfl rfl rfl (fun _ => r_indexAddr rfl (ev_t rfl) (ev_t rfl) elem_26 size_28 (by omega) (by omega)) ?_
                             refine WN.calm _ rfl rfl rfl rfl rfl (fun _ => r_move rfl (ev_t rfl)) ?_
                             refine WN.calm _ rfl rfl rfl rfl rfl (fun _ => r_move rfl (ev_t rfl)) ?_
                             refine WN.calm _ rfl rfl rfl rfl rfl (fun _ => r_indexAddr rfl (ev_t rfl) (ev_t rfl) elem_26 size_28 (by omega) (by omega)) ?_
                             first | refine WN.held _ rfl rfl rfl rfl rfl hS31 (fun w' hS => r_loadAgg (vs := [_, _, _]) rfl (ev_t rfl) agg_28 size_28 (kid_cells (hzx.upd hS (fun _ _ _ h => h)) hxr rfl)) ?_ | refine WN.held _ rfl rfl rfl rfl rfl hS31 (fun w' hS => r_loadAgg (vs := [_, _, _]) rfl (ev_t rfl) agg_28 size_28 (kid_cells hrx5 hxr rfl)) ?_
                             first | refine WN.step _ rfl (SO.val rfl rfl rfl rfl (r_loadAgg (vs := [_, _, _]) rfl (ev_t rfl) agg_28 size_28 (kid_cells (hzx.upd hS (fun _ _ _ h => h)) hxp rfl)) ?_) | refine WN.step _ rfl (SO.val rfl rfl rfl rfl (r_loadAgg (vs := [_, _, _]) rfl (ev_t rfl) agg_28 size_28 (kid_cells hrx5 hxp rfl)) ?_)
                             refine ⟨hS31, ?_⟩
                             refine WN.step _ rfl (SO.call (tsame_ok _ _ _ _ _ _ _ _ _ _ _ (Nat.le_refl _) htr htp) rfl body_25 ⟨(ev_t rfl), (ev_t rfl), trivial⟩ rfl rfl rfl rfl ?_)
                             rintro v w30 ⟨bb, rfl, hbb, hu30⟩
                             obtain rfl := hbb.2 heq
                             have hs30 := hu30.size
                             try replace hS31 := Upd.transA hS31 hu30
                             replace hU := hU.trans hu30 (by exact (fun _ _ h => h))
                             replace hol5 := hol5.updA hu30
                             replace hxs5 := hxs5.updA hu30
                             replace hoy5 := hoy5.updA hu30
                             replace hyb5 := hyb5.updA hu30
                             replace hI5 := hI5.upd hu30 (fun _ _ _ h => h)
                             replace hR5 := hR5.upd hu30 (fun _ _ _ h => h)
                             replace hrx5 := hrx5.updA hu30
                             replace hry5 := hry5.updA hu30
                             replace htp := htp.updA hu30
                             replace htq := htq.updA hu30
                             refine ⟨trivial, ?_⟩
                             refine WN.calm _ rfl rfl rfl rfl rfl (fun _ => r_not rfl (ev_t rfl)) ?_
                             refine WN.calm _ rfl rfl rfl rfl rfl (fun _ => r_pickT rfl (ev_t rfl) (ev_t rfl)) ?_
                             refine WN.calm _ rfl rfl rfl rfl rfl (fun _ => r_pickF rfl (ev_t rfl) (ev_t rfl)) ?_
                             refine WN.done ?_
                             refine WX.keep [(3, _), (4, _), (5, _), (6, _), (12, _), (150, _)] ⟨rfl, rfl, rfl, rfl, rfl, rfl, trivial⟩ ?_
                             refine WX.next ?_
                             refine WC.cond rfl (ev_t rfl) (fun hc31 => ?_) (fun hc31 => ?_)
                             · try simp only [decide_eq_true_eq, decide_eq_false_iff_not, Bool.not_eq_true', Bool.not_eq_false', Bool.not_eq_true, Bool.not_eq_false, Option.isNone_none, Option.isNone_some, Option.isSome_none, Option.isSome_some, ne_eq, Decidable.not_not] at hc31
                               exfalso
                               simp at hc31
                             · try (exfalso; first | (simp at hc31; done) | (simp only [decide_eq_true_eq, decide_eq_false_iff_not, Bool.not_eq_true', Bool.not_eq_false', Bool.not_eq_true, Bool.not_eq_false] at hc31; omega) | omega)
                               all_goals
                                try simp only [decide_eq_true_eq, decide_eq_false_iff_not, Bool.not_eq_true', Bool.not_eq_false', Bool.not_eq_true, Bool.not_eq_false, Option.isNone_none, Option.isNone_some, Option.isSome_none, Option.isSome_some, ne_eq, Decidable.not_not] at hc31
                                refine WC.skip ?_
                                refine WX.blockNormal ?_
                                refine WX.next ?_
                                refine WC.region ?_
                                refine WL.val rfl rfl rfl rfl (r_move rfl (ev_t rfl)) ?_
                                first | refine WL.val rfl rfl rfl rfl (r_addN rfl (ev_t rfl) ev_c (by simp only [inK]; omega)) ?_ | refine WL.val rfl rfl rfl rfl (r_add rfl (ev_t rfl) ev_c) ?_
                                refine WL.val rfl rfl rfl rfl (r_assign rfl (ev_t rfl)) ?_
                                refine WL.nil ?_
                                refine WX.keep [(3, _), (4, _), (5, _), (6, _), (12, _)] ⟨rfl, rfl, rfl, rfl, rfl, trivial⟩ ?_
                                refine WX.meet [(3, _), (4, _), (5, _), (6, _), (12, _)] ⟨rfl, rfl, rfl, rfl, rfl, trivial⟩ ?_
                                exact ⟨m - (i + 1), by omega, i + 1, _, _, _, _, Gy5, T5, by omega, rfl, hU, by omega, hol5, hxs5, hoy5, hyb5, hI5, hR5, fun k hk => (by have := hGy5 k hk; omega), fun k hk => (by have := hT5 k hk; exact ⟨this.1, by omega, this.2.2⟩), by simp⟩
                          · try (exfalso; first | (simp at hb31_17; done) | (simp only [decide_eq_true_eq, decide_eq_false_iff_not, Bool.not_eq_true', Bool.not_eq_false', Bool.not_eq_true, Bool.not_eq_false] at hb31_17; omega) | omega)
                            all_goals
                             try simp only [decide_eq_true_eq, decide_eq_false_iff_not, Bool.not_eq_true', Bool.not_eq_false', Bool.not_eq_true, Bool.not_eq_false, Option.isNone_none, Option.isNone_some, Option.isSome_none, Option.isSome_some, ne_eq, Decidable.not_not] at hb31_17
                             refine WN.skip _ rfl rfl rfl rfl ?_
                             refine WN.skip _ rfl rfl rfl rfl ?_
                             refine WN.skip _ rfl rfl rfl rfl ?_
                             refine WN.skip _ rfl rfl rfl rfl ?_
                             refine WN.skip _ rfl rfl rfl rfl ?_
                             refine WN.skip _ rfl rfl rfl rfl ?_
                             refine WN.skip _ rfl rfl rfl rfl ?_
                             refine WN.heldSkip _ rfl rfl rfl rfl hS31 ?_
                             refine WN.step _ rfl (SO.skip rfl rfl rfl ?_)
                             refine ⟨hS31, ?_⟩
                             refine WN.step _ rfl (SO.skip rfl rfl rfl ?_)
                             refine ⟨trivial, ?_⟩
                             refine WN.skip _ rfl rfl rfl rfl ?_
                             refine WN.calm _ rfl rfl rfl rfl rfl (fun _ => r_pickF rfl (ev_t rfl) ev_c) ?_
                             refine WN.calm _ rfl rfl rfl rfl rfl (fun _ => r_pickF rfl (ev_t rfl) (ev_t rfl)) ?_
                             refine WN.done ?_
                             refine WX.keep [(3, _), (4, _), (5, _), (6, _), (12, _), (150, _)] ⟨rfl, rfl, rfl, rfl, rfl, rfl, trivial⟩ ?_
                             refine WX.next ?_
                             refine WC.cond_false rfl (ev_t rfl) ?_
                             refine WC.skip ?_
                             refine WX.blockNormal ?_
                             refine WX.next ?_
                             refine WC.region ?_
                             refine WL.val rfl rfl rfl rfl (r_move rfl (ev_t rfl)) ?_
                             first | refine WL.val rfl rfl rfl rfl (r_addN rfl (ev_t rfl) ev_c (by simp only [inK]; omega)) ?_ | refine WL.val rfl rfl rfl rfl (r_add rfl (ev_t rfl) ev_c) ?_
                             refine WL.val rfl rfl rfl rfl (r_assign rfl (ev_t rfl)) ?_
                             refine WL.nil ?_
                             refine WX.keep [(3, _), (4, _), (5, _), (6, _), (12, _)] ⟨rfl, rfl, rfl, rfl, rfl, trivial⟩ ?_
                             refine WX.meet [(3, _), (4, _), (5, _), (6, _), (12, _)] ⟨rfl, rfl, rfl, rfl, rfl, trivial⟩ ?_
                             exact ⟨m - (i + 1), by omega, i + 1, _, _, _, _, Gy5, T5, by omega, rfl, hU, by omega, hol5, hxs5, hoy5, hyb5, hI5, hR5, fun k hk => (by have := hGy5 k hk; omega), fun k hk => (by have := hT5 k hk; exact ⟨this.1, by omega, this.2.2⟩), by simp⟩
                    · try (exfalso; first | (simp at hc27; done) | (simp only [decide_eq_true_eq, decide_eq_false_iff_not, Bool.not_eq_true', Bool.not_eq_false', Bool.not_eq_true, Bool.not_eq_false] at hc27; omega) | omega)
                      all_goals
                       try simp only [decide_eq_true_eq, decide_eq_false_iff_not, Bool.not_eq_true', Bool.not_eq_false', Bool.not_eq_true, Bool.not_eq_false, Option.isNone_none, Option.isNone_some, Option.isSome_none, Option.isSome_some, ne_eq, Decidable.not_not] at hc27
                       obtain rfl : m = i := by omega
                       rw [hml, mixT_all] at hxs
                       rw [hml, List.take_length] at hyb
                       have hbd := canon_bound (a := .c nStar ((flat2 ps).map (ext (th σ)))) rfl (sz_star (t3_all (b := 1000) fun k t h hk => hszs k t h (by omega)))
                       rw [List.length_map, hfl] at hbd
                       have hra : Rd wE (fun _ => True) (.slice A m cl) ((flat2 ps).map (ext (th σ))).length 3 (xa.flatMap c3) := by rw [List.length_map, ← hml]; exact (hol4.rd (by omega)).mono fun _ _ => trivial
                       have hrb : Rd wE (fun _ => True) (.slice Ay m cy) ((flat2 ps).map (ext (th σ))).length 3 (yb.flatMap c3) := by rw [List.length_map, ← hml]; exact (hoy.rd (by omega)).mono fun _ _ => trivial
                       refine WC.exit ?_
                       refine WX.thenExit ?_
                       refine WX.thenExit ?_
                       refine WX.blockHere ?_
                       refine WX.next ?_
                       refine WC.seq ?_
                       refine WC.region ?_
                       refine WL.val rfl rfl rfl rfl (r_move rfl (ev_t rfl)) ?_
                       refine WL.val rfl rfl rfl rfl (r_move rfl (ev_t rfl)) ?_
                       refine WL.cons (SO.call (alike_ok hra (hxs.mono fun _ _ => trivial) hrb (hyb.mono fun _ _ => trivial) (by rw [List.length_map]; omega) (by rw [List.length_map]; omega) (by omega) (by omega)) rfl body_20 ⟨(ev_t rfl), (ev_t rfl), trivial⟩ rfl rfl rfl rfl ?_)
                       rintro v w31 ⟨bb, rfl, hbb, hu31⟩
                       obtain rfl := hbb.2 rfl
                       have hs31 := hu31.size
                       replace hU := hU.trans hu31 (by exact (fun _ _ h => h))
                       replace hol4 := hol4.upd hu31 (fun k hk hl hS => by exact (show False from hS).elim)
                       replace hxs := hxs.upd hu31 (fun k hk hl hS => by exact (show False from hS).elim)
                       replace hoy := hoy.upd hu31 (fun k hk hl hS => by exact (show False from hS).elim)
                       replace hyb := hyb.upd hu31 (fun k hk hl hS => by exact (show False from hS).elim)
                       replace hI4 := hI4.upd hu31 (fun k hk hl hS => by rcases hk with hk | hk <;> exact (show False from hS).elim)
                       replace hR4 := hR4.upd hu31 (fun k hk hl hS => by rcases hk with hk | hk <;> exact (show False from hS).elim)
                       refine WL.val rfl rfl rfl rfl (r_assign rfl (ev_t rfl)) ?_
                       refine WL.nil ?_
                       refine WX.keep [(2, _)] ⟨rfl, trivial⟩ ?_
                       refine WX.next ?_
                       refine WC.ret ?_
                       refine WX.retE1 rfl rfl ?_
                       exact ⟨rfl, hU⟩
end Go.Proofs.Ytncakfcafkfmfaa
