/-
  types: apart, Put.
-/
import Derived.Test.YtncakfcafkfmfaaTyh
namespace Go.Proofs.Ytncakfcafkfmfaa
open Go
set_option linter.unusedSimpArgs false
set_option linter.unusedVariables false

def apS (by_ : Int) : Int → Ty := fun x => .v (x % 8 + by_)
set_option maxHeartbeats 2000000 in
theorem apart_ok {by_ : Int} (hby : 0 ≤ by_ ∧ by_ ≤ 1000) : ∀ (N : Nat) (F : Nat → Prop) (w : World) (a b c : Value) (t : Ty), sz t ≤ N → TV w F (a, b, c) t → (∀ x ∈ vars t, 0 ≤ x ∧ x ≤ 1000) →
    Ret Try.prog 15 #[.agg #[a, b, c], .int .i64 by_] w fun v w' => ∃ a' b' c', v = .agg #[a', b', c'] ∧ TV w' (New w w') (a', b', c') (ext (apS by_) t) ∧ Upd No w w' := by
  intro N
  induction N with
  | zero =>
    intro F w a b c t hN
    have := sz_pos t
    omega
  | succ N ih =>
    intro F w a b c t hN ht hvs
    replace ht := ht.bound
    obtain ⟨m, A0, k0, xk, rfl, rfl, rfl, hm, hr, hl, hb, hk⟩ := ht.open
    have hks : TVs w (fun k => F k ∧ k < w.heap.size) xk t.kids := ⟨hl, hk⟩
    refine enterRet (vs := [_, _]) (N := 39) Try.func15 rfl rfl rfl ?_
    have hU := Upd.refl No w
    refine WC.keep [(0, _), (1, _)] ⟨rfl, rfl, trivial⟩ ?_
    refine WC.seq ?_
    refine WC.region ?_
    refine WL.cons (SO.alloc rfl rfl rfl rfl (r_boxAgg rfl (ev_t rfl)) ?_)
    intro w1 hu1 hB1 hz1
    have hs1 := hu1.size
    replace hU := hU.trans hu1 (by exact (fun _ _ h => h))
    replace hr := hr.upd hu1 (fun k hk hl hS => by exact (show False from hS).elim)
    replace hks := hks.upd hu1 (fun k hk hl hS => by exact (show False from hS).elim)
    refine WL.cons (SO.alloc rfl rfl rfl rfl (r_alloc rfl zero_28) ?_)
    intro w2 hu2 hB2 hz2
    have hs2 := hu2.size
    replace hU := hU.trans hu2 (by exact (fun _ _ h => h))
    replace hr := hr.upd hu2 (fun k hk hl hS => by exact (show False from hS).elim)
    replace hks := hks.upd hu2 (fun k hk hl hS => by exact (show False from hS).elim)
    replace hB1 := hB1.updA hu2
    refine WL.nil ?_
    refine WX.keep [(1, _), (2, _), (4, _)] ⟨rfl, rfl, rfl, trivial⟩ ?_
    refine WX.next ?_
    refine WC.seq ?_
    refine WC.seq ?_
    refine WC.region ?_
    first | refine WL.val rfl rfl rfl rfl (r_field0 rfl (ev_t rfl) fld_28_0) ?_ | refine WL.val rfl rfl rfl rfl (r_fieldAt rfl (ev_t rfl) fld_28_0) ?_
    refine WL.val rfl rfl rfl rfl (r_load rfl (ev_t rfl) flat_9 (Blk.cell hB1 rfl)) ?_
    refine WL.val rfl rfl rfl rfl (r_eqlStrL rfl (ev_t rfl) ev_c) ?_
    refine WL.nil ?_
    refine WX.keep [(1, _), (2, _), (4, _), (9, _)] ⟨rfl, rfl, rfl, rfl, trivial⟩ ?_
    refine WX.next ?_
    refine WC.cond rfl (ev_t rfl) (fun hc1 => ?_) (fun hc1 => ?_)
    · try (exfalso; first | (simp at hc1; done) | (simp only [decide_eq_true_eq, decide_eq_false_iff_not, Bool.not_eq_true', Bool.not_eq_false', Bool.not_eq_true, Bool.not_eq_false] at hc1; omega) | omega)
      all_goals
       try simp only [decide_eq_true_eq, decide_eq_false_iff_not, Bool.not_eq_true', Bool.not_eq_false', Bool.not_eq_true, Bool.not_eq_false, Option.isNone_none, Option.isNone_some, Option.isSome_none, Option.isSome_some, ne_eq, Decidable.not_not] at hc1
       obtain ⟨x, rfl⟩ := Ty.nm_nil.1 hc1
       obtain rfl := (hm x rfl).symm
       have hx := hvs x (by rw [vars_v]; simp)
       have hx8 : x % 8 < 8 ∧ 0 ≤ x % 8 := ⟨Int.emod_lt_of_pos _ (by omega), Int.emod_nonneg _ (by omega)⟩
       refine WC.seq ?_
       refine WC.region ?_
       first | refine WL.val rfl rfl rfl rfl (r_field0 rfl (ev_t rfl) fld_28_1) ?_ | refine WL.val rfl rfl rfl rfl (r_fieldAt rfl (ev_t rfl) fld_28_1) ?_
       refine WL.val rfl rfl rfl rfl (r_load rfl (ev_t rfl) flat_3 (Blk.cell hB1 rfl)) ?_
       first | refine WL.val rfl rfl rfl rfl (r_remN rfl (ev_t rfl) ev_c (by omega) (by omega)) ?_ | refine WL.val rfl rfl rfl rfl (r_rem rfl (ev_t rfl) ev_c (by omega)) ?_
       refine WL.val rfl rfl rfl rfl (r_move rfl (ev_t rfl)) ?_
       first | refine WL.val rfl rfl rfl rfl (r_addN rfl (ev_t rfl) (ev_t rfl) (by simp only [inK]; omega)) ?_ | refine WL.val rfl rfl rfl rfl (r_add rfl (ev_t rfl) (ev_t rfl)) ?_
       refine WL.val rfl rfl rfl rfl (r_build (cs := #[_, _, _]) (vs := [(1, _)]) rfl ⟨⟨rfl, (ev_t rfl)⟩, trivial⟩ plc_28 zero_28 rfl) ?_
       refine WL.cons (SO.storeAll (us := [_, _, _]) rfl (ev_t rfl) (ev_t rfl) size_28 hB2 rfl rfl rfl rfl rfl ?_)
       intro w3 hu3 hB2 hz3
       have hs3 := hu3.size
       replace hU := hU.trans hu3 (by (intro k hl hk; (try simp only [At, New, Grow, From, No] at hk ⊢); omega))
       replace hr := hr.upd hu3 (fun k hk hl hS => by (simp only [At] at hS; omega))
       replace hks := hks.upd hu3 (fun k hk hl hS => by (simp only [At] at hS; omega))
       replace hB1 := hB1.updA hu3
       refine WL.nil ?_
       refine WX.keep [(4, _)] ⟨rfl, trivial⟩ ?_
       refine WX.next ?_
       refine WC.ret ?_
       refine WX.thenRet ?_
       refine WX.retC (vs := [_, _, _]) rfl rfl agg_28 size_28 (Blk.cellsL hB2) ?_
       refine ⟨_, _, _, rfl, ?_, hU⟩
       rw [ext_v]
       exact TV.nil _
    · try (exfalso; first | (simp at hc1; done) | (simp only [decide_eq_true_eq, decide_eq_false_iff_not, Bool.not_eq_true', Bool.not_eq_false', Bool.not_eq_true, Bool.not_eq_false] at hc1; omega) | omega)
      all_goals
       try simp only [decide_eq_true_eq, decide_eq_false_iff_not, Bool.not_eq_true', Bool.not_eq_false', Bool.not_eq_true, Bool.not_eq_false, Option.isNone_none, Option.isNone_some, Option.isSome_none, Option.isSome_some, ne_eq, Decidable.not_not] at hc1
       obtain ⟨f, ks, rfl⟩ := nm_c hc1
       refine WC.skip ?_
       refine WX.next ?_
       refine WC.seq ?_
       refine WC.region ?_
       first | refine WL.val rfl rfl rfl rfl (r_field0 rfl (ev_t rfl) fld_28_0) ?_ | refine WL.val rfl rfl rfl rfl (r_fieldAt rfl (ev_t rfl) fld_28_0) ?_
       refine WL.val rfl rfl rfl rfl (r_load rfl (ev_t rfl) flat_9 (Blk.cell hB1 rfl)) ?_
       refine WL.val rfl rfl rfl rfl (r_build (cs := #[_, _, _]) (vs := [(0, _)]) rfl ⟨⟨rfl, (ev_t rfl)⟩, trivial⟩ plc_28 zero_28 rfl) ?_
       refine WL.cons (SO.alloc rfl rfl rfl rfl (r_alloc rfl zero_28) ?_)
       intro w4 hu4 hB4 hz4
       have hs4 := hu4.size
       replace hU := hU.trans hu4 (by exact (fun _ _ h => h))
       replace hr := hr.upd hu4 (fun k hk hl hS => by exact (show False from hS).elim)
       replace hks := hks.upd hu4 (fun k hk hl hS => by exact (show False from hS).elim)
       replace hB1 := hB1.updA hu4
       replace hB2 := hB2.upd hu4 (by exact (fun h => h))
       refine WL.cons (SO.storeAll (us := [_, _, _]) rfl (ev_t rfl) (ev_t rfl) size_28 hB4 rfl rfl rfl rfl rfl ?_)
       intro w5 hu5 hB4 hz5
       have hs5 := hu5.size
       replace hU := hU.trans hu5 (by (intro k hl hk; (try simp only [At, New, Grow, From, No] at hk ⊢); omega))
       replace hr := hr.upd hu5 (fun k hk hl hS => by (simp only [At] at hS; omega))
       replace hks := hks.upd hu5 (fun k hk hl hS => by (simp only [At] at hS; omega))
       replace hB1 := hB1.updA hu5
       replace hB2 := hB2.upd hu5 (by (simp only [At]; omega))
       refine WL.nil ?_
       refine WX.keep [(1, _), (2, _), (4, _), (5, _)] ⟨rfl, rfl, rfl, rfl, trivial⟩ ?_
       refine WX.next ?_
       refine WC.seq ?_
       refine WC.seq ?_
       refine WC.region ?_
       refine WL.val rfl rfl rfl rfl (r_assign rfl ev_c) ?_
       refine WL.nil ?_
       refine WX.keep [(1, _), (2, _), (4, _), (5, _), (6, _)] ⟨rfl, rfl, rfl, rfl, rfl, trivial⟩ ?_
       refine WX.next ?_
       refine WC.block ?_
       -- loop 1: live [1, 2, 4, 5, 6]
       refine WC.keep [(1, _), (2, _), (4, _), (5, _), (6, _)] ⟨rfl, rfl, rfl, rfl, rfl, trivial⟩ ?_
       refine WC.loop (fun q E w' => ∃ (i : Nat) (A5 : Option Addr) (c5 : Nat) (ys : List C3) (G T : Nat → Prop), i ≤ ks.length ∧ q = ks.length - i ∧ Upd No w w' ∧ w4.heap.size ≤ w'.heap.size ∧ Rd w' (fun k => F k ∧ k < w.heap.size) (.slice A0 ks.length k0) ks.length 3 (xk.flatMap c3) ∧ TVs w' (fun k => F k ∧ k < w.heap.size) xk ks ∧   Blk w' w.heap.size #[.string ⟨f.1.toArray⟩, .int .i64 m, .slice A0 ks.length k0] typ ∧ Blk w' w1.heap.size #[.string ⟨#[]⟩, .int .i64 0, .slice none 0 0] typ ∧ Blk w' w2.heap.size #[.string ⟨f.1.toArray⟩, .int .i64 0, .slice A5 i c5] typ ∧ Own w' G typ 3 (.slice A5 i c5) i (ys.flatMap c3) ∧ TVs w' T ys ((ks.take i).map (ext (apS by_))) ∧ (∀ k, G k → w4.heap.size ≤ k ∧ k < w'.heap.size) ∧ (∀ k, T k → w4.heap.size ≤ k ∧ k < w'.heap.size ∧ ¬ G k) ∧   E = [(1, .int .i64 by_), (2, .pointer (some ⟨w.heap.size, 0, none⟩)), (4, .pointer (some ⟨w1.heap.size, 0, none⟩)), (5, .pointer (some ⟨w2.heap.size, 0, none⟩)), (6, .int .i64 (i : Int))]) (ks.length) ?_ ?_
       · exact ⟨0, none, 0, [], fun _ => False, fun _ => False, by omega, by omega, hU, by omega, hr, hks, hB1, hB2, hB4, Own.nil _ _ _ _, TVs.nil _ _, fun k h => h.elim, fun k h => h.elim, rfl⟩
       · clear hU hr hks hB1 hB2
         rintro q E w' ⟨i, A5, c5, ys, G, T, hi, rfl, hU, hws, hr, hks, hb2, hB2, hb5, ho, hys, hG, hT, rfl⟩
         have hs0 := hU.size
         simp only [Ty.kids] at hb
         refine WC.seq ?_
         refine WC.seq ?_
         refine WC.region ?_
         refine WL.val rfl rfl rfl rfl (r_move rfl (ev_t rfl)) ?_
         first | refine WL.val rfl rfl rfl rfl (r_field0 rfl (ev_t rfl) fld_28_2) ?_ | refine WL.val rfl rfl rfl rfl (r_fieldAt rfl (ev_t rfl) fld_28_2) ?_
         refine WL.val rfl rfl rfl rfl (r_load rfl (ev_t rfl) flat_26 (Blk.cell hb2 rfl)) ?_
         refine WL.val rfl rfl rfl rfl (r_lenSlice (ts := #[]) rfl (ev_t rfl) elem_26) ?_
         refine WL.val rfl rfl rfl rfl (r_lss rfl (ev_t rfl) (ev_t rfl)) ?_
         refine WL.nil ?_
         refine WX.keep [(1, _), (2, _), (4, _), (5, _), (6, _), (23, _)] ⟨rfl, rfl, rfl, rfl, rfl, rfl, trivial⟩ ?_
         refine WX.next ?_
         refine WC.cond rfl (ev_t rfl) (fun hc5 => ?_) (fun hc5 => ?_)
         · try (exfalso; first | (simp at hc5; done) | (simp only [decide_eq_true_eq, decide_eq_false_iff_not, Bool.not_eq_true', Bool.not_eq_false', Bool.not_eq_true, Bool.not_eq_false] at hc5; omega) | omega)
           all_goals
            try simp only [decide_eq_true_eq, decide_eq_false_iff_not, Bool.not_eq_true', Bool.not_eq_false', Bool.not_eq_true, Bool.not_eq_false, Option.isNone_none, Option.isNone_some, Option.isSome_none, Option.isSome_some, ne_eq, Decidable.not_not] at hc5
            have hi' : i < ks.length := by omega
            obtain ⟨b0, off, rfl, _⟩ := hr.open (by omega)
            have hlx : i < xk.length := by have := hks.1; omega
            have hxi : xk[i]? = some xk[i] := List.getElem?_eq_getElem hlx
            have hki : ks[i]? = some ks[i] := List.getElem?_eq_getElem hi'
            have htk := hks.2 i _ _ hxi hki
            have htake := take_map_snoc (f := ext (apS by_)) hi'
            have hkl := sz_kid (n := f) (List.getElem_mem hi')
            have hkv : ∀ x ∈ vars ks[i], 0 ≤ x ∧ x ≤ 1000 := fun x hx => hvs x (mem_vars_c.2 ⟨_, List.getElem_mem hi', hx⟩)
            generalize xk[i] = ck at *
            generalize ks[i] = kk at *
            obtain ⟨ca, cb, cc⟩ := ck
            refine WC.skip ?_
            refine WX.next ?_
            refine WC.seq ?_
            refine WC.block ?_
            refine WC.draws' (fun u0_ u1_ => Upd No u0_ u1_) (fun j => [0, 0, 0, 1, 0, 0, 1, 0, 1, 1, 2, 0, 2].getD j 0) (.calm 0 (.calm 2 (.calm 4 (.calm 7 (.held 1 (.one 3 (.calm 5 (.one 6 (.one 8 (.one 9 (.one 10 (.calm 11 (.one 12 (.done)))))))))))))) mixed (by kernel_rfl) (by repeat (first | with_reducible exact Deaf.body | with_reducible apply Deaf.then | with_reducible apply Deaf.block)) ?_
            intro w6 hu6
            have hz6 := congrArg Array.size hu6.2.2.2
            replace hu6 := Upd.of_draw hu6
            have hs6 := hu6.size
            replace hU := hU.trans hu6 (by exact (fun _ _ h => h))
            replace hr := hr.upd hu6 (fun k hk hl hS => by exact (show False from hS).elim)
            replace hks := hks.upd hu6 (fun k hk hl hS => by exact (show False from hS).elim)
            replace hb2 := hb2.upd hu6 (by exact (fun h => h))
            replace hB2 := hB2.upd hu6 (by exact (fun h => h))
            replace hb5 := hb5.upd hu6 (by exact (fun h => h))
            replace ho := ho.upd hu6 (fun k hk hl hS => by exact (show False from hS).elim)
            replace hys := hys.upd hu6 (fun k hk hl hS => by have := hT k hk; exact (show False from hS).elim)
            replace htk := htk.upd hu6 (fun k hk hl hS => by exact (show False from hS).elim)
            have hS7 := Upd.refl No w6
            first | refine WN.calm _ rfl rfl rfl rfl rfl (fun _ => r_field0 rfl (ev_t rfl) fld_28_2) ?_ | refine WN.calm _ rfl rfl rfl rfl rfl (fun _ => r_fieldAt rfl (ev_t rfl) fld_28_2) ?_
            first | refine WN.calm _ rfl rfl rfl rfl rfl (fun _ => r_field0 rfl (ev_t rfl) fld_28_2) ?_ | refine WN.calm _ rfl rfl rfl rfl rfl (fun _ => r_fieldAt rfl (ev_t rfl) fld_28_2) ?_
            refine WN.calm _ rfl rfl rfl rfl rfl (fun _ => r_move rfl (ev_t rfl)) ?_
            refine WN.calm _ rfl rfl rfl rfl rfl (fun _ => r_move rfl (ev_t rfl)) ?_
            refine WN.held _ rfl rfl rfl rfl rfl hS7 (fun w' hS => r_load rfl (ev_t rfl) flat_26 (Blk.cell (hb5.upd hS (fun h => h)) rfl)) ?_
            refine WN.step _ rfl (SO.val rfl rfl rfl rfl (r_load rfl (ev_t rfl) flat_26 (Blk.cell hb2 rfl)) ?_)
            refine ⟨hS7, ?_⟩
            refine WN.calm _ rfl rfl rfl rfl rfl (fun _ => r_indexAddr rfl (ev_t rfl) (ev_t rfl) elem_26 size_28 (by omega) (by omega)) ?_
            refine WN.step _ rfl (SO.val rfl rfl rfl rfl (r_loadAgg (vs := [_, _, _]) rfl (ev_t rfl) agg_28 size_28 (kid_cells hr hxi rfl)) ?_)
            refine ⟨hS7, ?_⟩
            refine WN.step _ rfl (SO.call (ih _ _ _ _ _ kk (by omega) htk hkv) rfl body_15 ⟨(ev_t rfl), (ev_t rfl), trivial⟩ rfl rfl rfl rfl ?_)
            rintro v w7 ⟨a8, b8, c8, rfl, ht8, hu7⟩
            obtain ⟨m8, A8, k8, xk8, rfl, rfl, rfl, _⟩ := ht8.open
            have hs8 := hu7.size
            have hs7 := hu7.size
            replace hS7 := Upd.transA hS7 hu7
            replace hU := hU.trans hu7 (by exact (fun _ _ h => h))
            replace hr := hr.upd hu7 (fun k hk hl hS => by exact (show False from hS).elim)
            replace hks := hks.upd hu7 (fun k hk hl hS => by exact (show False from hS).elim)
            replace hb2 := hb2.upd hu7 (by exact (fun h => h))
            replace hB2 := hB2.upd hu7 (by exact (fun h => h))
            replace hb5 := hb5.upd hu7 (by exact (fun h => h))
            replace ho := ho.upd hu7 (fun k hk hl hS => by exact (show False from hS).elim)
            replace hys := hys.upd hu7 (fun k hk hl hS => by have := hT k hk; exact (show False from hS).elim)
            replace htk := htk.upd hu7 (fun k hk hl hS => by exact (show False from hS).elim)
            have hys2 := (hys.mono (F' := fun k => T k ∨ New w6 w7 k) (fun k h => .inl h)).snoc (ht8.mono (F' := fun k => T k ∨ New w6 w7 k) (fun k h => .inr h))
            rw [← htake] at hys2
            refine ⟨hS7, ?_⟩
            refine WN.step _ rfl (SO.alloc rfl rfl rfl rfl (r_buildSlice (cs := #[_, _, _]) (vs := [(0, _)]) rfl ⟨⟨rfl, (ev_t rfl)⟩, trivial⟩ row_26 rfl rfl) ?_)
            intro w8 hu8 hB8 hz8
            have hs8 := hu8.size
            replace hS7 := Upd.transA hS7 hu8
            replace hU := hU.trans hu8 (by exact (fun _ _ h => h))
            replace hr := hr.upd hu8 (fun k hk hl hS => by exact (show False from hS).elim)
            replace hks := hks.upd hu8 (fun k hk hl hS => by exact (show False from hS).elim)
            replace hb2 := hb2.upd hu8 (by exact (fun h => h))
            replace hB2 := hB2.upd hu8 (by exact (fun h => h))
            replace hb5 := hb5.upd hu8 (by exact (fun h => h))
            replace ho := ho.upd hu8 (fun k hk hl hS => by exact (show False from hS).elim)
            replace hys2 := hys2.upd hu8 (fun k hk hl hS => by exact (show False from hS).elim)
            refine ⟨hS7, ?_⟩
            refine WN.step _ rfl (SO.append ho (show Rd _ _ _ 1 3 [Value.string ⟨(ext (apS by_) kk).nm.toArray⟩, .int .i64 m8, .slice A8 (ext (apS by_) kk).kids.length k8] from rd_one hB8) row_26 one_c3 (le_maxLen (by omega)) (by omega) rfl (ev_t rfl) (ev_t rfl) rfl rfl rfl rfl ?_)
            intro v9 w9 ho hu9
            have hs9 := hu9.size
            try replace hS7 := Upd.transA hS7 hu9
            replace hU := hU.trans hu9 (by (intro k hl hk; have := hG k hk; omega))
            replace hr := hr.upd hu9 (fun k hk hl hS => by (have := hG k hS; omega))
            replace hks := hks.upd hu9 (fun k hk hl hS => by (have := hG k hS; omega))
            replace hb2 := hb2.upd hu9 (by (intro hS; have := hG _ hS; omega))
            replace hB2 := hB2.upd hu9 (by (intro hS; have := hG _ hS; omega))
            replace hb5 := hb5.upd hu9 (by (intro hS; have := hG _ hS; omega))
            replace hys2 := hys2.upd hu9 (fun k hk hl hS => by (rcases hk with hk | hk <;> first | exact (hT k hk).2.2 hS | (have := hT k hk; simp only [At] at hS; omega) | (simp only [New] at hk; have := hG k hS; omega) | (simp only [New, At] at *; omega)))
            refine ⟨trivial, ?_⟩
            obtain ⟨A9, c9, rfl, hc9⟩ := Own.form ho
            rw [← flat_snoc] at ho
            first | refine WN.calm _ rfl rfl rfl rfl rfl (fun _ => r_field0 rfl (ev_t rfl) fld_28_2) ?_ | refine WN.calm _ rfl rfl rfl rfl rfl (fun _ => r_fieldAt rfl (ev_t rfl) fld_28_2) ?_
            refine WN.step _ rfl (SO.store rfl (ev_t rfl) (ev_t rfl) size_26 hb5 rfl rfl rfl rfl rfl ?_)
            intro w10 hu10 hb5 hz10
            have hs10 := hu10.size
            try replace hS7 := Upd.transA hS7 hu10
            replace hU := hU.trans hu10 (by (intro k hl hk; (try simp only [At, New, Grow, From, No] at hk ⊢); omega))
            replace hr := hr.upd hu10 (fun k hk hl hS => by (simp only [At] at hS; omega))
            replace hks := hks.upd hu10 (fun k hk hl hS => by (simp only [At] at hS; omega))
            replace hb2 := hb2.upd hu10 (by (simp only [At]; omega))
            replace hB2 := hB2.upd hu10 (by (simp only [At]; omega))
            replace ho := ho.upd hu10 (fun k hk hl hS => by (simp only [At] at hS; first | (have := hG k hk; omega) | (rcases hk with hk | hk <;> first | (have := hG k hk; omega) | omega)))
            replace hys2 := hys2.upd hu10 (fun k hk hl hS => by (rcases hk with hk | hk <;> first | exact (hT k hk).2.2 hS | (have := hT k hk; simp only [At] at hS; omega) | (simp only [New] at hk; have := hG k hS; omega) | (simp only [New, At] at *; omega)))
            refine ⟨trivial, ?_⟩
            refine WN.done ?_
            refine WX.keep [(1, _), (2, _), (4, _), (5, _), (6, _)] ⟨rfl, rfl, rfl, rfl, rfl, trivial⟩ ?_
            refine WX.blockNormal ?_
            refine WX.next ?_
            refine WC.region ?_
            refine WL.val rfl rfl rfl rfl (r_move rfl (ev_t rfl)) ?_
            first | refine WL.val rfl rfl rfl rfl (r_addN rfl (ev_t rfl) ev_c (by simp only [inK]; omega)) ?_ | refine WL.val rfl rfl rfl rfl (r_add rfl (ev_t rfl) ev_c) ?_
            refine WL.val rfl rfl rfl rfl (r_assign rfl (ev_t rfl)) ?_
            refine WL.nil ?_
            refine WX.keep [(1, _), (2, _), (4, _), (5, _), (6, _)] ⟨rfl, rfl, rfl, rfl, rfl, trivial⟩ ?_
            refine WX.meet [(1, _), (2, _), (4, _), (5, _), (6, _)] ⟨rfl, rfl, rfl, rfl, rfl, trivial⟩ ?_
            refine ⟨ks.length - (i + 1), by omega, i + 1, _, _, _, _, _, by omega, rfl, hU, by omega, hr, hks, hb2, hB2, hb5, ho, hys2, fun k hk => ?_, fun k hk => ?_, by simp⟩
            · rcases hk with hk | hk
              · have := hG k hk; omega
              · omega
            · rcases hk with hk | hk
              · have h9 := hT k hk
                refine ⟨by omega, by omega, fun h => ?_⟩
                rcases h with h | h
                · exact h9.2.2 h
                · omega
              · simp only [New] at hk
                refine ⟨by omega, by omega, fun h => ?_⟩
                rcases h with h | h
                · have := hG k h; omega
                · omega
         · try (exfalso; first | (simp at hc5; done) | (simp only [decide_eq_true_eq, decide_eq_false_iff_not, Bool.not_eq_true', Bool.not_eq_false', Bool.not_eq_true, Bool.not_eq_false] at hc5; omega) | omega)
           all_goals
            try simp only [decide_eq_true_eq, decide_eq_false_iff_not, Bool.not_eq_true', Bool.not_eq_false', Bool.not_eq_true, Bool.not_eq_false, Option.isNone_none, Option.isNone_some, Option.isSome_none, Option.isSome_some, ne_eq, Decidable.not_not] at hc5
            refine WC.exit ?_
            refine WX.thenExit ?_
            refine WX.thenExit ?_
            refine WX.blockHere ?_
            refine WX.next ?_
            refine WC.seq ?_
            refine WC.region ?_
            refine WL.val rfl rfl rfl rfl (r_loadAgg (vs := [_, _, _]) rfl (ev_t rfl) agg_28 size_28 (Blk.cellsL hb5)) ?_
            refine WL.cons (SO.storeAll (us := [_, _, _]) rfl (ev_t rfl) (ev_t rfl) size_28 hB2 rfl rfl rfl rfl rfl ?_)
            intro w11 hu11 hB2 hz11
            have hs11 := hu11.size
            replace hU := hU.trans hu11 (by (intro k hl hk; (try simp only [At, New, Grow, From, No] at hk ⊢); omega))
            replace hr := hr.upd hu11 (fun k hk hl hS => by (simp only [At] at hS; omega))
            replace hks := hks.upd hu11 (fun k hk hl hS => by (simp only [At] at hS; omega))
            replace hb2 := hb2.upd hu11 (by (simp only [At]; omega))
            replace hb5 := hb5.upd hu11 (by (simp only [At]; omega))
            replace ho := ho.upd hu11 (fun k hk hl hS => by (simp only [At] at hS; first | (have := hG k hk; omega) | (rcases hk with hk | hk <;> first | (have := hG k hk; omega) | omega)))
            replace hys := hys.upd hu11 (fun k hk hl hS => by have := hT k hk; (simp only [At] at hS; omega))
            refine WL.nil ?_
            refine WX.keep [(4, _)] ⟨rfl, trivial⟩ ?_
            refine WX.next ?_
            refine WC.ret ?_
            refine WX.retC (vs := [_, _, _]) rfl rfl agg_28 size_28 (Blk.cellsL hB2) ?_
            obtain rfl : i = ks.length := by omega
            rw [List.take_of_length_le (Nat.le_refl _)] at hys
            refine ⟨_, _, _, rfl, ?_, hU⟩
            rw [ext_c]
            refine TV.kids (t := .c f (ks.map (ext (apS by_)))) (xs := ys) (fun x e => by cases e) ?_ (by simpa [Ty.kids] using hb) (hys.mono fun k hk => by have := hT k hk; simp only [New]; omega)
            simp only [Ty.kids, List.length_map]
            exact (ho.rd (by omega)).mono fun k hk => by have := hG k hk; simp only [New]; omega
end Go.Proofs.Ytncakfcafkfmfaa
